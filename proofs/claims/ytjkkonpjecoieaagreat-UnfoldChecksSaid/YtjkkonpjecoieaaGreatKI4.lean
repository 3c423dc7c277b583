import Derived.Test.YtjkkonpjecoieaaGreatKNum
import Derived.Test.YtjkkonpjecoieaaGreatProg
import Derived.KernelRfl
import Derived.Test.YtjkkonpjecoieaaGreatKV1
import Derived.Test.YtjkkonpjecoieaaGreatKGA
set_option linter.unusedSimpArgs false
set_option linter.unusedVariables false
namespace Go.Proofs.YtjkkonpjecoieaaGreat
open Go Go.Abs
set_option maxRecDepth 100000
def zEr (_ : Nat) : List Bool := []
noncomputable def zEs : Code := Tryz.f13.body.getD .skip
def zvK (t0 : AV) (H : zaa) (K : Kt) : Prop :=
 zao t0 H fun t1 H =>
 zau [(.int .i64 0)] H fun t3 H =>
 zak 1 t3 (.int .i64 400) H fun H =>
 zad true 3 t1 H fun t4 =>
 ACalls tP zik [t4, t3] H fun t5 H =>
 K t5 H
theorem zEt {t0 : AV} {H : zaa} {K : Kt} (h : HSc H → zvK t0 H K) : ACalls tP zmU [t0] H K :=
 zam (M := zEr) Tryz.func13 (c := zEs) (by kernel_rfl) (fun hs => Eq.mpr (by kernel_rfl) (h hs))
def zKV (_ : Nat) : List Bool := []
noncomputable def zKW : Code := Tryz.f32.body.getD .skip
def zyq (t0 t1 t2 : AV) (H : zaa) (K : Kt) : Prop :=
 zao t1 H fun t4 H =>
 zao t2 H fun t5 H =>
 zau [(.int .i64 0)] H fun t7 H =>
 zak 1 t7 (.int .i64 5000) H fun H =>
 zad true 3 t5 H fun t9 =>
 ACalls tP znE [t0, t9] H fun t10 H =>
 zab t10 true H (fun K' => zad true 3 t4 H (K' · H)) fun t12 H =>
 zab t10 true H (fun K' => ACalls tP ziu [t12, t7] H K') fun t13 H =>
 zai t10 t13 (.bool false) fun t14 =>
 zab t14 true H (fun K' => K' t0 H) fun t16 H =>
 zab t14 true H (fun K' => zad true 3 t4 H (K' · H)) fun t17 H =>
 zab t14 true H (fun K' => zad true 3 t5 H (K' · H)) fun t18 H =>
 zab t14 true H (fun K' => ACalls tP zgO [t16, t17, t18] H K') fun t19 H =>
 zai t14 t19 (.bool false) fun t20 =>
 K t20 H
theorem zKX {t0 t1 t2 : AV} {H : zaa} {K : Kt} (h : HSc H → zyq t0 t1 t2 H K) : ACalls tP znw [t0, t1, t2] H K :=
 zam (M := zKV) Tryz.func32 (c := zKW) (by kernel_rfl) (fun hs => Eq.mpr (by kernel_rfl) (h hs))
def zFG (_ : Nat) : List Bool := []
noncomputable def zFH : Code := Tryz.f15.body.getD .skip
def zwl (t0 t1 t2 : AV) (H : zaa) (K : Kt) : Prop :=
 zao t1 H fun t4 H =>
 zao t2 H fun t5 H =>
 zau [(.int .i64 0)] H fun t7 H =>
 zak 1 t7 (.int .i64 5000) H fun H =>
 ACalls tP zil [t0] H fun t9 H =>
 zab t9 true H (fun K' => K' t0 H) fun t11 H =>
 zab t9 true H (fun K' => zad true 3 t5 H (K' · H)) fun t12 H =>
 zab t9 true H (fun K' => ACalls tP zgJ [t11, t12, (.int .i64 0)] H K') fun t13 H =>
 zai t9 t13 (.bool false) fun t14 =>
 zab t14 true H (fun K' => zad true 3 t4 H (K' · H)) fun t16 H =>
 zab t14 true H (fun K' => ACalls tP zim [t16, t7] H K') fun t17 H =>
 zai t14 t17 (.bool false) fun t18 =>
 zab t18 true H (fun K' => K' t0 H) fun t20 H =>
 zab t18 true H (fun K' => zad true 3 t4 H (K' · H)) fun t21 H =>
 zab t18 true H (fun K' => zad true 3 t5 H (K' · H)) fun t22 H =>
 zab t18 true H (fun K' => ACalls tP zgK [t20, t21, t22] H K') fun t23 H =>
 zai t18 t23 (.bool false) fun t24 =>
 K t24 H
theorem zFI {t0 t1 t2 : AV} {H : zaa} {K : Kt} (h : HSc H → zwl t0 t1 t2 H K) : ACalls tP zm1 [t0, t1, t2] H K :=
 zam (M := zFG) Tryz.func15 (c := zFH) (by kernel_rfl) (fun hs => Eq.mpr (by kernel_rfl) (h hs))
def zNo (_ : Nat) : List Bool := []
noncomputable def zNp : Code := Tryz.f75.body.getD .skip
def zzf (t0 t1 : AV) (H : zaa) (K : Kt) : Prop :=
 zao t1 H fun t3 H =>
 zax [.snil, .snil, .snil, .snil] [(0, 1), (1, 1), (2, 1), (3, 1)] [(0, t0)] fun t6 =>
 ACalls tP zhW [t6] H fun t7 H =>
 zab t7 true H (fun K' => K' t0 H) fun t9 H =>
 zab t7 true H (fun K' => zad true 3 t3 H (K' · H)) fun t10 H =>
 zab t7 true H (fun K' => ACalls tP zfn [t9, t10, (.int .i64 0)] H K') fun t11 H =>
 zai t7 t11 (.bool false) fun t12 =>
 K t12 H
theorem zNq {t0 t1 : AV} {H : zaa} {K : Kt} (h : HSc H → zzf t0 t1 H K) : ACalls tP znE [t0, t1] H K :=
 zam (M := zNo) Tryz.func75 (c := zNp) (by kernel_rfl) (fun hs => Eq.mpr (by kernel_rfl) (h hs))
def zNs (_ : Nat) : List Bool := []
noncomputable def zNt : Code := Tryz.f76.body.getD .skip
def zzg (t0 t1 : AV) (H : zaa) (K : Kt) : Prop :=
 zao t0 H fun t2 H =>
 zao t1 H fun t3 H =>
 zad false 1 t3 H fun t5 =>
 za3 t5 fun t6 =>
 zad false 1 t6 H fun t7 =>
 zac .sub false t7 (.int .i64 1) fun t8 =>
 za3 t5 fun t9 =>
 zak 1 t9 t8 H fun H =>
 zad false 1 t3 H fun t10 =>
 za3 t10 fun t11 =>
 zad false 1 t11 H fun t12 =>
 zac .lss false t12 (.int .i64 0) fun t13 =>
 zag t13
 (K (.bool false) H)
 (zaf 2 t2 fun t14 =>
 zad false 1 t14 H fun t15 =>
 zb2 zmW [t3] fun t16 =>
 ACalls tP zhY [t15, t16] H fun t17 H =>
 aUn .not t17 fun t18 =>
 K t18 H)
theorem zNu {t0 t1 : AV} {H : zaa} {K : Kt} (h : HSc H → zzg t0 t1 H K) : ACalls tP ziu [t0, t1] H K :=
 zam (M := zNs) Tryz.func76 (c := zNt) (by kernel_rfl) (fun hs => Eq.mpr (by kernel_rfl) (h hs))
def zEy (_ : Nat) : List Bool := []
noncomputable def zEz : Code := Tryz.f123.body.getD .skip
def zvZ (t0 t1 : AV) (H : zaa) (K : Kt) : Prop :=
 zao t0 H fun t2 H =>
 zad true 3 t2 H fun t4 =>
 zad false 1 t1 H fun t5 =>
 ACalls tP ziu [t4, t5] H fun t6 H =>
 aUn .not t6 fun t7 =>
 K t7 H
theorem zEA {t0 t1 : AV} {H : zaa} {K : Kt} (h : HSc H → zvZ t0 t1 H K) : ACalls tP zmW [t0, t1] H K :=
 zam (M := zEy) Tryz.func123 (c := zEz) (by kernel_rfl) (fun hs => Eq.mpr (by kernel_rfl) (h hs))
def zEv (_ : Nat) : List Bool := []
noncomputable def zEw : Code := Tryz.f122.body.getD .skip
def zvY (t0 t1 : AV) (H : zaa) (K : Kt) : Prop :=
 ACalls tP znc [t0, t1] H fun t7 H =>
 zac .geq false t7 (.int .i64 0) fun t8 =>
 K t8 H
theorem zEx {t0 t1 : AV} {H : zaa} {K : Kt} (h : HSc H → zvY t0 t1 H K) : ACalls tP zhY [t0, t1] H K :=
 zam (M := zEv) Tryz.func122 (c := zEw) (by kernel_rfl) (fun hs => Eq.mpr (by kernel_rfl) (h hs))
def zj7 : Nat → List Bool
 | 2 => rl false [0,2,5,2,10]
 | _ => []
noncomputable def zpE : Code := Tryz.f166.body.getD .skip
noncomputable def zHJ : List ResultVar := Tryz.f166.results.toList
def zj8 (t0 t1 t7 t8 : AV) : List AV := t0 :: t1 :: ux 5 (t7 :: t8 :: ux 10 [])
def zHH : List Bool := zj7 2
noncomputable def zHF : Code := zas [1, 0, 1, 0, 0] zpE
def zHE (K : Kt) : AExit → List AV → zaa → Prop := zat tP zj7 [1, 0, 1, 0] zpE (zaA tP zHJ K)
def zxj (t0 t1 t7 t8 : AV) (H : zaa) (K : Kt) : Prop := ALoop tP zHF (zHE K) (zj8 t0 t1 t7 t8) H
def zpD (t0 t1 t7 t8 : AV) (H : zaa) (K : Kt) (Kb2 : Lt) : Prop :=
 zac .lss false t8 t7 fun t9 =>
 zag t9
 (zaj 3 t0 t8 fun t14 =>
 zad true 3 t14 H fun t15 =>
 aCallV tP t1 [t15] H fun t16 H =>
 zag t16
 (K t8 H)
 (zac .add false t8 (.int .i64 1) fun t18 =>
 Kb2 (zj8 t0 t1 t7 t18) H))
 (K (.int .i64 (-1)) H)
def zxi (t0 t1 : AV) (H : zaa) (K : Kt) : Prop :=
 zah 1 t0 fun t7 =>
 zxj t0 t1 t7 (.int .i64 0) H K
theorem zHG {t0 t1 t7 t8 : AV} {H : zaa} {K : Kt} (Inv : Nat → AV → zaa → Prop) (n : Nat) (h0 : HSc H → Inv n t8 H)
  (round : Rd1 (fun t8 => zj8 t0 t1 t7 t8) (fun t8 => fun H Kb2 => zpD t0 t1 t7 t8 H K Kb2) H Inv) : zxj t0 t1 t7 t8 H K :=
 lp1 (M := zj7) zHH t8 (by kernel_rfl) Inv n h0 round
theorem zHI {t0 t1 : AV} {H : zaa} {K : Kt} (h : HSc H → zxi t0 t1 H K) : ACalls tP znc [t0, t1] H K :=
 zam (M := zj7) Tryz.func166 (c := zpE) (by kernel_rfl) (fun hs => Eq.mpr (by kernel_rfl) (h hs))
def zNw (_ : Nat) : List Bool := []
noncomputable def zNx : Code := Tryz.f77.body.getD .skip
def zdT (t0 t1 t2 : AV) (H : zaa) (K : Kt) : Prop :=
 zao t0 H fun t3 H =>
 zao t1 H fun t4 H =>
 zao t2 H fun t5 H =>
 zaf 0 t5 fun t9 =>
 zad false 1 t9 H fun t10 =>
 zac .eql false t10 (.int .i64 1) fun t12 =>
 zag t12
 (zaf 0 t4 fun t13 =>
 zad false 1 t13 H fun t14 =>
 zac .eql false t14 (.int .i64 3) fun t15 =>
 zab t15 true H (fun K' => zaf 1 t4 (K' · H)) fun t17 H =>
 zab t15 true H (fun K' => zad false 1 t17 H (K' · H)) fun t18 H =>
 zab t15 true H (fun K' => zac .leq false (.int .i64 (-1099511627776)) t18 (K' · H)) fun t19 H =>
 zai t15 t19 (.bool false) fun t20 =>
 zab t20 true H (fun K' => zaf 1 t4 (K' · H)) fun t22 H =>
 zab t20 true H (fun K' => zad false 1 t22 H (K' · H)) fun t23 H =>
 zab t20 true H (fun K' => zac .leq false t23 (.int .i64 1099511627776) (K' · H)) fun t24 H =>
 zai t20 t24 (.bool false) fun t25 =>
 zab t25 true H (fun K' => zaf 2 t4 (K' · H)) fun t27 H =>
 zab t25 true H (fun K' => zad false 1 t27 H (K' · H)) fun t28 H =>
 zab t25 true H (fun K' => zah 1 t28 (K' · H)) fun t29 H =>
 zab t25 true H (fun K' => zac .eql false t29 (.int .i64 0) (K' · H)) fun t30 H =>
 zai t25 t30 (.bool false) fun t31 =>
 K t31 H)
 (zac .eql false t10 (.int .i64 2) fun t33 =>
 zag t33
 (zaf 0 t4 fun t34 =>
 zad false 1 t34 H fun t35 =>
 zac .eql false t35 (.int .i64 2) fun t36 =>
 zab t36 true H (fun K' => zaf 1 t4 (K' · H)) fun t38 H =>
 zab t36 true H (fun K' => zad false 1 t38 H (K' · H)) fun t39 H =>
 zab t36 true H (fun K' => zac .eql false t39 (.int .i64 0) (K' · H)) fun t40 H =>
 zab t36 true H (fun K' => K' t40 H) fun t41 H =>
 zab t41 false H (fun K' => zaf 1 t4 (K' · H)) fun t42 H =>
 zab t41 false H (fun K' => zad false 1 t42 H (K' · H)) fun t43 H =>
 zab t41 false H (fun K' => zac .eql false t43 (.int .i64 1) (K' · H)) fun t44 H =>
 zab t36 true H (fun K' => zai t41 (.bool true) t44 (K' · H)) fun t45 H =>
 zai t36 t45 (.bool false) fun t46 =>
 zab t46 true H (fun K' => zaf 2 t4 (K' · H)) fun t48 H =>
 zab t46 true H (fun K' => zad false 1 t48 H (K' · H)) fun t49 H =>
 zab t46 true H (fun K' => zah 1 t49 (K' · H)) fun t50 H =>
 zab t46 true H (fun K' => zac .eql false t50 (.int .i64 0) (K' · H)) fun t51 H =>
 zai t46 t51 (.bool false) fun t52 =>
 K t52 H)
 (zac .eql false t10 (.int .i64 3) fun t54 =>
 zag t54
 (zaf 0 t4 fun t55 =>
 zad false 1 t55 H fun t56 =>
 zac .eql false t56 (.int .i64 1) fun t57 =>
 zab t57 true H (fun K' => zaf 1 t4 (K' · H)) fun t59 H =>
 zab t57 true H (fun K' => zad false 1 t59 H (K' · H)) fun t60 H =>
 zab t57 true H (fun K' => zac .eql false t60 (.int .i64 0) (K' · H)) fun t61 H =>
 zai t57 t61 (.bool false) fun t62 =>
 zab t62 true H (fun K' => zaf 2 t4 (K' · H)) fun t64 H =>
 zab t62 true H (fun K' => zad false 1 t64 H (K' · H)) fun t65 H =>
 zab t62 true H (fun K' => zah 1 t65 (K' · H)) fun t66 H =>
 zab t62 true H (fun K' => zac .eql false t66 (.int .i64 0) (K' · H)) fun t67 H =>
 zai t62 t67 (.bool false) fun t68 =>
 K t68 H)
 (zac .eql false t10 (.int .i64 6) fun t70 =>
 zag t70
 (zaf 0 t4 fun t71 =>
 zad false 1 t71 H fun t72 =>
 zac .eql false t72 (.int .i64 4) fun t73 =>
 zab t73 true H (fun K' => zaf 1 t4 (K' · H)) fun t75 H =>
 zab t73 true H (fun K' => zad false 1 t75 H (K' · H)) fun t76 H =>
 zab t73 true H (fun K' => zac .eql false t76 (.int .i64 0) (K' · H)) fun t77 H =>
 zai t73 t77 (.bool false) fun t78 =>
 zab t78 true H (fun K' => zad false 1 t3 H (K' · H)) fun t80 H =>
 zab t78 true H (fun K' => zaf 2 t4 (K' · H)) fun t81 H =>
 zab t78 true H (fun K' => zad false 1 t81 H (K' · H)) fun t82 H =>
 zab t78 true H (fun K' => zaf 2 t5 (K' · H)) fun t83 H =>
 zab t78 true H (fun K' => zad false 1 t83 H (K' · H)) fun t84 H =>
 zab t78 true H (fun K' => ACalls tP zgB [t80, t82, t84] H K') fun t85 H =>
 zai t78 t85 (.bool false) fun t86 =>
 K t86 H)
 (zac .eql false t10 (.int .i64 5) fun t88 =>
 zag t88
 (zaf 0 t4 fun t89 =>
 zad false 1 t89 H fun t90 =>
 zac .neq false t90 (.int .i64 5) fun t91 =>
 zab t91 false H (fun K' => zaf 1 t4 (K' · H)) fun t93 H =>
 zab t91 false H (fun K' => zad false 1 t93 H (K' · H)) fun t94 H =>
 zab t91 false H (fun K' => zac .lss false t94 (.int .i64 0) (K' · H)) fun t95 H =>
 zai t91 (.bool true) t95 fun t96 =>
 zab t96 false H (fun K' => zaf 1 t4 (K' · H)) fun t98 H =>
 zab t96 false H (fun K' => zad false 1 t98 H (K' · H)) fun t99 H =>
 zab t96 false H (fun K' => zac .geq false t99 (.int .i64 8) (K' · H)) fun t100 H =>
 zai t96 (.bool true) t100 fun t101 =>
 zag t101
 (K (.bool false) H)
 (zad false 1 t3 H fun t103 =>
 zad true 3 t5 H fun t104 =>
 zaf 1 t4 fun t105 =>
 zad false 1 t105 H fun t106 =>
 ACalls tP zeb [t103, t104, t106] H fun t107 H =>
 zay t107 0 fun t108 =>
 zay t107 1 fun t109 =>
 zab t109 true H (fun K' => zad false 1 t3 H (K' · H)) fun t112 H =>
 zab t109 true H (fun K' => zaf 2 t4 (K' · H)) fun t113 H =>
 zab t109 true H (fun K' => zad false 1 t113 H (K' · H)) fun t114 H =>
 zab t109 true H (fun K' => K' t108 H) fun t115 H =>
 zab t109 true H (fun K' => ACalls tP zgB [t112, t114, t115] H K') fun t116 H =>
 zai t109 t116 (.bool false) fun t117 =>
 K t117 H))
 (zac .eql false t10 (.int .i64 7) fun t119 =>
 zag t119
 (zaf 0 t4 fun t120 =>
 zad false 1 t120 H fun t121 =>
 zac .eql false t121 (.int .i64 6) fun t122 =>
 zab t122 true H (fun K' => zaf 1 t4 (K' · H)) fun t124 H =>
 zab t122 true H (fun K' => zad false 1 t124 H (K' · H)) fun t125 H =>
 zab t122 true H (fun K' => zac .eql false t125 (.int .i64 0) (K' · H)) fun t126 H =>
 zai t122 t126 (.bool false) fun t127 =>
 zab t127 true H (fun K' => zaf 2 t4 (K' · H)) fun t129 H =>
 zab t127 true H (fun K' => zad false 1 t129 H (K' · H)) fun t130 H =>
 zab t127 true H (fun K' => zah 1 t130 (K' · H)) fun t131 H =>
 zab t127 true H (fun K' => zac .leq false t131 (.int .i64 4096) (K' · H)) fun t132 H =>
 zai t127 t132 (.bool false) fun t133 =>
 zab t133 true H (fun K' => zaf 2 t4 (K' · H)) fun t135 H =>
 zab t133 true H (fun K' => zad false 1 t135 H (K' · H)) fun t136 H =>
 zab t133 true H (fun K' => zb2 zmX [t3, t5] (K' · H)) fun t137 H =>
 zab t133 true H (fun K' => ACalls tP zhY [t136, t137] H K') fun t138 H =>
 zab t133 true H (fun K' => aUn .not t138 (K' · H)) fun t139 H =>
 zai t133 t139 (.bool false) fun t140 =>
 K t140 H)
 (zac .eql false t10 (.int .i64 8) fun t142 =>
 zag t142
 (zaf 0 t4 fun t143 =>
 zad false 1 t143 H fun t144 =>
 zac .eql false t144 (.int .i64 7) fun t145 =>
 zab t145 true H (fun K' => zaf 1 t4 (K' · H)) fun t147 H =>
 zab t145 true H (fun K' => zad false 1 t147 H (K' · H)) fun t148 H =>
 zab t145 true H (fun K' => zac .eql false t148 (.int .i64 0) (K' · H)) fun t149 H =>
 zai t145 t149 (.bool false) fun t150 =>
 zab t150 true H (fun K' => zad false 1 t3 H (K' · H)) fun t152 H =>
 zab t150 true H (fun K' => zaf 2 t4 (K' · H)) fun t153 H =>
 zab t150 true H (fun K' => zad false 1 t153 H (K' · H)) fun t154 H =>
 zab t150 true H (fun K' => zaf 2 t5 (K' · H)) fun t155 H =>
 zab t150 true H (fun K' => zad false 1 t155 H (K' · H)) fun t156 H =>
 zab t150 true H (fun K' => ACalls tP zgB [t152, t154, t156] H K') fun t157 H =>
 zai t150 t157 (.bool false) fun t158 =>
 K t158 H)
 (zac .eql false t10 (.int .i64 9) fun t160 =>
 zag t160
 (zaf 0 t4 fun t161 =>
 zad false 1 t161 H fun t162 =>
 zac .eql false t162 (.int .i64 8) fun t163 =>
 zab t163 true H (fun K' => zaf 1 t4 (K' · H)) fun t165 H =>
 zab t163 true H (fun K' => zad false 1 t165 H (K' · H)) fun t166 H =>
 zab t163 true H (fun K' => zac .leq false (.int .i64 0) t166 (K' · H)) fun t167 H =>
 zai t163 t167 (.bool false) fun t168 =>
 zab t168 true H (fun K' => zaf 1 t4 (K' · H)) fun t170 H =>
 zab t168 true H (fun K' => zad false 1 t170 H (K' · H)) fun t171 H =>
 zab t168 true H (fun K' => zac .lss false t171 (.int .i64 64) (K' · H)) fun t172 H =>
 zai t168 t172 (.bool false) fun t173 =>
 zab t173 true H (fun K' => zaf 2 t4 (K' · H)) fun t175 H =>
 zab t173 true H (fun K' => zad false 1 t175 H (K' · H)) fun t176 H =>
 zab t173 true H (fun K' => zah 1 t176 (K' · H)) fun t177 H =>
 zab t173 true H (fun K' => zac .eql false t177 (.int .i64 0) (K' · H)) fun t178 H =>
 zai t173 t178 (.bool false) fun t179 =>
 K t179 H)
 (K (.bool false) H))))))))
theorem zNy {t0 t1 t2 : AV} {H : zaa} {K : Kt} (h : HSc H → zdT t0 t1 t2 H K) : ACalls tP zgO [t0, t1, t2] H K :=
 zam (M := zNw) Tryz.func77 (c := zNx) (by kernel_rfl) (fun hs => Eq.mpr (by kernel_rfl) (h hs))
def zEB (_ : Nat) : List Bool := []
noncomputable def zEC : Code := Tryz.f124.body.getD .skip
def zv0 (t0 t1 t2 : AV) (H : zaa) (K : Kt) : Prop :=
 zao t0 H fun t3 H =>
 zb2 zne [t3] fun t9 =>
 ACalls tP znd [t1, t2, t9] H fun t10 H =>
 K t10 H
theorem zED {t0 t1 t2 : AV} {H : zaa} {K : Kt} (h : HSc H → zv0 t0 t1 t2 H K) : ACalls tP zgB [t0, t1, t2] H K :=
 zam (M := zEB) Tryz.func124 (c := zEC) (by kernel_rfl) (fun hs => Eq.mpr (by kernel_rfl) (h hs))
def zEE (_ : Nat) : List Bool := []
noncomputable def zEF : Code := Tryz.f125.body.getD .skip
def zv1 (t0 t1 t2 : AV) (H : zaa) (K : Kt) : Prop :=
 zao t0 H fun t3 H =>
 zae H (fun K' => zal false 1 t1 H (K' · H)) fun t5 =>
 zae H (fun K' => zal true 3 t3 H (K' · H)) fun t6 =>
 zae H (fun K' => zaf 2 t2 (K' · H)) fun t7 =>
 zae H (fun K' => zal false 1 t7 H (K' · H)) fun t8 =>
 zae H (fun K' => zaj 3 t8 (.int .i64 0) (K' · H)) fun t9 =>
 zae H (fun K' => zal true 3 t9 H (K' · H)) fun t10 =>
 zaG H (fun H K' => ACalls tP zgO [t5, t6, t10] H K') fun t11 =>
 zae H (fun K' => aUn .not t11 (K' · H)) fun t12 =>
 zae H (fun K' => K' t12 H) fun t4 =>
 K t4 H
theorem zEG {t0 t1 t2 : AV} {H : zaa} {K : Kt} (h : HSc H → zv1 t0 t1 t2 H K) : ACalls tP zmX [t0, t1, t2] H K :=
 zam (M := zEE) Tryz.func125 (c := zEF) (by kernel_rfl) (fun hs => Eq.mpr (by kernel_rfl) (h hs))
def zj9 : Nat → List Bool
 | 4 => rl false [1,2,12,3,14]
 | _ => []
noncomputable def zpH : Code := Tryz.f167.body.getD .skip
noncomputable def zHP : List ResultVar := Tryz.f167.results.toList
def zka (t1 t2 t15 t16 t17 : AV) : List AV := ux 1 (t1 :: t2 :: ux 12 (t15 :: t16 :: t17 :: ux 14 []))
def zHN : List Bool := zj9 4
noncomputable def zHL : Code := zas [1, 1, 0, 1, 0, 0] zpH
def zHK (K : Kt) : AExit → List AV → zaa → Prop := zat tP zj9 [1, 1, 0, 1, 0] zpH (zaA tP zHP K)
def zxk (t1 t2 t15 t16 t17 : AV) (H : zaa) (K : Kt) : Prop := ALoop tP zHL (zHK K) (zka t1 t2 t15 t16 t17) H
def zpG (t1 t2 t15 t16 t17 : AV) (H : zaa) (K : Kt) (Kb4 : Lt) : Prop :=
 zac .lss false t17 t16 fun t18 =>
 zag t18
 (zaj 3 t15 t17 fun t20 =>
 zad true 3 t20 H fun t21 =>
 zau [(.int .i64 0), (.int .i64 0), .snil] H fun t8 H =>
 zak 3 t8 t21 H fun H =>
 zaj 3 t1 t17 fun t24 =>
 zad true 3 t24 H fun t25 =>
 zau [(.int .i64 0), (.int .i64 0), .snil] H fun t9 H =>
 zak 3 t9 t25 H fun H =>
 zad true 3 t8 H fun t27 =>
 zad true 3 t9 H fun t28 =>
 aCallV tP t2 [t27, t28] H fun t29 H =>
 aUn .not t29 fun t30 =>
 zag t30
 (K (.bool false) H)
 (zac .add false t17 (.int .i64 1) fun t31 =>
 Kb4 (zka t1 t2 t15 t16 t31) H))
 (K (.bool true) H)
def zpF (t0 t1 t2 : AV) (H : zaa) (K : Kt) : Prop :=
 zah 1 t0 fun t11 =>
 zah 1 t1 fun t13 =>
 zac .neq false t11 t13 fun t14 =>
 zag t14
 (K (.bool false) H)
 (zah 1 t0 fun t16 =>
 zxk t1 t2 t0 t16 (.int .i64 0) H K)
theorem zHM {t1 t2 t15 t16 t17 : AV} {H : zaa} {K : Kt} (Inv : Nat → AV → zaa → Prop) (n : Nat) (h0 : HSc H → Inv n t17 H)
  (round : Rd1 (fun t17 => zka t1 t2 t15 t16 t17) (fun t17 => fun H Kb4 => zpG t1 t2 t15 t16 t17 H K Kb4) H Inv) : zxk t1 t2 t15 t16 t17 H K :=
 lp1 (M := zj9) zHN t17 (by kernel_rfl) Inv n h0 round
theorem zHO {t0 t1 t2 : AV} {H : zaa} {K : Kt} (h : HSc H → zpF t0 t1 t2 H K) : ACalls tP znd [t0, t1, t2] H K :=
 zam (M := zj9) Tryz.func167 (c := zpH) (by kernel_rfl) (fun hs => Eq.mpr (by kernel_rfl) (h hs))
def zHQ (_ : Nat) : List Bool := []
noncomputable def zHR : Code := Tryz.f168.body.getD .skip
def zxl (t0 t1 t2 : AV) (H : zaa) (K : Kt) : Prop :=
 zao t0 H fun t3 H =>
 zao t1 H fun t4 H =>
 zad false 1 t2 H fun t6 =>
 zad true 3 t3 H fun t7 =>
 zad true 3 t4 H fun t8 =>
 ACalls tP zgO [t6, t7, t8] H fun t9 H =>
 K t9 H
theorem zHS {t0 t1 t2 : AV} {H : zaa} {K : Kt} (h : HSc H → zxl t0 t1 t2 H K) : ACalls tP zne [t0, t1, t2] H K :=
 zam (M := zHQ) Tryz.func168 (c := zHR) (by kernel_rfl) (fun hs => Eq.mpr (by kernel_rfl) (h hs))
def zk4 : Nat → List Bool
 | 5 => rl false [1,2,2,1,24]
 | _ => []
noncomputable def zqL : Code := Tryz.f41.body.getD .skip
noncomputable def zLH : List ResultVar := Tryz.f41.results.toList
def zk5 (t1 t2 t5 : AV) : List AV := ux 1 (t1 :: t2 :: ux 2 (t5 :: ux 24 []))
def zLF : List Bool := zk4 5
noncomputable def zLD : Code := zas [1, 1, 1, 0, 1, 0, 0] zqL
def zLC (K : Kt) : AExit → List AV → zaa → Prop := zat tP zk4 [1, 1, 1, 0, 1, 0] zqL (zaA tP zLH K)
def zyJ (t1 t2 t5 : AV) (H : zaa) (K : Kt) : Prop := ALoop tP zLD (zLC K) (zk5 t1 t2 t5) H
def zqK (t1 t2 t5 : AV) (H : zaa) (K : Kt) (Kb5 : Lt) : Prop :=
 zaf 2 t2 fun t16 =>
 zad false 1 t16 H fun t17 =>
 zah 1 t17 fun t18 =>
 zac .lss false t5 t18 fun t19 =>
 zag t19
 (zaf 2 t2 fun t22 =>
 zad false 1 t22 H fun t23 =>
 zaj 3 t23 t5 fun t25 =>
 zad true 3 t25 H fun t26 =>
 ACalls tP zim [t26, t1] H fun t28 H =>
 aUn .not t28 fun t29 =>
 zag t29
 (K (.bool false) H)
 (zac .add false t5 (.int .i64 1) fun t21 =>
 Kb5 (zk5 t1 t2 t21) H))
 (K (.bool true) H)
def zyI (t0 t1 : AV) (H : zaa) (K : Kt) : Prop :=
 zao t0 H fun t2 H =>
 za3 t1 fun t7 =>
 zad false 1 t7 H fun t8 =>
 zac .sub false t8 (.int .i64 1) fun t9 =>
 za3 t1 fun t10 =>
 zak 1 t10 t9 H fun H =>
 za3 t1 fun t12 =>
 zad false 1 t12 H fun t13 =>
 zac .lss false t13 (.int .i64 0) fun t14 =>
 zag t14
 (K (.bool false) H)
 (zyJ t1 t2 (.int .i64 0) H K)
theorem zLE {t1 t2 t5 : AV} {H : zaa} {K : Kt} (Inv : Nat → AV → zaa → Prop) (n : Nat) (h0 : HSc H → Inv n t5 H)
  (round : Rd1 (fun t5 => zk5 t1 t2 t5) (fun t5 => fun H Kb5 => zqK t1 t2 t5 H K Kb5) H Inv) : zyJ t1 t2 t5 H K :=
 lp1 (M := zk4) zLF t5 (by kernel_rfl) Inv n h0 round
theorem zLG {t0 t1 : AV} {H : zaa} {K : Kt} (h : HSc H → zyI t0 t1 H K) : ACalls tP zim [t0, t1] H K :=
 zam (M := zk4) Tryz.func41 (c := zqL) (by kernel_rfl) (fun hs => Eq.mpr (by kernel_rfl) (h hs))
def zk6 : Nat → List Bool
 | 21 => rl false [0,1,3,2,1,1,2,1,174]
 | _ => []
noncomputable def zqN : Code := Tryz.f42.body.getD .skip
noncomputable def zLO : List ResultVar := Tryz.f42.results.toList
def zk7 (t0 t4 t5 t7 t10 : AV) : List AV := t0 :: ux 3 (t4 :: t5 :: ux 1 (t7 :: ux 2 (t10 :: ux 174 [])))
def zLM : List Bool := zk6 21
noncomputable def zLK : Code := zas [1, 1, 0, 1, 0, 1, 1, 1, 1, 1, 1, 1, 1, 1, 1, 1, 0, 1, 0, 1, 0, 0] zqN
def zLJ (K : Kt) : AExit → List AV → zaa → Prop := zat tP zk6 [1, 1, 0, 1, 0, 1, 1, 1, 1, 1, 1, 1, 1, 1, 1, 1, 0, 1, 0, 1, 0] zqN (zaA tP zLO K)
def zqO (t0 t4 t5 t7 t10 : AV) (H : zaa) (K : Kt) : Prop := ALoop tP zLK (zLJ K) (zk7 t0 t4 t5 t7 t10) H
def zqM (t0 t4 t5 t7 t10 : AV) (H : zaa) (K : Kt) (Kb21 : Lt) : Prop :=
 zac .lss false t10 t7 fun t153 =>
 zag t153
 (zae H (fun K' => K' t0 H) fun t156 =>
 zae H (fun K' => zaf 2 t4 (K' · H)) fun t157 =>
 zae H (fun K' => zal false 1 t157 H (K' · H)) fun t158 =>
 zae H (fun K' => K' t10 H) fun t159 =>
 zae H (fun K' => zaj 3 t158 t159 (K' · H)) fun t160 =>
 zae H (fun K' => zal true 3 t160 H (K' · H)) fun t161 =>
 zae H (fun K' => zaf 2 t5 (K' · H)) fun t162 =>
 zae H (fun K' => zal false 1 t162 H (K' · H)) fun t163 =>
 zae H (fun K' => zaj 3 t163 (.int .i64 0) (K' · H)) fun t164 =>
 zae H (fun K' => zal true 3 t164 H (K' · H)) fun t165 =>
 zaG H (fun H K' => ACalls tP zgK [t156, t161, t165] H K') fun t166 =>
 zae H (fun K' => aUn .not t166 (K' · H)) fun t167 =>
 zag t167
 (K (.bool false) H)
 (zac .add false t10 (.int .i64 1) fun t155 =>
 Kb21 (zk7 t0 t4 t5 t7 t155) H))
 (K (.bool true) H)
def zho (t0 t4 t5 t7 t117 : AV) (H : zaa) (K : Kt) : Prop :=
 zag t117
 (zaf 0 t5 fun t120 =>
 zad false 1 t120 H fun t121 =>
 zac .eql false t121 (.int .i64 7) fun t122 =>
 zab t122 true H (fun K' => zaf 0 t4 (K' · H)) fun t124 H =>
 zab t122 true H (fun K' => zad false 1 t124 H (K' · H)) fun t125 H =>
 zab t122 true H (fun K' => zac .neq false t125 (.int .i64 6) (K' · H)) fun t126 H =>
 zab t122 true H (fun K' => K' t126 H) fun t127 H =>
 zab t127 false H (fun K' => K' t7 H) fun t128 H =>
 zab t127 false H (fun K' => zac .gtr false t128 (.int .i64 4096) (K' · H)) fun t129 H =>
 zab t122 true H (fun K' => zai t127 (.bool true) t129 (K' · H)) fun t130 H =>
 zai t122 t130 (.bool false) fun t131 =>
 zab t131 false H (fun K' => zaf 0 t5 (K' · H)) fun t133 H =>
 zab t131 false H (fun K' => zad false 1 t133 H (K' · H)) fun t134 H =>
 zab t131 false H (fun K' => zac .eql false t134 (.int .i64 8) (K' · H)) fun t135 H =>
 zab t131 false H (fun K' => K' t135 H) fun t136 H =>
 zab t136 true H (fun K' => zaf 0 t4 (K' · H)) fun t137 H =>
 zab t136 true H (fun K' => zad false 1 t137 H (K' · H)) fun t138 H =>
 zab t136 true H (fun K' => zac .neq false t138 (.int .i64 7) (K' · H)) fun t139 H =>
 zab t136 true H (fun K' => K' t139 H) fun t140 H =>
 zab t140 false H (fun K' => K' t7 H) fun t141 H =>
 zab t140 false H (fun K' => zac .neq false t141 (.int .i64 1) (K' · H)) fun t142 H =>
 zab t136 true H (fun K' => zai t140 (.bool true) t142 (K' · H)) fun t143 H =>
 zab t131 false H (fun K' => zai t136 t143 (.bool false) (K' · H)) fun t144 H =>
 zai t131 (.bool true) t144 fun t145 =>
 zab t145 false H (fun K' => zaf 1 t4 (K' · H)) fun t147 H =>
 zab t145 false H (fun K' => zad false 1 t147 H (K' · H)) fun t148 H =>
 zab t145 false H (fun K' => zac .neq false t148 (.int .i64 0) (K' · H)) fun t149 H =>
 zai t145 (.bool true) t149 fun t150 =>
 zag t150
 (K (.bool false) H)
 (zqO t0 t4 t5 t7 (.int .i64 0) H K))
 (zaf 0 t4 fun t168 =>
 zad false 1 t168 H fun t169 =>
 zac .eql false t169 (.int .i64 8) fun t170 =>
 zab t170 true H (fun K' => zaf 1 t4 (K' · H)) fun t172 H =>
 zab t170 true H (fun K' => zad false 1 t172 H (K' · H)) fun t173 H =>
 zab t170 true H (fun K' => zac .geq false t173 (.int .i64 0) (K' · H)) fun t174 H =>
 zai t170 t174 (.bool false) fun t175 =>
 zab t175 true H (fun K' => zaf 1 t4 (K' · H)) fun t177 H =>
 zab t175 true H (fun K' => zad false 1 t177 H (K' · H)) fun t178 H =>
 zab t175 true H (fun K' => zac .lss false t178 (.int .i64 64) (K' · H)) fun t179 H =>
 zai t175 t179 (.bool false) fun t180 =>
 zab t180 true H (fun K' => K' t7 H) fun t182 H =>
 zab t180 true H (fun K' => zac .eql false t182 (.int .i64 0) (K' · H)) fun t183 H =>
 zai t180 t183 (.bool false) fun t184 =>
 K t184 H)
def zdS (t0 t1 t2 : AV) (H : zaa) (K : Kt) : Prop :=
 zao t1 H fun t4 H =>
 zao t2 H fun t5 H =>
 zaf 2 t4 fun t11 =>
 zad false 1 t11 H fun t12 =>
 zah 1 t12 fun t13 =>
 zaf 0 t5 fun t14 =>
 zad false 1 t14 H fun t15 =>
 zac .eql false t15 (.int .i64 3) fun t17 =>
 zag t17
 (zaf 0 t4 fun t18 =>
 zad false 1 t18 H fun t19 =>
 zac .eql false t19 (.int .i64 1) fun t20 =>
 zab t20 true H (fun K' => zaf 1 t4 (K' · H)) fun t22 H =>
 zab t20 true H (fun K' => zad false 1 t22 H (K' · H)) fun t23 H =>
 zab t20 true H (fun K' => zac .eql false t23 (.int .i64 0) (K' · H)) fun t24 H =>
 zai t20 t24 (.bool false) fun t25 =>
 zab t25 true H (fun K' => K' t13 H) fun t27 H =>
 zab t25 true H (fun K' => zac .eql false t27 (.int .i64 0) (K' · H)) fun t28 H =>
 zai t25 t28 (.bool false) fun t29 =>
 K t29 H)
 (zac .eql false t15 (.int .i64 2) fun t31 =>
 zag t31
 (zaf 0 t4 fun t32 =>
 zad false 1 t32 H fun t33 =>
 zac .eql false t33 (.int .i64 2) fun t34 =>
 zab t34 true H (fun K' => zaf 1 t4 (K' · H)) fun t36 H =>
 zab t34 true H (fun K' => zad false 1 t36 H (K' · H)) fun t37 H =>
 zab t34 true H (fun K' => zac .eql false t37 (.int .i64 0) (K' · H)) fun t38 H =>
 zab t34 true H (fun K' => K' t38 H) fun t39 H =>
 zab t39 false H (fun K' => zaf 1 t4 (K' · H)) fun t40 H =>
 zab t39 false H (fun K' => zad false 1 t40 H (K' · H)) fun t41 H =>
 zab t39 false H (fun K' => zac .eql false t41 (.int .i64 1) (K' · H)) fun t42 H =>
 zab t34 true H (fun K' => zai t39 (.bool true) t42 (K' · H)) fun t43 H =>
 zai t34 t43 (.bool false) fun t44 =>
 zab t44 true H (fun K' => K' t13 H) fun t46 H =>
 zab t44 true H (fun K' => zac .eql false t46 (.int .i64 0) (K' · H)) fun t47 H =>
 zai t44 t47 (.bool false) fun t48 =>
 K t48 H)
 (zac .eql false t15 (.int .i64 1) fun t50 =>
 zag t50
 (zaf 0 t4 fun t51 =>
 zad false 1 t51 H fun t52 =>
 zac .eql false t52 (.int .i64 3) fun t53 =>
 zab t53 true H (fun K' => zaf 1 t4 (K' · H)) fun t55 H =>
 zab t53 true H (fun K' => zad false 1 t55 H (K' · H)) fun t56 H =>
 zab t53 true H (fun K' => zac .geq false t56 (.int .i64 (-1099511627776)) (K' · H)) fun t57 H =>
 zai t53 t57 (.bool false) fun t58 =>
 zab t58 true H (fun K' => zaf 1 t4 (K' · H)) fun t60 H =>
 zab t58 true H (fun K' => zad false 1 t60 H (K' · H)) fun t61 H =>
 zab t58 true H (fun K' => zac .leq false t61 (.int .i64 1099511627776) (K' · H)) fun t62 H =>
 zai t58 t62 (.bool false) fun t63 =>
 zab t63 true H (fun K' => K' t13 H) fun t65 H =>
 zab t63 true H (fun K' => zac .eql false t65 (.int .i64 0) (K' · H)) fun t66 H =>
 zai t63 t66 (.bool false) fun t67 =>
 K t67 H)
 (zac .eql false t15 (.int .i64 6) fun t69 =>
 zag t69
 (zaf 0 t4 fun t70 =>
 zad false 1 t70 H fun t71 =>
 zac .eql false t71 (.int .i64 4) fun t72 =>
 zab t72 true H (fun K' => zaf 1 t4 (K' · H)) fun t74 H =>
 zab t72 true H (fun K' => zad false 1 t74 H (K' · H)) fun t75 H =>
 zab t72 true H (fun K' => zac .eql false t75 (.int .i64 0) (K' · H)) fun t76 H =>
 zai t72 t76 (.bool false) fun t77 =>
 zab t77 true H (fun K' => K' t0 H) fun t79 H =>
 zab t77 true H (fun K' => zaf 2 t4 (K' · H)) fun t80 H =>
 zab t77 true H (fun K' => zad false 1 t80 H (K' · H)) fun t81 H =>
 zab t77 true H (fun K' => zaf 2 t5 (K' · H)) fun t82 H =>
 zab t77 true H (fun K' => zad false 1 t82 H (K' · H)) fun t83 H =>
 zab t77 true H (fun K' => ACalls tP ziy [t79, t81, t83] H K') fun t84 H =>
 zai t77 t84 (.bool false) fun t85 =>
 K t85 H)
 (zac .eql false t15 (.int .i64 5) fun t87 =>
 zag t87
 (zaf 0 t4 fun t88 =>
 zad false 1 t88 H fun t89 =>
 zac .neq false t89 (.int .i64 5) fun t90 =>
 zab t90 false H (fun K' => zaf 1 t4 (K' · H)) fun t92 H =>
 zab t90 false H (fun K' => zad false 1 t92 H (K' · H)) fun t93 H =>
 zab t90 false H (fun K' => zac .lss false t93 (.int .i64 0) (K' · H)) fun t94 H =>
 zai t90 (.bool true) t94 fun t95 =>
 zab t95 false H (fun K' => zaf 1 t4 (K' · H)) fun t97 H =>
 zab t95 false H (fun K' => zad false 1 t97 H (K' · H)) fun t98 H =>
 zab t95 false H (fun K' => zac .geq false t98 (.int .i64 8) (K' · H)) fun t99 H =>
 zai t95 (.bool true) t99 fun t100 =>
 zag t100
 (K (.bool false) H)
 (zad true 3 t5 H fun t103 =>
 zaf 1 t4 fun t104 =>
 zad false 1 t104 H fun t105 =>
 ACalls tP zgD [t0, t103, t105] H fun t106 H =>
 zay t106 0 fun t107 =>
 zay t106 1 fun t108 =>
 zab t108 true H (fun K' => K' t0 H) fun t111 H =>
 zab t108 true H (fun K' => zaf 2 t4 (K' · H)) fun t112 H =>
 zab t108 true H (fun K' => zad false 1 t112 H (K' · H)) fun t113 H =>
 zab t108 true H (fun K' => K' t107 H) fun t114 H =>
 zab t108 true H (fun K' => ACalls tP ziy [t111, t113, t114] H K') fun t115 H =>
 zai t108 t115 (.bool false) fun t116 =>
 K t116 H))
 (zac .eql false t15 (.int .i64 7) fun t118 =>
 zag t118
 (zho t0 t4 t5 t13 t118 H K)
 (zac .eql false t15 (.int .i64 8) fun t119 =>
 zho t0 t4 t5 t13 t119 H K))))))
theorem zLL {t0 t4 t5 t7 t10 : AV} {H : zaa} {K : Kt} (Inv : Nat → AV → zaa → Prop) (n : Nat) (h0 : HSc H → Inv n t10 H)
  (round : Rd1 (fun t10 => zk7 t0 t4 t5 t7 t10) (fun t10 => fun H Kb21 => zqM t0 t4 t5 t7 t10 H K Kb21) H Inv) : zqO t0 t4 t5 t7 t10 H K :=
 lp1 (M := zk6) zLM t10 (by kernel_rfl) Inv n h0 round
theorem zLN {t0 t1 t2 : AV} {H : zaa} {K : Kt} (h : HSc H → zdS t0 t1 t2 H K) : ACalls tP zgK [t0, t1, t2] H K :=
 zam (M := zk6) Tryz.func42 (c := zqN) (by kernel_rfl) (fun hs => Eq.mpr (by kernel_rfl) (h hs))
def zlP : Nat → List Bool
 | 4 => rl false [0,3,4,1,22]
 | _ => []
noncomputable def zrA : Code := Tryz.f86.body.getD .skip
noncomputable def zOn : List ResultVar := Tryz.f86.results.toList
def zlQ (t0 t1 t2 t7 : AV) : List AV := t0 :: t1 :: t2 :: ux 4 (t7 :: ux 22 [])
def zOl : List Bool := zlP 4
noncomputable def zOj : Code := zas [1, 1, 0, 1, 0, 0] zrA
def zOi (K : Kt) : AExit → List AV → zaa → Prop := zat tP zlP [1, 1, 0, 1, 0] zrA (zaA tP zOn K)
def zzy (t0 t1 t2 t7 : AV) (H : zaa) (K : Kt) : Prop := ALoop tP zOj (zOi K) (zlQ t0 t1 t2 t7) H
def zrz (t0 t1 t2 t7 : AV) (H : zaa) (K : Kt) (Kb4 : Lt) : Prop :=
 zah 1 t1 fun t15 =>
 zac .lss false t7 t15 fun t16 =>
 zag t16
 (zae H (fun K' => K' t0 H) fun t19 =>
 zae H (fun K' => K' t1 H) fun t20 =>
 zae H (fun K' => K' t7 H) fun t21 =>
 zae H (fun K' => zaj 3 t20 t21 (K' · H)) fun t22 =>
 zae H (fun K' => zal true 3 t22 H (K' · H)) fun t23 =>
 zae H (fun K' => K' t2 H) fun t24 =>
 zae H (fun K' => K' t7 H) fun t25 =>
 zae H (fun K' => zaj 3 t24 t25 (K' · H)) fun t26 =>
 zae H (fun K' => zal true 3 t26 H (K' · H)) fun t27 =>
 zaG H (fun H K' => ACalls tP zgK [t19, t23, t27] H K') fun t28 =>
 zae H (fun K' => aUn .not t28 (K' · H)) fun t29 =>
 zag t29
 (K (.bool false) H)
 (zac .add false t7 (.int .i64 1) fun t18 =>
 Kb4 (zlQ t0 t1 t2 t18) H))
 (K (.bool true) H)
def zry (t0 t1 t2 : AV) (H : zaa) (K : Kt) : Prop :=
 zah 1 t1 fun t9 =>
 zah 1 t2 fun t11 =>
 zac .neq false t9 t11 fun t12 =>
 zag t12
 (K (.bool false) H)
 (zzy t0 t1 t2 (.int .i64 0) H K)
theorem zOk {t0 t1 t2 t7 : AV} {H : zaa} {K : Kt} (Inv : Nat → AV → zaa → Prop) (n : Nat) (h0 : HSc H → Inv n t7 H)
  (round : Rd1 (fun t7 => zlQ t0 t1 t2 t7) (fun t7 => fun H Kb4 => zrz t0 t1 t2 t7 H K Kb4) H Inv) : zzy t0 t1 t2 t7 H K :=
 lp1 (M := zlP) zOl t7 (by kernel_rfl) Inv n h0 round
theorem zOm {t0 t1 t2 : AV} {H : zaa} {K : Kt} (h : HSc H → zry t0 t1 t2 H K) : ACalls tP ziy [t0, t1, t2] H K :=
 zam (M := zlP) Tryz.func86 (c := zrA) (by kernel_rfl) (fun hs => Eq.mpr (by kernel_rfl) (h hs))
def zkX : Nat → List Bool
 | 5 => rl false [1,2,2,1,24]
 | _ => []
noncomputable def zqC : Code := Tryz.f38.body.getD .skip
noncomputable def zLp : List ResultVar := Tryz.f38.results.toList
def zkY (t1 t2 t5 : AV) : List AV := ux 1 (t1 :: t2 :: ux 2 (t5 :: ux 24 []))
def zLn : List Bool := zkX 5
noncomputable def zLl : Code := zas [1, 1, 1, 0, 1, 0, 0] zqC
def zLk (K : Kt) : AExit → List AV → zaa → Prop := zat tP zkX [1, 1, 1, 0, 1, 0] zqC (zaA tP zLp K)
def zyy (t1 t2 t5 : AV) (H : zaa) (K : Kt) : Prop := ALoop tP zLl (zLk K) (zkY t1 t2 t5) H
def zqB (t1 t2 t5 : AV) (H : zaa) (K : Kt) (Kb5 : Lt) : Prop :=
 zaf 2 t2 fun t16 =>
 zad false 1 t16 H fun t17 =>
 zah 1 t17 fun t18 =>
 zac .lss false t5 t18 fun t19 =>
 zag t19
 (zaf 2 t2 fun t22 =>
 zad false 1 t22 H fun t23 =>
 zaj 3 t23 t5 fun t25 =>
 zad true 3 t25 H fun t26 =>
 ACalls tP zik [t26, t1] H fun t28 H =>
 aUn .not t28 fun t29 =>
 zag t29
 (K (.bool false) H)
 (zac .add false t5 (.int .i64 1) fun t21 =>
 Kb5 (zkY t1 t2 t21) H))
 (K (.bool true) H)
def zyx (t0 t1 : AV) (H : zaa) (K : Kt) : Prop :=
 zao t0 H fun t2 H =>
 za3 t1 fun t7 =>
 zad false 1 t7 H fun t8 =>
 zac .sub false t8 (.int .i64 1) fun t9 =>
 za3 t1 fun t10 =>
 zak 1 t10 t9 H fun H =>
 za3 t1 fun t12 =>
 zad false 1 t12 H fun t13 =>
 zac .lss false t13 (.int .i64 0) fun t14 =>
 zag t14
 (K (.bool false) H)
 (zyy t1 t2 (.int .i64 0) H K)
theorem zLm {t1 t2 t5 : AV} {H : zaa} {K : Kt} (Inv : Nat → AV → zaa → Prop) (n : Nat) (h0 : HSc H → Inv n t5 H)
  (round : Rd1 (fun t5 => zkY t1 t2 t5) (fun t5 => fun H Kb5 => zqB t1 t2 t5 H K Kb5) H Inv) : zyy t1 t2 t5 H K :=
 lp1 (M := zkX) zLn t5 (by kernel_rfl) Inv n h0 round
theorem zLo {t0 t1 : AV} {H : zaa} {K : Kt} (h : HSc H → zyx t0 t1 H K) : ACalls tP zik [t0, t1] H K :=
 zam (M := zkX) Tryz.func38 (c := zqC) (by kernel_rfl) (fun hs => Eq.mpr (by kernel_rfl) (h hs))
end Go.Proofs.YtjkkonpjecoieaaGreat

namespace Go.Proofs.YtjkkonpjecoieaaGreat
open Go Go.Abs
set_option maxRecDepth 8000
def d4 (data : List Dat) : AV := .agg [.sl (data.map Dat.cs) .none, .snil, .snil, .snil]
section
variable {H : zaa} {K : Kt} (data : List Dat)
theorem zDB (hK : K (.bool true) H) : ACalls tP zm6 [d4 data] H K := by
 refine ACalls.out (zGz fun hs => ?_)
 simp [zwC, d4]
 refine ⟨rfl, ACalls.wk (args' := [.sl (VT.css []) .none, .fn ztG [.ptr H.length 0]]) ?_ ⟨.atom .snil, .atom (.refl _), trivial⟩⟩
 refine zmp [] (by simp) _ _ _ (by simp [AV.sc, AV.scV, AV.scA, AV.scB]) (fun _ H' => H' = H ++ [.cells [.sl (data.map Dat.cs) .none, .snil, .snil, .snil]]) rfl (fun i h => by simp at h) ?_
 rintro H' rfl
 simp
 exact Out.bool rfl (Nat.le_refl _) hs hK
theorem zAC (hK : K (.bool true) H) : ACalls tP zm7 [d4 data] H K := by
 refine ACalls.out (zGE fun hs => ?_)
 simp [zwD, d4]
 refine zGC (Inv := fun _ _ t H' => t = .int .i64 0 ∧ H' = _) 0 (fun _ => ⟨rfl, rfl⟩) ?_
 rintro q t4 t H' ⟨rfl, rfl⟩ _ _ _ Kb hKb
 simp [zwE]
 exact Out.bool rfl (Nat.le_refl _) hs hK
theorem zDo (hK : K (.bool true) H) : ACalls tP zm8 [d4 data] H K := by
 refine ACalls.out (zGP fun hs => ?_)
 simp [zwH, d4, zbp]
 refine ⟨⟨rfl, rfl⟩, zGN (Inv := fun _ t H' => t = .int .i64 0 ∧ H' = _) 0 (fun _ => ⟨rfl, rfl⟩) ?_⟩
 rintro q t H' ⟨rfl, rfl⟩ _ _ _ Kb hKb
 simp [zwK]
 refine zGM (Inv := fun _ t H' => t = .int .i64 0 ∧ H' = _) 0 (fun _ => ⟨rfl, rfl⟩) ?_
 rintro q t H' ⟨rfl, rfl⟩ _ _ _ Kb2 hKb2
 simp [zwJ, Nat.add_assoc]
 exact Out.bool rfl (Nat.le_refl _) hs hK
theorem zAm (hK : K (.bool true) H) : ACalls tP zm9 [d4 data] H K := by
 refine ACalls.out (zHd fun hs => ?_)
 simp [zwW, d4, zbp]
 refine ⟨⟨rfl, rfl⟩, zHb (Inv := fun _ t H' => t = .int .i64 0 ∧ H' = _) 0 (fun _ => ⟨rfl, rfl⟩) ?_⟩
 rintro q t H' ⟨rfl, rfl⟩ _ _ _ Kb hKb
 simp [zwZ]
 refine zHa (Inv := fun _ t H' => t = .int .i64 0 ∧ H' = _) 0 (fun _ => ⟨rfl, rfl⟩) ?_
 rintro q t H' ⟨rfl, rfl⟩ _ _ _ Kb2 hKb2
 simp [zwY, Nat.add_assoc]
 exact Out.bool rfl (Nat.le_refl _) hs hK
theorem zCo (hK : K (.bool true) H) : ACalls tP zna [d4 data] H K := by
 refine ACalls.out (zHi fun hs => ?_)
 simp [zw5, d4, zbp]
 refine ⟨rfl, ⟨rfl, rfl, rfl, rfl⟩, zHg (Inv := fun _ t H' => t = .int .i64 0 ∧ H' = _) 0 (fun _ => ⟨rfl, rfl⟩) ?_⟩
 rintro q t H' ⟨rfl, rfl⟩ _ _ _ Kb hKb
 simp [zw6]
 exact Out.bool rfl (Nat.le_refl _) hs hK
theorem zAS (hK : K (.bool true) H) : ACalls tP znb [d4 data] H K := by
 refine ACalls.out (zHs fun hs => ?_)
 simp [zw8, d4, zbp, zax, zaP]
 refine zHo (Inv := fun _ t H' => t = .int .i64 0 ∧ H' = _) 0 (fun _ => ⟨rfl, rfl⟩) ?_
 rintro q t H' ⟨rfl, rfl⟩ _ _ _ Kb hKb
 simp [zw9]
 refine zHp (Inv := fun _ t H' => t = .int .i64 0 ∧ H' = _) 0 (fun _ => ⟨rfl, rfl⟩) ?_
 rintro q t H' ⟨rfl, rfl⟩ _ _ _ Kb2 hKb2
 simp [zxa]
 exact Out.bool rfl (Nat.le_refl _) hs hK
theorem zvV (hB : zhx data) (hl : data.length ≤ 1000000) (hK : K (.bool (zbe data)) H) : ACalls tP zhW [d4 data] H K := by
 refine ACalls.out (zEn fun hs => ?_)
 simp [zvU, d4]
 refine zGw data hB hl _ _ ?_
 cases hd : zbe data with
 | false =>
  rw [hd] at hK
  simp
  exact Out.bool rfl (Nat.le_refl _) hs hK
 | true =>
  rw [hd] at hK
  simp
  refine zDB data ?_
  simp
  refine zAC data ?_
  simp
  refine zDo data ?_
  simp
  refine zAm data ?_
  simp
  refine zCo data ?_
  simp
  refine zAS data ?_
  exact Out.bool rfl (Nat.le_refl _) hs hK
def zaY (data : List Dat) (t : VT) : Bool := zbe data && zaQ data 0 t
theorem zNr (hB : zhx data) (hl : data.length ≤ 1000000) (t : VT) (ht : t.nodes ≤ 1000000) (hK : K (.bool (zaY data t)) H) : ACalls tP znE [.sl (data.map Dat.cs) .none, .agg t.cs] H K := by
 refine ACalls.out (zNq fun hs => ?_)
 obtain ⟨a, b, c, hv, ha, hb, hc⟩ := zaK t
 simp [zzf, zax, zaP, hv]
 refine zvV data hB hl ?_
 unfold zaY at hK
 cases hd : zbe data with
 | false =>
  rw [hd] at hK
  simp
  exact Out.bool rfl (Nat.le_refl _) hs hK
 | true =>
  rw [hd, Bool.true_and] at hK
  simp
  rw [← hv]
  refine zoF data 0 t (by omega) _ _ ?_
  exact Out.bool rfl (Nat.le_refl _) hs hK
end
end Go.Proofs.YtjkkonpjecoieaaGreat
namespace Go.Proofs.YtjkkonpjecoieaaGreat
open Go Go.Abs
set_option maxRecDepth 8000
theorem zA7 (x : List VT) (hl : x.length ≤ 1000000000) (fv : AV) (H : zaa) (K : AV → zaa → Prop) (hfv : fv.sc H.length = true) (Inv : Nat → zaa → Prop) (h0 : Inv 0 H)
  (step : ∀ (i : Nat) (h : i < x.length) (H' : zaa), H.length ≤ H'.length → Inv i H' → aCallV tP fv [.agg (x[i]).cs] H' fun r H'' => (r = .bool false ∧ Inv (i + 1) H'') ∨ (r = .bool true ∧ K (.int .i64 i) H''))
  (fin : ∀ H', Inv x.length H' → K (.int .i64 (-1)) H') : ACalls tP znc [.sl (VT.css x) .none, fv] H K := by
 refine zHI fun hs => ?_
 simp [zxi]
 refine zHG (Inv := fun q t8 H' => ∃ i : Nat, i ≤ x.length ∧ q = x.length - i ∧ t8 = .int .i64 i ∧ H.length ≤ H'.length ∧ Inv i H') x.length ?_ ?_
 ·intro _; exact ⟨0, by omega, by omega, rfl, Nat.le_refl _, h0⟩
 ·rintro q t8 H' ⟨i, hi, rfl, rfl, hle, hI⟩ hsc hlen hsF Kb hKb
  by_cases hlt : i < x.length
  ·simp [zpD, hlt]
   refine (step i hlt H' hle hI).mono' fun r H'' hsc' hle' hr => ?_
   rcases hr with ⟨rfl, hI'⟩ | ⟨rfl, hk⟩
   ·simp
    rw [zar (by omega) (by omega)]
    refine hKb _ _ ⟨x.length - (i + 1), by omega, Back.here (by omega) hsc' ?_ ⟨_, rfl, i + 1, by omega, rfl, by simp, by omega, hI'⟩⟩
    simp [zj8, AV.sc, AV.scV, AV.scA, AV.scB]
    exact zci (by omega) hfv
   ·simpa using hk
  ·obtain rfl : i = x.length := by omega
   simp [zpD]
   exact fin H' hI
theorem zsD (x : List VT) (hl : x.length ≤ 1000000000) (fv : AV) (H : zaa) (K : AV → zaa → Prop) (hfv : fv.sc H.length = true) (Inv : Nat → zaa → Prop) (h0 : Inv 0 H)
  (step : ∀ (i : Nat) (h : i < x.length) (H' : zaa), H.length ≤ H'.length → Inv i H' → aCallV tP fv [.agg (x[i]).cs] H' fun r H'' => (r = .bool false ∧ Inv (i + 1) H'') ∨ (r = .bool true ∧ K (.bool true) H''))
  (fin : ∀ H', Inv x.length H' → K (.bool false) H') : ACalls tP zhY [.sl (VT.css x) .none, fv] H K := by
 refine zEx fun hs => ?_
 unfold zvY
 refine zA7 x hl fv H _ hfv Inv h0 (fun i h H' hle hI => (step i h H' hle hI).mono' fun r H'' _ _ hr => ?_) (fun H' hI => ?_)
 ·rcases hr with hr | ⟨h1, h2⟩
  ·exact .inl hr
  ·refine .inr ⟨h1, ?_⟩
   have : decide ((0 : Int) ≤ i) = true := by simp
   simpa using h2
 ·simpa using fin H' hI
theorem zAR (f : VT → VT → Bool) (fv : AV) (x y : List VT) (H : zaa) (hsc : fv.sc H.length = true) (hf : ∀ (i : Nat) (h1 : i < x.length) (h2 : i < y.length), x.length = y.length → ∀ (J : zaa) (K : AV → zaa → Prop), K (.bool (f x[i] y[i])) (H ++ J) → aCallV tP fv [.agg (x[i]).cs, .agg (y[i]).cs] (H ++ J) K)
  (hl : x.length ≤ 1000000000) (K : AV → zaa → Prop) (hK : K (.bool (zbT f x y)) H) : ACalls tP znd [.sl (VT.css x) .none, .sl (VT.css y) .none, fv] H K := by
 refine ACalls.out (zHO fun hs => ?_)
 have hO : ∀ J, Out H.length K (.bool (zbT f x y)) (H ++ J) := fun J => Out.bool rfl (Nat.le_refl _) hs hK
 by_cases hlen : x.length = y.length
 ·simp [zpF, hlen]
  refine zHM (Inv := fun q t17 H' => ∃ i : Nat, i ≤ x.length ∧ q = x.length - i ∧ t17 = .int .i64 i ∧ zbT f (x.drop i) (y.drop i) = zbT f x y ∧ H = H') x.length ?_ ?_
  ·intro _; exact ⟨0, by omega, by omega, rfl, by simp, rfl⟩
  ·rintro q t17 H' ⟨i, hi, rfl, rfl, ho, rfl⟩ hsc4 hlen2 hsF Kb hKb
   by_cases hlt : i < x.length
   ·have hlt' : i < y.length := by omega
    have hltI : (i : Int) < y.length := by omega
    rw [List.drop_eq_getElem_cons hlt, List.drop_eq_getElem_cons hlt', zbT] at ho
    obtain ⟨x1, x2, x3, hvx, hx1, hx2, hx3⟩ := zaK x[i]
    obtain ⟨y1, y2, y3, hvy, hy1, hy2, hy3⟩ := zaK y[i]
    simp [zpG, hlt, hlt', hvx, hx1, hx2, hx3, hvy, hy1, hy2, hy3]
    rw [← hvx, ← hvy]
    refine hf i hlt hlt' hlen _ _ ?_
    cases hb : f x[i] y[i] with
    | false =>
     rw [hb, Bool.false_and] at ho
     rw [← ho] at hO
     simp
     exact hO _
    | true =>
     rw [hb, Bool.true_and] at ho
     simp
     rw [zar (by omega) (by omega)]
     refine hKb _ _ ⟨x.length - (i + 1), by omega, Back.same (by simp) hs ?_ ⟨_, rfl, i + 1, by omega, rfl, by simp, ho, rfl⟩⟩
     simp [zka, AV.sc, AV.scV, AV.scA, AV.scB]
     exact hsc
   ·have hlt' : ¬ i < y.length := by omega
    obtain rfl : i = x.length := by omega
    rw [List.drop_length, hlen, List.drop_length, zbT] at ho
    rw [← ho] at hO
    simp [zpG, hlt']
    simpa using hO []
 ·have hl' : ((x.length : Int) != y.length) = true := by simp; omega
  rw [zhL hlen] at hO
  simp [zpF, hl']
  simpa using hO []
theorem zLq : ∀ (m : Nat) (v : VT), v.nodes ≤ m → ∀ (left : Int), left ≤ 1000000 → -1 ≤ left → ∀ (H : zaa) (id : Nat), H[id]? = some (.cells [.int .i64 left]) → ∀ (K : AV → zaa → Prop),
  ((v.nodes : Int) ≤ left → K (.bool true) (H.set id (.cells [.int .i64 (left - v.nodes)]))) → (¬ (v.nodes : Int) ≤ left → ∀ l', K (.bool false) (H.set id (.cells [.int .i64 l']))) →
  ACalls tP zik [.agg v.cs, .ptr id 0] H K := by
 intro m
 induction m with
 | zero => intro v h; have := v.nodes_pos; omega
 | succ m ih =>
  intro v hv left hl1 hl0 H id hid K hK hF
  obtain ⟨k, n, ks⟩ := v
  have hlt := zbY hid
  have hnn : (VT.mk k n ks).nodes = VT.nodesL ks + 1 := by simp [VT.nodes]
  refine ACalls.out (zLo fun hs => ?_)
  have hget : (H ++ [AB.cells [.int .i64 k, .int .i64 n, .sl (VT.css ks) .none]])[id]? = some (.cells [.int .i64 left]) := zbs hid
  have bad : (¬ ((VT.mk k n ks).nodes : Int) ≤ left) → ∀ l' H', H' = H.set id (.cells [.int .i64 l']) ++ [.cells [.int .i64 k, .int .i64 n, .sl (VT.css ks) .none]] → Out H.length K (.bool false) H' := by
   intro h l' H' he
   exact Out.bool he (by simp) (hs.set rfl) (hF h l')
  simp [zyx, VT.cs, hget, AV.known]
  rw [zar (by omega) (by omega), zce _ hid, zbs (zbQ _ hid)]
  by_cases h0 : left - 1 < 0
  ·simp [h0]
   exact bad (by omega) _ _ rfl
  ·simp [h0]
   refine zLm (Inv := fun q t5 H' => ∃ i : Nat, i ≤ ks.length ∧ q = ks.length - i ∧ t5 = .int .i64 i ∧ ((VT.nodesL (ks.take i) : Int) + 1 ≤ left) ∧ H' = H.set id (.cells [.int .i64 (left - 1 - VT.nodesL (ks.take i))]) ++ [.cells [.int .i64 k, .int .i64 n, .sl (VT.css ks) .none]]) ks.length ?_ ?_
   ·intro _; exact ⟨0, by omega, by omega, rfl, by simp [VT.nodesL]; omega, by simp [VT.nodesL]⟩
   ·rintro q t5 H' ⟨i, hi, rfl, rfl, hb, rfl⟩ hsc hlen hsF Kb hKb
    by_cases hil : i < ks.length
    ·have hki := VT.kid_lt (k := k) (n := n) hil
     have h1 := VT.nodesL_take hil
     have h2 := VT.nodesL_take_le ks (i + 1)
     have hll := VT.len_le (ks.take i)
     simp only [List.length_take] at hll
     have hge : (H.set id (.cells [.int .i64 (left - 1 - VT.nodesL (ks.take i))]) ++ [AB.cells [.int .i64 k, .int .i64 n, .sl (VT.css ks) .none]])[id]? = some (.cells [.int .i64 (left - 1 - VT.nodesL (ks.take i))]) := zbs (zbQ _ hid)
     simp [zqB, hil]
     refine ih ks[i] (by omega) (left - 1 - VT.nodesL (ks.take i)) (by omega) (by omega) _ id hge _ ?_ ?_
     ·intro hle
      rw [zce _ (zbQ _ hid), List.set_set]
      simp
      rw [zar (by omega) (by omega)]
      refine hKb _ _ ⟨ks.length - (i + 1), by omega, Back.here (by simp) ((hs.set rfl).snoc rfl) ?_ ⟨_, rfl, i + 1, by omega, rfl, by simp, by omega, ?_⟩⟩
      ·simp [zkY, AV.sc, AV.scV, AV.scA, AV.scB]; omega
      ·rw [h1]; congr 5; omega
     ·intro hle l'
      rw [zce _ (zbQ _ hid), List.set_set]
      simp
      exact bad (by omega) _ _ rfl
    ·obtain rfl : i = ks.length := by omega
     rw [List.take_length] at hb ⊢
     simp [zqB]
     refine Out.bool rfl (by simp) (hs.set rfl) ?_
     have := hK (by omega)
     rw [hnn] at this
     rw [show left - 1 - (VT.nodesL ks : Int) = left - ((VT.nodesL ks + 1 : Nat) : Int) by omega]
     exact this
theorem zLI : ∀ (m : Nat) (v : VT), v.nodes ≤ m → ∀ (left : Int), left ≤ 1000000 → -1 ≤ left → ∀ (H : zaa) (id : Nat), H[id]? = some (.cells [.int .i64 left]) → ∀ (K : AV → zaa → Prop),
  ((v.nodes : Int) ≤ left → K (.bool true) (H.set id (.cells [.int .i64 (left - v.nodes)]))) → (¬ (v.nodes : Int) ≤ left → ∀ l', K (.bool false) (H.set id (.cells [.int .i64 l']))) →
  ACalls tP zim [.agg v.cs, .ptr id 0] H K := by
 intro m
 induction m with
 | zero => intro v h; have := v.nodes_pos; omega
 | succ m ih =>
  intro v hv left hl1 hl0 H id hid K hK hF
  obtain ⟨k, n, ks⟩ := v
  have hlt := zbY hid
  have hnn : (VT.mk k n ks).nodes = VT.nodesL ks + 1 := by simp [VT.nodes]
  refine ACalls.out (zLG fun hs => ?_)
  have hget : (H ++ [AB.cells [.int .i64 k, .int .i64 n, .sl (VT.css ks) .none]])[id]? = some (.cells [.int .i64 left]) := zbs hid
  have bad : (¬ ((VT.mk k n ks).nodes : Int) ≤ left) → ∀ l' H', H' = H.set id (.cells [.int .i64 l']) ++ [.cells [.int .i64 k, .int .i64 n, .sl (VT.css ks) .none]] → Out H.length K (.bool false) H' := by
   intro h l' H' he
   exact Out.bool he (by simp) (hs.set rfl) (hF h l')
  simp [zyI, VT.cs, hget, AV.known]
  rw [zar (by omega) (by omega), zce _ hid, zbs (zbQ _ hid)]
  by_cases h0 : left - 1 < 0
  ·simp [h0]
   exact bad (by omega) _ _ rfl
  ·simp [h0]
   refine zLE (Inv := fun q t5 H' => ∃ i : Nat, i ≤ ks.length ∧ q = ks.length - i ∧ t5 = .int .i64 i ∧ ((VT.nodesL (ks.take i) : Int) + 1 ≤ left) ∧ H' = H.set id (.cells [.int .i64 (left - 1 - VT.nodesL (ks.take i))]) ++ [.cells [.int .i64 k, .int .i64 n, .sl (VT.css ks) .none]]) ks.length ?_ ?_
   ·intro _; exact ⟨0, by omega, by omega, rfl, by simp [VT.nodesL]; omega, by simp [VT.nodesL]⟩
   ·rintro q t5 H' ⟨i, hi, rfl, rfl, hb, rfl⟩ hsc hlen hsF Kb hKb
    by_cases hil : i < ks.length
    ·have hki := VT.kid_lt (k := k) (n := n) hil
     have h1 := VT.nodesL_take hil
     have h2 := VT.nodesL_take_le ks (i + 1)
     have hll := VT.len_le (ks.take i)
     simp only [List.length_take] at hll
     have hge : (H.set id (.cells [.int .i64 (left - 1 - VT.nodesL (ks.take i))]) ++ [AB.cells [.int .i64 k, .int .i64 n, .sl (VT.css ks) .none]])[id]? = some (.cells [.int .i64 (left - 1 - VT.nodesL (ks.take i))]) := zbs (zbQ _ hid)
     simp [zqK, hil]
     refine ih ks[i] (by omega) (left - 1 - VT.nodesL (ks.take i)) (by omega) (by omega) _ id hge _ ?_ ?_
     ·intro hle
      rw [zce _ (zbQ _ hid), List.set_set]
      simp
      rw [zar (by omega) (by omega)]
      refine hKb _ _ ⟨ks.length - (i + 1), by omega, Back.here (by simp) ((hs.set rfl).snoc rfl) ?_ ⟨_, rfl, i + 1, by omega, rfl, by simp, by omega, ?_⟩⟩
      ·simp [zk5, AV.sc, AV.scV, AV.scA, AV.scB]; omega
      ·rw [h1]; congr 5; omega
     ·intro hle l'
      rw [zce _ (zbQ _ hid), List.set_set]
      simp
      exact bad (by omega) _ _ rfl
    ·obtain rfl : i = ks.length := by omega
     rw [List.take_length] at hb ⊢
     simp [zqK]
     refine Out.bool rfl (by simp) (hs.set rfl) ?_
     have := hK (by omega)
     rw [hnn] at this
     rw [show left - 1 - (VT.nodesL ks : Int) = left - ((VT.nodesL ks + 1 : Nat) : Int) by omega]
     exact this
theorem zEu (v : VT) (H : zaa) (K : AV → zaa → Prop) (hK : ∀ b, (b = true → v.nodes ≤ 400) → K (.bool b) H) : ACalls tP zmU [.agg v.cs] H K := by
 refine ACalls.out (zEt fun hs => ?_)
 simp [zvK, AV.known]
 refine zLq _ v (Nat.le_refl _) 400 (by omega) (by omega) _ (H.length + 1) (by simp) _ ?_ ?_
 ·intro h
  exact Out.bool (J := [_, _]) (by simp; exact ⟨rfl, rfl⟩) (Nat.le_refl _) hs (hK true fun _ => by omega)
 ·intro h l'
  exact Out.bool (J := [_, _]) (by simp; exact ⟨rfl, rfl⟩) (Nat.le_refl _) hs (hK false fun h => by cases h)
theorem zAp : zc1 tP zmW = true := by kernel_rfl
theorem zNv : ∀ (m : Nat) (v : VT), v.nodes ≤ m → ∀ (left : Int), (v.nodes : Int) ≤ left → left ≤ 1000000 → ∀ (H : zaa) (id : Nat), H[id]? = some (.cells [.int .i64 left]) → ∀ (K : AV → zaa → Prop),
  K (.bool true) (H.set id (.cells [.int .i64 (left - v.nodes)])) → ACalls tP ziu [.agg v.cs, .ptr id 0] H K := by
 intro m
 induction m with
 | zero => intro v h; have := v.nodes_pos; omega
 | succ m ih =>
  intro v hv left hl0 hl1 H id hid K hK
  obtain ⟨k, n, ks⟩ := v
  have hlt := zbY hid
  have hnn : (VT.mk k n ks).nodes = VT.nodesL ks + 1 := by simp [VT.nodes]
  have hll := VT.len_le ks
  refine ACalls.out (zNu fun hs => ?_)
  have hget : (H ++ [AB.cells [.int .i64 k, .int .i64 n, .sl (VT.css ks) .none], .cells [.ptr id 0]])[id]? = some (.cells [.int .i64 left]) := zbs hid
  have hset : ∀ (J : zaa) (x : AB), (H ++ J).set id x = H.set id x ++ J := fun J x => zce x hid
  have hg : ∀ (l : zaa) (x : AB) (j : Nat), (H.set id x ++ l)[H.length + j]? = l[j]? := fun l x j => by
   have := zta (H.set id x) l j
   rwa [List.length_set] at this
  have hgi : ∀ (l : zaa) (x : AB), (H.set id x ++ l)[id]? = some x := fun l x => zbs (zbQ x hid)
  have hl0' : ¬ left - 1 < 0 := by omega
  simp [zzg, VT.cs, hget, AV.known, hset, hg, hgi]
  rw [zar (by omega) (by omega)]
  simp [hl0']
  refine ⟨rfl, ?_⟩
  refine zsD ks (by omega) _ _ _ (by simp [AV.sc, AV.scV, AV.scA, AV.scB]) (fun i H' => H' = H.set id (.cells [.int .i64 (left - 1 - VT.nodesL (ks.take i))]) ++ [.cells [.int .i64 k, .int .i64 n, .sl (VT.css ks) .none], .cells [.ptr id 0]]) (by simp [VT.nodesL]) ?_ ?_
  ·rintro i hi H' hle rfl
   have hki := VT.kid_lt (k := k) (n := n) hi
   have h1 := VT.nodesL_take hi
   have h2 := VT.nodesL_take_le ks (i + 1)
   simp [aCallV, zAp]
   refine ACalls.out (zEA fun hs1 => ?_)
   obtain ⟨x, y, z, hvx, hx, hy, hz⟩ := zaK ks[i]
   simp [zvZ, hvx, hg]
   rw [← hvx]
   refine ih ks[i] (by omega) (left - 1 - VT.nodesL (ks.take i)) (by omega) (by omega) _ id (hgi _ _) _ ?_
   rw [zce _ (zbQ _ hid), List.set_set]
   simp
   refine Out.bool (H2 := H.set id (.cells [.int .i64 (left - 1 - VT.nodesL (ks.take (i + 1)))]) ++ [.cells [.int .i64 k, .int .i64 n, .sl (VT.css ks) .none], .cells [.ptr id 0]]) (J := [.cells (ks[i]).cs]) ?_ (by simp) ?_ (.inl ⟨rfl, rfl⟩)
   ·have e : left - 1 - (VT.nodesL (ks.take i) : Int) - (ks[i]).nodes = left - 1 - VT.nodesL (ks.take (i + 1)) := by omega
    rw [e]
    simp
   ·exact (hs.set rfl).append (by simp [AB.sc]; omega)
  ·rintro H' rfl
   simp
   refine Out.bool rfl (by simp) (hs.set rfl) ?_
   rw [hnn] at hK
   have e : left - 1 - (VT.nodesL ks : Int) = left - ((VT.nodesL ks + 1 : Nat) : Int) := by omega
   rw [e]
   exact hK
theorem zhQ (data : List Dat) : ∀ vs ts : List VT, zbx data vs ts = zbT (zav data) vs ts
 | [], [] => by simp [zbx, zbT]
 | [], _ :: _ => by simp [zbx, zbT]
 | _ :: _, [] => by simp [zbx, zbT]
 | v :: vs, t :: ts => by simp [zbx, zbT, zhQ data vs ts]
theorem zAr : zc1 tP zne = true := by kernel_rfl
theorem zAq : zc1 tP zmX = true := by kernel_rfl
theorem zvo {data : List Dat} {k n : Int} {ks : List VT} (h : zaS data 0 (.mk k n ks) = true) : (k = 1 ∧ ks = []) ∨ (k = 2 ∧ ks = []) ∨ (k = 3 ∧ ks = []) ∨ k = 5 ∨ (k = 6 ∧ 2 ≤ ks.length) ∨ (k = 7 ∧ ks.length = 1) ∨ (k = 8 ∧ ks.length = 1) ∨ (k = 9 ∧ 1 ≤ ks.length) := by
 rw [zaS, Bool.and_eq_true] at h
 have h := h.1
 unfold za6 at h
 by_cases h1 : k = 1
 ·subst h1; simp at h; simp [h.2]
 by_cases h2 : k = 2
 ·subst h2; simp at h; simp [h.2]
 by_cases h3 : k = 3
 ·subst h3; simp at h; simp [h.2]
 by_cases h4 : k = 4
 ·subst h4; simp at h; omega
 by_cases h5 : k = 5
 ·subst h5; simp
 by_cases h6 : k = 6
 ·subst h6; simp at h; simp; omega
 by_cases h7 : k = 7
 ·subst h7; simp at h; simp; omega
 by_cases h8 : k = 8
 ·subst h8; simp at h; simp; omega
 by_cases h9 : k = 9
 ·subst h9; simp at h; simp; omega
 simp [h1, h2, h3, h4, h5, h6, h7, h8, h9] at h
structure DOk (data : List Dat) : Prop where
 ok : zbe data = true
 k : za5 data
theorem zc6 {data : List Dat} (h : za5 data) : data.length ≤ 1000000 ∧ (∀ d ∈ data, ∀ c ∈ d.cons, c.args.length ≤ 1000 ∧ ∀ x ∈ c.args, x.nodes ≤ 1000) ∧ ∀ d ∈ data, d.cons.length ≤ 1000000 := by
 obtain ⟨h1, h2⟩ := h
 refine ⟨by omega, fun D hD c hc => ?_, fun D hD => ?_⟩
 ·obtain ⟨_, h3, h4⟩ := h2 D hD
  obtain ⟨_, h5, h6⟩ := h4 c hc
  exact ⟨by omega, fun x hx => by have := h6 x hx; omega⟩
 ·obtain ⟨_, h3, h4⟩ := h2 D hD
  omega
section
variable {data : List Dat} (hD : DOk data)
def zl8 (data : List Dat) (v : VT) : Prop := ∀ (t : VT), zaQ data 0 t = true → ∀ (H : zaa) (K : AV → zaa → Prop), K (.bool (zav data v t)) H → ACalls tP zgO [.sl (data.map Dat.cs) .none, .agg v.cs, .agg t.cs] H K
theorem zoG (vs ts : List VT) (hl : vs.length ≤ 1000000) (hv : ∀ v ∈ vs, zl8 data v) (ht : ∀ t ∈ ts, zaQ data 0 t = true) (H : zaa) (K : AV → zaa → Prop) (hK : K (.bool (zbx data vs ts)) H) :
  ACalls tP zgB [.sl (data.map Dat.cs) .none, .sl (VT.css vs) .none, .sl (VT.css ts) .none] H K := by
 refine ACalls.out (zED fun hs => ?_)
 simp [zv0]
 refine ⟨rfl, zAR (zav data) _ vs ts _ (by simp [AV.sc, AV.scV, AV.scA, AV.scB]) ?_ (by omega) _ ?_⟩
 ·intro i h1 h2 hle J K' hK'
  simp [aCallV, zAr]
  refine ACalls.out (zHS fun hs1 => ?_)
  obtain ⟨x, y, z, hvx, hx, hy, hz⟩ := zaK vs[i]
  obtain ⟨x2, y2, z2, hvx2, hx2, hy2, hz2⟩ := zaK ts[i]
  simp [zxl, hvx, hvx2]
  rw [← hvx, ← hvx2]
  refine hv _ (List.getElem_mem h1) _ (ht _ (List.getElem_mem h2)) _ _ ?_
  refine Out.bool (H2 := H ++ [.cells [.sl (data.map Dat.cs) .none]] ++ J) (J := [.cells (vs[i]).cs, .cells (ts[i]).cs]) (by simp) (by simp) (by simpa using hs1) (by simpa using hK')
 ·rw [← zhQ]
  exact Out.bool rfl (Nat.le_refl _) hs hK
theorem i0 (n : Nat) : ((n : Int) == 0) = (n == 0) := by
 rw [Bool.eq_iff_iff]; simp
theorem zs9 {ks : List VT} (h : 0 < ks.length) : ks.getD 0 (.mk 0 0 []) = ks[0] := by simp [List.getD_eq_getElem?_getD, h]
theorem ztd {data : List Dat} {t : VT} {vs : List VT} {i : Nat} (h : i < vs.length) : zcr data (vs.drop i) t = (zav data vs[i] t && zcr data (vs.drop (i + 1)) t) := by rw [List.drop_eq_getElem_cons h, zcr]
include hD in
theorem zNz : ∀ (m : Nat) (v : VT), v.nodes ≤ m → v.nodes ≤ 1000000 → zl8 data v := by
 intro m
 induction m with
 | zero => intro v h; have := v.nodes_pos; omega
 | succ m ih =>
  intro v hm hb t ht H K hK
  obtain ⟨vk, vn, vks⟩ := v
  obtain ⟨k, n, ks⟩ := t
  refine ACalls.out (zNy fun hs => ?_)
  have hO : ∀ b J, zav data (.mk vk vn vks) (.mk k n ks) = b → Out H.length K (.bool b) (H ++ J) := fun b J h => Out.bool rfl (Nat.le_refl _) hs (h ▸ hK)
  have hll := VT.len_le vks
  have hnn : (VT.mk vk vn vks).nodes = VT.nodesL vks + 1 := by simp [VT.nodes]
  have hkids : ∀ x ∈ vks, zl8 data x := fun x hx => ih x (by have := zd8 (k := vk) (n := vn) x hx; omega) (by have := zfm (k := vk) (n := vn) x hx; omega)
  have htk := zi0 ht
  have hto : zaS data 0 (.mk k n ks) = true := by rw [zaQ, Bool.and_eq_true] at ht; exact ht.2
  have htn : (VT.mk k n ks).nodes ≤ 200 := by rw [zaQ, Bool.and_eq_true] at ht; exact of_decide_eq_true ht.1
  obtain ⟨f1, f2, f3⟩ := zc6 hD.k
  rcases zvo hto with ⟨rfl, rfl⟩ | ⟨rfl, rfl⟩ | ⟨rfl, rfl⟩ | rfl | ⟨rfl, hk⟩ | ⟨rfl, hk⟩ | ⟨rfl, hk⟩ | ⟨rfl, hk⟩
  ·simp [zdT, VT.cs, Nat.add_assoc]
   cases h1 : (vk == 3) <;> simp
   ·exact hO _ _ (by simp [zav, h1])
   by_cases h2 : -1099511627776 ≤ vn <;> simp [h2]
   ·by_cases h3 : vn ≤ 1099511627776 <;> simp [h3]
    ·exact hO _ _ (by simp [zav, h1, h2, h3, i0])
    ·exact hO _ _ (by simp [zav, h1, h2, h3])
   ·exact hO _ _ (by simp [zav, h1, h2])
  ·simp [zdT, VT.cs, Nat.add_assoc]
   cases h1 : (vk == 2) <;> simp
   ·exact hO _ _ (by simp [zav, h1])
   cases h2 : (vn == 0) <;> simp [Nat.add_assoc]
   ·cases h3 : (vn == 1) <;> simp
    ·exact hO _ _ (by simp [zav, h1, h2, h3])
    ·exact hO _ _ (by simp [zav, h1, h2, h3, i0])
   ·exact hO _ _ (by simp [zav, h1, h2, i0])
  ·simp [zdT, VT.cs, Nat.add_assoc]
   cases h1 : (vk == 1) <;> simp
   ·exact hO _ _ (by simp [zav, h1])
   cases h2 : (vn == 0) <;> simp [Nat.add_assoc]
   ·exact hO _ _ (by simp [zav, h1, h2])
   ·exact hO _ _ (by simp [zav, h1, h2, i0])
  ·-- a data type
   simp [zdT, VT.cs, Nat.add_assoc]
   cases h1 : (vk == 5) with
   | false =>
    have : (vk != 5) = true := by simp [bne, h1]
    simp [this]
    exact hO _ _ (by simp [zav, h1])
   | true =>
   have h1' : (vk != 5) = false := by simp [bne, h1]
   by_cases h2 : vn < 0
   ·simp [h1', h2]
    exact hO _ _ (by simp [zav, h1]; omega)
   by_cases h3 : 8 ≤ vn
   ·simp [h1', h2, h3]
    exact hO _ _ (by simp [zav, h1]; omega)
   simp [h1', h2, h3, Nat.add_assoc]
   have e : ∀ o, zaR data (.mk 5 n ks) vn = o → zav data (.mk vk vn vks) (.mk 5 n ks) = zd6 data vks o := fun o ho => by
    have q1 : 0 ≤ vn := by omega
    have q2 : vn < 8 := by omega
    simp [zav, h1, q1, q2, ho]
   have hcs : (VT.mk 5 n ks).cs = [.int .i64 5, .int .i64 n, .sl (VT.css ks) .none] := rfl
   rw [← hcs]
   refine zfT data f1 f2 f3 (.mk 5 n ks) (by omega) vn _ _ ?_
   cases hf : zaR data (.mk 5 n ks) vn with
   | none =>
    simp [zbN]
    exact hO _ _ (by rw [e _ hf, zhP])
   | some l =>
    simp [zbN, hcs]
    refine zoG vks l (by omega) hkids (zgj hD.ok hto hf) _ _ ?_
    exact hO _ _ (by rw [e _ hf, zgn])
  ·simp [zdT, VT.cs, Nat.add_assoc]
   cases h1 : (vk == 4) <;> simp
   ·exact hO _ _ (by simp [zav, h1])
   cases h2 : (vn == 0) <;> simp [Nat.add_assoc]
   ·exact hO _ _ (by simp [zav, h1, h2])
   refine zoG vks ks (by omega) hkids htk _ _ ?_
   exact hO _ _ (by simp [zav, h1, h2])
  ·-- an array
   simp [zdT, VT.cs, Nat.add_assoc]
   cases h1 : (vk == 6) <;> simp
   ·exact hO _ _ (by simp [zav, h1])
   cases h2 : (vn == 0) <;> simp [Nat.add_assoc]
   ·exact hO _ _ (by simp [zav, h1, h2])
   by_cases h3 : vks.length ≤ 4096
   case neg =>
    have h3' : ¬ (vks.length : Int) ≤ 4096 := by omega
    simp [h3, h3']
    exact hO _ _ (by simp [zav, h1, h2, h3])
   have h3' : (vks.length : Int) ≤ 4096 := by omega
   simp [h3, h3']
   refine ⟨⟨rfl, rfl⟩, ?_⟩
   have hk0 : 0 < ks.length := by omega
   have e : zav data (.mk vk vn vks) (.mk 7 n ks) = zcr data vks ks[0] := by
    have := zs9 hk0
    simp [zav, h1, h2, h3, this, hk0]
   refine zsD vks (by omega) _ _ _ (by simp [AV.sc, AV.scV, AV.scA, AV.scB]) (fun i H' => H' = H ++ [.cells [.sl (data.map Dat.cs) .none], .cells [.int .i64 vk, .int .i64 vn, .sl (VT.css vks) .none], .cells [.int .i64 7, .int .i64 n, .sl (VT.css ks) .none]] ∧ zcr data (vks.drop i) ks[0] = zcr data vks ks[0]) ⟨rfl, by simp⟩ ?_ ?_
   ·rintro i hi H' hle ⟨rfl, ho⟩
    rw [ztd hi] at ho
    simp [aCallV, zAq]
    refine ACalls.out (zEG fun hs1 => ?_)
    obtain ⟨x, y, z, hvx, hx, hy, hz⟩ := zaK vks[i]
    obtain ⟨x2, y2, z2, hvx2, hx2, hy2, hz2⟩ := zaK ks[0]
    simp [zv1, hvx, hk0, hvx2, Nat.add_assoc]
    rw [← hvx, ← hvx2]
    refine zaF (.bool (zav data vks[i] ks[0])) (fun J => hkids _ (List.getElem_mem hi) ks[0] (htk _ (List.getElem_mem hk0)) _ _ ⟨rfl, rfl⟩) ?_
    simp
    cases hb : zav data vks[i] ks[0] with
    | true =>
     rw [hb, Bool.true_and] at ho
     exact Out.bool (H2 := H ++ [.cells [.sl (data.map Dat.cs) .none], .cells [.int .i64 vk, .int .i64 vn, .sl (VT.css vks) .none], .cells [.int .i64 7, .int .i64 n, .sl (VT.css ks) .none]]) (J := [_]) (by simp; rfl) (by simp) hs1 (.inl ⟨rfl, rfl, ho⟩)
    | false =>
     rw [hb, Bool.false_and] at ho
     refine Out.bool (H2 := H ++ [.cells [.sl (data.map Dat.cs) .none], .cells [.int .i64 vk, .int .i64 vn, .sl (VT.css vks) .none], .cells [.int .i64 7, .int .i64 n, .sl (VT.css ks) .none]]) (J := [_]) (by simp; rfl) (by simp) hs1 (.inr ⟨rfl, ?_⟩)
     exact hO _ _ (by rw [e, ← ho])
   ·rintro H' ⟨rfl, ho⟩
    rw [List.drop_length, zcr] at ho
    simp
    exact hO _ _ (by rw [e, ← ho])
  ·simp [zdT, VT.cs, Nat.add_assoc]
   cases h1 : (vk == 7) <;> simp
   ·exact hO _ _ (by simp [zav, h1])
   cases h2 : (vn == 0) <;> simp [Nat.add_assoc]
   ·exact hO _ _ (by simp [zav, h1, h2])
   refine zoG vks ks (by omega) hkids htk _ _ ?_
   exact hO _ _ (by simp [zav, h1, h2])
  ·simp [zdT, VT.cs, Nat.add_assoc]
   cases h1 : (vk == 8) <;> simp
   ·exact hO _ _ (by simp [zav, h1])
   by_cases h2 : 0 ≤ vn <;> simp [h2]
   ·by_cases h3 : vn < 64 <;> simp [h3]
    ·exact hO _ _ (by simp [zav, h1, h2, h3, i0])
    ·exact hO _ _ (by simp [zav, h1, h2, h3])
   ·exact hO _ _ (by simp [zav, h1, h2])
end
theorem zt5 : ∀ (a : List VT) (b : List Bool) (x : VT) (y : Bool), a.length = b.length → pick (a ++ [x]) (b ++ [y]) = pick a b ++ (if y then [] else [x])
 | [], [], x, y, _ => by cases y <;> rfl
 | [], _ :: _, _, _, h => by cases h
 | _ :: _, [], _, _, h => by cases h
 | c :: a, d :: b, x, y, h => by
  have := zt5 a b x y (by simpa using h)
  cases d <;> simp [pick, this]
theorem znP {l : List VT} {bs : List Bool} {i : Nat} (h : l.length = bs.length) (hi : i < l.length) : pick (l.take (i + 1)) (bs.take (i + 1)) = pick (l.take i) (bs.take i) ++ (if bs[i]'(by omega) then [] else [l[i]]) := by
 rw [List.take_succ_eq_append_getElem hi, List.take_succ_eq_append_getElem (by omega : i < bs.length)]
 exact zt5 _ _ _ _ (by simp; omega)
theorem ziL : ∀ (a : List VT) (b : List Bool), (pick a b).length ≤ a.length
 | [], b => by simp [pick]
 | _ :: _, [] => by simp [pick]
 | c :: a, d :: b => by
  have := ziL a b
  cases d <;> simp [pick] <;> omega
theorem zeu {l : List Bool} {i : Nat} (h : i < (zbq l).length) : (zbq l)[i] = [.bool (l[i]'(by simpa [zbq] using h))] := by simp [zbq]
theorem zdd (l : List Bool) : (zbq l).length = l.length := by simp [zbq]
theorem znO {data : List Dat} {k n : Int} {ks : List VT} {c : Int} {l : List VT} (hk : za5 data) (hf : zaR data (.mk k n ks) c = some l) :
  ∃ bs, l.length = bs.length ∧ l.length ≤ 8 ∧ zbl data (.mk k n ks) c = some (pick l bs) ∧ (∀ x ∈ l, x.nodes ≤ 200) ∧ k = 5 ∧
   (∀ H K, K (.sl (zbq bs) .none) H → ACalls tP zdf [.sl (data.map Dat.cs) .none, .int .i64 n, .int .i64 c] H K) ∧
   (∀ H K, K (.sl (zbq bs) .none) H → ACalls tP zfo [.sl (data.map Dat.cs) .none, .int .i64 n, .int .i64 c] H K) := by
 obtain ⟨k5, n0, c0, hn, hc, hv, rfl, h200⟩ := zfh hf
 obtain ⟨f1, f2, f3⟩ := zc6 hk
 have hd := List.getElem_mem hn
 have hcm := List.getElem_mem hc
 obtain ⟨g1, g2⟩ := f2 _ hd _ hcm
 have g3 := f3 _ hd
 have h8 := ((hk.2 _ hd).2.2 _ hcm).2.1
 refine ⟨zbu n.toNat data[n.toNat] (data[n.toNat]).cons[c.toNat], by simp [zbu], by simpa using h8, ?_, h200, k5, fun H K hK => ?_, fun H K hK => ?_⟩
 ·simp [zbl, hf, za4, hn, hc, List.getD_eq_getElem?_getD, VT.num]
 ·have := zlC data n.toNat c.toNat hn hc f1 g3 (by omega) (fun x hx => by have := g2 x hx; omega) H K (by simpa [zbq, zbu, Function.comp_def] using hK)
  rwa [Int.toNat_of_nonneg n0, Int.toNat_of_nonneg c0] at this
 ·have := zv3 data n.toNat c.toNat hn hc f1 g3 (by omega) (fun x hx => by have := g2 x hx; omega) H K hK
  rwa [Int.toNat_of_nonneg n0, Int.toNat_of_nonneg c0] at this
theorem zt4 {data : List Dat} {t : VT} {c : Int} (hf : zaR data t c = none) : zbl data t c = none := by simp [zbl, hf]
theorem zIG (data : List Dat) (hk : za5 data) (t : VT) (ht : t.nodes ≤ 1000) (c : Int) (H : zaa) (K : Kt) (hK : K (zbN (zbl data t c)) H) :
  ACalls tP zni [.sl (data.map Dat.cs) .none, .agg t.cs, .int .i64 c] H K := by
 refine ACalls.out (zIE fun hs => ?_)
 obtain ⟨f1, f2, f3⟩ := zc6 hk
 obtain ⟨k, n, ks⟩ := t
 simp [zxy, VT.cs, Nat.add_assoc]
 refine zfT data f1 f2 f3 (.mk k n ks) ht c _ _ ?_
 cases hf : zaR data (.mk k n ks) c with
 | none =>
  rw [zt4 hf] at hK
  simp [zbN]
  refine ⟨⟨rfl, rfl⟩, ?_⟩
  exact Out.tup (bs := [.sl [] .none, .bool false]) hs hK ⟨zeg, za1 rfl rfl, trivial⟩
 | some l =>
  obtain ⟨bs, hlb, hl8, hpay, h200, k5, hsc, _⟩ := znO hk hf
  rw [hpay] at hK
  simp [zbN]
  refine hsc _ _ ?_
  simp [zdd]
  unfold zkr
  refine ALoop.own 10 zaV 3 rfl ?_
  have hl1 : (H ++ [AB.cells [AV.int IntKind.i64 k, AV.int IntKind.i64 n, AV.sl (VT.css ks) Tok.none]]).length = H.length + 1 := by simp
  rw [hl1]
  show zkr (.sl (VT.css l) .none) (.sl [] (.own (H.length + 1))) (.sl (zbq bs) .none) (.int .i64 bs.length) (.int .i64 0) (H ++ [.cells [.int .i64 k, .int .i64 n, .sl (VT.css ks) .none]] ++ [.perm zaV 3 0]) (Out H.length K)
  have hperm : ∀ m, HSc (H ++ [.cells [.int .i64 k, .int .i64 n, .sl (VT.css ks) .none], .perm zaV 3 m]) := fun m => hs.append (by simp [AB.sc, AV.scA, AV.scB])
  refine zIC (Inv := fun q t10 t28 H' => ∃ i : Nat, i ≤ bs.length ∧ q = bs.length - i ∧ t28 = .int .i64 i ∧ t10 = .sl (VT.css (pick (l.take i) (bs.take i))) (.own (H.length + 1)) ∧ H' = H ++ [.cells [.int .i64 k, .int .i64 n, .sl (VT.css ks) .none], .perm zaV 3 (pick (l.take i) (bs.take i)).length]) bs.length ?_ ?_
  ·intro _; exact ⟨0, by omega, by omega, rfl, by simp [pick, VT.css], by simp [pick]⟩
  ·rintro q t10 t28 H' ⟨i, hi, rfl, rfl, rfl, rfl⟩ hsc' hlen hsF Kb hKb
   by_cases hlt : i < bs.length
   ·have hps := znP hlb (by omega : i < l.length)
    have hpl := ziL (l.take i) (bs.take i)
    rw [List.length_take] at hpl
    have hnext : ∀ J, zkq (.sl (VT.css l) .none) (.sl (VT.css (pick (l.take (i + 1)) (bs.take (i + 1)))) (.own (H.length + 1))) (.sl (zbq bs) .none) (.int .i64 bs.length) (.int .i64 i)
      (H ++ .cells [.int .i64 k, .int .i64 n, .sl (VT.css ks) .none] :: .perm zaV 3 (pick (l.take (i + 1)) (bs.take (i + 1))).length :: J) (Out H.length K) Kb := by
     intro J
     simp [zkq, zxz]
     rw [zar (by omega) (by omega)]
     refine hKb _ _ ⟨bs.length - (i + 1), by omega, Back.at (J := J) (H2 := H ++ [.cells [.int .i64 k, .int .i64 n, .sl (VT.css ks) .none], .perm zaV 3 (pick (l.take (i + 1)) (bs.take (i + 1))).length]) (by simp) (by simp) (hperm _) ?_ ⟨_, _, rfl, i + 1, by omega, rfl, by simp, rfl, rfl⟩⟩
     simp [zkp, AV.sc, AV.scV, AV.scA, AV.scB]
    simp [zpS, zdd, hlt, zeu]
    cases hbi : bs[i] with
    | true =>
     rw [hbi] at hps
     simp at hps
     simp
     have := hnext []
     rw [hps] at this
     exact this
    | false =>
     rw [hbi] at hps
     simp only [Bool.false_eq_true, if_false] at hps
     simp [show i < l.length by omega]
     rw [zev]
     simp [zaw, zaX, zaO]
     have := hnext []
     rw [hps] at this
     rw [show VT.css (pick (l.take i) (bs.take i) ++ [l[i]]) = VT.css (pick (l.take i) (bs.take i)) ++ [l[i].cs] by simp [VT.css_map], show (pick (l.take i) (bs.take i) ++ [l[i]]).length = (pick (l.take i) (bs.take i)).length + 1 by simp] at this
     exact ⟨⟨by omega, by omega⟩, this⟩
   ·obtain rfl : i = bs.length := by omega
    rw [List.take_of_length_le (by omega), List.take_length] at *
    simp [zpS]
    refine ⟨⟨rfl, rfl⟩, ?_⟩
    exact Out.tup (bs := [.sl (VT.css (pick l bs)) .none, .bool true]) hs hK ⟨slV, za1 rfl rfl, trivial⟩
def pos (v : Bool) (bs : List Bool) (i : Nat) : List Nat := (List.range i).filter fun j => bs.getD j false == v
def zaE (l : List Nat) : List (List AV) := l.map fun (n : Nat) => [AV.int .i64 (Int.ofNat n)]
theorem zfx (v : Bool) (bs : List Bool) (i : Nat) (h : i < bs.length) : pos v bs (i + 1) = pos v bs i ++ (if bs[i] == v then [i] else []) := by
 unfold pos
 rw [List.range_succ, List.filter_append]
 congr 1
 simp [List.filter_cons, List.getD_eq_getElem?_getD, h]
theorem zdu (v : Bool) (bs : List Bool) (i : Nat) : (pos v bs i).length ≤ i := by
 have := List.length_filter_le (fun j => bs.getD j false == v) (List.range i)
 simpa [pos] using this
theorem zdv {v : Bool} {bs : List Bool} {i j : Nat} (h : j ∈ pos v bs i) : j < i := by
 simp [pos] at h
 exact h.1
theorem zdt {l : List VT} {bs : List Bool} (h : l.length = bs.length) (d : VT) : ∀ i, i ≤ l.length → pick (l.take i) (bs.take i) = (pos false bs i).map fun j => l.getD j d
 | 0, _ => by simp [pick, pos]
 | i + 1, hi => by
  rw [znP h (by omega), zfx false bs i (by omega), List.map_append, zdt h d i (by omega)]
  congr 1
  cases hb : bs[i]'(by omega) <;> simp [List.getD_eq_getElem?_getD, show i < l.length by omega]
theorem zcc (l : List Nat) : (zaE l).length = l.length := by simp [zaE]
theorem ziE {l : List Nat} {i : Nat} (h : i < (zaE l).length) : (zaE l)[i] = [.int .i64 ((l[i]'(by simpa [zaE] using h) : Nat) : Int)] := by simp [zaE]
theorem zgR (l m : List Nat) : zaE (l ++ m) = zaE l ++ zaE m := by simp [zaE]
theorem zFT (data : List Dat) (hk : za5 data) (k n : Int) (ks : List VT) (ht : (VT.mk k n ks).nodes ≤ 1000) (c : Int) {l : List VT} {bs : List Bool} (hf : zaR data (.mk k n ks) c = some l)
  (hlb : l.length = bs.length) (hl8 : l.length ≤ 8) (hrec : ∀ H K, K (.sl (zbq bs) .none) H → ACalls tP zfo [.sl (data.map Dat.cs) .none, .int .i64 n, .int .i64 c] H K) (H : zaa) (K : Kt)
  (hK : K (.tup [.sl (zaE (pos false bs bs.length)) .none, .sl (zaE (pos true bs bs.length)) .none, .bool true]) H) :
  ACalls tP zm3 [.sl (data.map Dat.cs) .none, .agg (VT.mk k n ks).cs, .int .i64 c] H K := by
 refine ACalls.out (zFR fun hs => ?_)
 obtain ⟨f1, f2, f3⟩ := zc6 hk
 simp [zwo, VT.cs, Nat.add_assoc]
 refine zpW data f1 f2 f3 (.mk k n ks) ht c _ _ ?_
 rw [hf]
 simp [zbN]
 refine hrec _ _ ?_
 simp [zdd]
 unfold zjF
 refine ALoop.own 11 za8 1 rfl ?_
 refine ALoop.own 12 za8 1 rfl ?_
 have hl1 : (H ++ [AB.cells [AV.int IntKind.i64 k, AV.int IntKind.i64 n, AV.sl (VT.css ks) Tok.none]]).length = H.length + 1 := by simp
 have hl2 : (H ++ [AB.cells [AV.int IntKind.i64 k, AV.int IntKind.i64 n, AV.sl (VT.css ks) Tok.none]] ++ [AB.perm za8 1 0]).length = H.length + 2 := by simp
 rw [hl1, hl2]
 show zjF (.sl [] (.own (H.length + 1))) (.sl [] (.own (H.length + 2))) (.sl (zbq bs) .none) (.int .i64 bs.length) (.int .i64 0) (H ++ [.cells [.int .i64 k, .int .i64 n, .sl (VT.css ks) .none]] ++ [.perm za8 1 0] ++ [.perm za8 1 0]) (Out H.length K)
 have hperm : ∀ m m2, HSc (H ++ [.cells [.int .i64 k, .int .i64 n, .sl (VT.css ks) .none], .perm za8 1 m, .perm za8 1 m2]) := fun m m2 => hs.append (by simp [AB.sc, AV.scA, AV.scB])
 refine zFP (Inv := fun q t11 t12 t30 H' => ∃ i : Nat, i ≤ bs.length ∧ q = bs.length - i ∧ t30 = .int .i64 i ∧ t11 = .sl (zaE (pos false bs i)) (.own (H.length + 1)) ∧ t12 = .sl (zaE (pos true bs i)) (.own (H.length + 2)) ∧
  H' = H ++ [.cells [.int .i64 k, .int .i64 n, .sl (VT.css ks) .none], .perm za8 1 (pos false bs i).length, .perm za8 1 (pos true bs i).length]) bs.length ?_ ?_
 ·intro _; exact ⟨0, by omega, by omega, rfl, by simp [pos, zaE], by simp [pos, zaE], by simp [pos]⟩
 ·rintro q t11 t12 t30 H' ⟨i, hi, rfl, rfl, rfl, rfl, rfl⟩ hsc' hlen hsF Kb hKb
  by_cases hlt : i < bs.length
  ·have hp1 := zfx false bs i hlt
   have hp2 := zfx true bs i hlt
   have hn1 := zdu false bs i
   have hn2 := zdu true bs i
   have hnext : zjE (.sl (zaE (pos false bs (i + 1))) (.own (H.length + 1))) (.sl (zaE (pos true bs (i + 1))) (.own (H.length + 2))) (.sl (zbq bs) .none) (.int .i64 bs.length) (.int .i64 i)
     (H ++ [.cells [.int .i64 k, .int .i64 n, .sl (VT.css ks) .none], .perm za8 1 (pos false bs (i + 1)).length, .perm za8 1 (pos true bs (i + 1)).length]) (Out H.length K) Kb := by
    simp [zjE, zwp]
    rw [zar (by omega) (by omega)]
    refine hKb _ _ ⟨bs.length - (i + 1), by omega, Back.at (J := []) (H2 := H ++ [.cells [.int .i64 k, .int .i64 n, .sl (VT.css ks) .none], .perm za8 1 (pos false bs (i + 1)).length, .perm za8 1 (pos true bs (i + 1)).length]) (by simp) (by simp) (hperm _ _) ?_ ⟨_, _, _, rfl, i + 1, by omega, rfl, by simp, rfl, rfl, rfl⟩⟩
    simp [zjD, AV.sc, AV.scV, AV.scA, AV.scB]
   cases hbi : bs[i] with
   | true =>
    rw [hbi] at hp1 hp2
    simp at hp1 hp2
    rw [hp1, hp2] at hnext
    simp [zjC, zdd, hlt, zeu, hbi, zaz, za9, zaB, AV.pd, zaw, zaX, zaO, zcc]
    refine ⟨⟨by omega, by omega⟩, ?_⟩
    simpa [zgR, zaE] using hnext
   | false =>
    rw [hbi] at hp1 hp2
    simp at hp1 hp2
    rw [hp1, hp2] at hnext
    simp [zjC, zdd, hlt, zeu, hbi, zaz, za9, zaB, AV.pd, zaw, zaX, zaO, zcc]
    refine ⟨⟨by omega, by omega⟩, ?_⟩
    simpa [zgR, zaE] using hnext
  ·obtain rfl : i = bs.length := by omega
   simp [zjC]
   refine ⟨⟨rfl, rfl, rfl⟩, ?_⟩
   exact Out.tup (bs := [.sl (zaE (pos false bs bs.length)) .none, .sl (zaE (pos true bs bs.length)) .none, .bool true]) hs hK ⟨slV, slV, za1 rfl rfl, trivial⟩
end Go.Proofs.YtjkkonpjecoieaaGreat
