import Derived.Test.YtjkkonpjecoieaaGreatKNum
import Derived.Test.YtjkkonpjecoieaaGreatProg
import Derived.KernelRfl
import Derived.Test.YtjkkonpjecoieaaGreatKUA
import Derived.Test.YtjkkonpjecoieaaGreatKV1
set_option linter.unusedSimpArgs false
set_option linter.unusedVariables false
namespace Go.Proofs.YtjkkonpjecoieaaGreat
open Go Go.Abs
set_option maxRecDepth 100000
def zC1 (_ : Nat) : List Bool := []
noncomputable def zC2 : Code := Tryz.f12.body.getD .skip
def zuO (t0 : AV) (H : zaa) (K : Kt) : Prop :=
 zap t0 H fun t1 H =>
 zaw [(.int .i64 0)] H fun t3 H =>
 zak 1 t3 (.int .i64 40) H fun H =>
 zad true 2 t1 H fun t4 =>
 ACalls tP zhT [t4, t3] H fun t5 H =>
 K t5 H
theorem zC3 {t0 : AV} {H : zaa} {K : Kt} (h : HSc H → zuO t0 H K) : ACalls tP zmq [t0] H K :=
 zam (M := zC1) Tryz.func12 (c := zC2) (by kernel_rfl) (fun hs => Eq.mpr (by kernel_rfl) (h hs))
def zj5 : Nat → List Bool
 | 5 => rl false [1,2,2,1,24]
 | _ => []
noncomputable def zpB : Code := Tryz.f37.body.getD .skip
noncomputable def zIT : List ResultVar := Tryz.f37.results.toList
def zj6 (t1 t2 t5 : AV) : List AV := ux 1 (t1 :: t2 :: ux 2 (t5 :: ux 24 []))
def zIR : List Bool := zj5 5
noncomputable def zIP : Code := zar [1, 1, 1, 0, 1, 0, 0] zpB
def zIO (K : Kt) : AExit → List AV → zaa → Prop := zat tP zj5 [1, 1, 1, 0, 1, 0] zpB (zay tP zIT K)
def zxc (t1 t2 t5 : AV) (H : zaa) (K : Kt) : Prop := ALoop tP zIP (zIO K) (zj6 t1 t2 t5) H
def zpA (t1 t2 t5 : AV) (H : zaa) (K : Kt) (Kb5 : Lt) : Prop :=
 zaf 1 t2 fun t16 =>
 zad false 1 t16 H fun t17 =>
 zah 1 t17 fun t18 =>
 zac .lss false t5 t18 fun t19 =>
 zag t19
 (zaf 1 t2 fun t22 =>
 zad false 1 t22 H fun t23 =>
 zaj 2 t23 t5 fun t25 =>
 zad true 2 t25 H fun t26 =>
 ACalls tP zhT [t26, t1] H fun t28 H =>
 aUn .not t28 fun t29 =>
 zag t29
 (K (.bool false) H)
 (zac .add false t5 (.int .i64 1) fun t21 =>
 Kb5 (zj6 t1 t2 t21) H))
 (K (.bool true) H)
def zxb (t0 t1 : AV) (H : zaa) (K : Kt) : Prop :=
 zap t0 H fun t2 H =>
 za4 t1 fun t7 =>
 zad false 1 t7 H fun t8 =>
 zac .sub false t8 (.int .i64 1) fun t9 =>
 za4 t1 fun t10 =>
 zak 1 t10 t9 H fun H =>
 za4 t1 fun t12 =>
 zad false 1 t12 H fun t13 =>
 zac .lss false t13 (.int .i64 0) fun t14 =>
 zag t14
 (K (.bool false) H)
 (zxc t1 t2 (.int .i64 0) H K)
theorem zIQ {t1 t2 t5 : AV} {H : zaa} {K : Kt} (Inv : Nat → AV → zaa → Prop) (n : Nat) (h0 : HSc H → Inv n t5 H)
  (round : Rd1 (fun t5 => zj6 t1 t2 t5) (fun t5 => fun H Kb5 => zpA t1 t2 t5 H K Kb5) H Inv) : zxc t1 t2 t5 H K :=
 lp1 (M := zj5) zIR t5 (by kernel_rfl) Inv n h0 round
theorem zIS {t0 t1 : AV} {H : zaa} {K : Kt} (h : HSc H → zxb t0 t1 H K) : ACalls tP zhT [t0, t1] H K :=
 zam (M := zj5) Tryz.func37 (c := zpB) (by kernel_rfl) (fun hs => Eq.mpr (by kernel_rfl) (h hs))
def zJv (_ : Nat) : List Bool := []
noncomputable def zJw : Code := Tryz.f44.body.getD .skip
def zxr (t0 t1 t2 : AV) (H : zaa) (K : Kt) : Prop :=
 zap t1 H fun t4 H =>
 zap t2 H fun t5 H =>
 zad true 3 t4 H fun t8 =>
 zad true 2 t5 H fun t9 =>
 ACalls tP zm8 [t0, t8, t9] H fun t10 H =>
 zac .geq false t10 (.int .i64 0) fun t11 =>
 K t11 H
theorem zJx {t0 t1 t2 : AV} {H : zaa} {K : Kt} (h : HSc H → zxr t0 t1 t2 H K) : ACalls tP zm2 [t0, t1, t2] H K :=
 zam (M := zJv) Tryz.func44 (c := zJw) (by kernel_rfl) (fun hs => Eq.mpr (by kernel_rfl) (h hs))
def zEC (_ : Nat) : List Bool := []
noncomputable def zED : Code := Tryz.f16.body.getD .skip
def zvg (t0 t1 t2 : AV) (H : zaa) (K : Kt) : Prop :=
 zap t1 H fun t4 H =>
 zap t2 H fun t5 H =>
 zad true 3 t4 H fun t8 =>
 zad true 2 t5 H fun t9 =>
 ACalls tP zm1 [t0, t8, t9] H fun t10 H =>
 zac .geq false t10 (.int .i64 0) fun t11 =>
 K t11 H
theorem zEE {t0 t1 t2 : AV} {H : zaa} {K : Kt} (h : HSc H → zvg t0 t1 t2 H K) : ACalls tP zhF [t0, t1, t2] H K :=
 zam (M := zEC) Tryz.func16 (c := zED) (by kernel_rfl) (fun hs => Eq.mpr (by kernel_rfl) (h hs))
def zMG (_ : Nat) : List Bool := []
noncomputable def zMH : Code := Tryz.f88.body.getD .skip
def zyx (t0 t1 t2 : AV) (H : zaa) (K : Kt) : Prop :=
 zap t1 H fun t4 H =>
 zap t2 H fun t5 H =>
 zad true 3 t4 H fun t10 =>
 ACalls tP zgr [t0, t10] H fun t11 H =>
 aUn .not t11 fun t12 =>
 zag t12
 (K (.int .i64 (-1)) H)
 (zad true 3 t4 H fun t15 =>
 zad true 2 t5 H fun t16 =>
 ACalls tP zhD [t0, t15, t16] H fun t17 H =>
 zav t17 0 fun t18 =>
 zav t17 1 fun t19 =>
 aUn .not t19 fun t21 =>
 zag t21
 (K (.int .i64 (-1)) H)
 (K t18 H))
theorem zMI {t0 t1 t2 : AV} {H : zaa} {K : Kt} (h : HSc H → zyx t0 t1 t2 H K) : ACalls tP zm8 [t0, t1, t2] H K :=
 zam (M := zMG) Tryz.func88 (c := zMH) (by kernel_rfl) (fun hs => Eq.mpr (by kernel_rfl) (h hs))
def zJr (_ : Nat) : List Bool := []
noncomputable def zJs : Code := Tryz.f43.body.getD .skip
def zxq (t0 t1 t2 : AV) (H : zaa) (K : Kt) : Prop :=
 zap t1 H fun t4 H =>
 zap t2 H fun t5 H =>
 zad true 3 t4 H fun t8 =>
 ACalls tP zm0 [t0, t8] H fun t9 H =>
 aUn .not t9 fun t10 =>
 zag t10
 (K (.int .i64 (-1)) H)
 (zad true 3 t4 H fun t12 =>
 zad true 2 t5 H fun t13 =>
 ACalls tP zh9 [t0, t12, t13] H fun t14 H =>
 K t14 H)
theorem zJt {t0 t1 t2 : AV} {H : zaa} {K : Kt} (h : HSc H → zxq t0 t1 t2 H K) : ACalls tP zm1 [t0, t1, t2] H K :=
 zam (M := zJr) Tryz.func43 (c := zJs) (by kernel_rfl) (fun hs => Eq.mpr (by kernel_rfl) (h hs))
def zLE (_ : Nat) : List Bool := []
noncomputable def zLF : Code := Tryz.f73.body.getD .skip
def zyd (t0 t1 : AV) (H : zaa) (K : Kt) : Prop :=
 zap t1 H fun t3 H =>
 zaC [.snil, .snil, .snil, .snil] [(0, 1), (1, 1), (2, 1), (3, 1)] [(0, t0)] fun t6 =>
 ACalls tP zmu [t6] H fun t7 H =>
 zab t7 true H (fun K' => K' t0 H) fun t9 H =>
 zab t7 true H (fun K' => zad true 3 t3 H (K' · H)) fun t10 H =>
 zab t7 true H (fun K' => ACalls tP zgd [t9, t10, (.int .i64 0)] H K') fun t11 H =>
 zai t7 t11 (.bool false) fun t12 =>
 K t12 H
theorem zLG {t0 t1 : AV} {H : zaa} {K : Kt} (h : HSc H → zyd t0 t1 H K) : ACalls tP zgr [t0, t1] H K :=
 zam (M := zLE) Tryz.func73 (c := zLF) (by kernel_rfl) (fun hs => Eq.mpr (by kernel_rfl) (h hs))
def zi4 : Nat → List Bool
 | 13 => rl false [0,1,3,1,3,1,44,3,42]
 | _ => []
noncomputable def zol : Code := Tryz.f131.body.getD .skip
noncomputable def zDZ : List ResultVar := Tryz.f131.results.toList
def zi5 (t0 t4 t8 t53 t54 t55 : AV) : List AV := t0 :: ux 3 (t4 :: ux 3 (t8 :: ux 44 (t53 :: t54 :: t55 :: ux 42 [])))
def zDX : List Bool := zi4 13
noncomputable def zDV : Code := zar [1, 0, 1, 0, 1, 1, 1, 1, 1, 0, 1, 1, 0, 1, 0, 0] zol
def zDU (K : Kt) : AExit → List AV → zaa → Prop := zat tP zi4 [1, 0, 1, 0, 1, 1, 1, 1, 1, 0, 1, 1, 0, 1, 0] zol (zay tP zDZ K)
def zvc (t0 t4 t8 t53 t54 t55 : AV) (H : zaa) (K : Kt) : Prop := ALoop tP zDV (zDU K) (zi5 t0 t4 t8 t53 t54 t55) H
def zok (t0 t4 t8 t53 t54 t55 : AV) (H : zaa) (K : Kt) (Kb13 : Lt) : Prop :=
 zac .lss false t55 t54 fun t56 =>
 zag t56
 (zaj 2 t53 t55 fun t57 =>
 zad true 2 t57 H fun t58 =>
 zaw [(.int .i64 0), .snil] H fun t10 H =>
 zak 2 t10 t58 H fun H =>
 zad true 3 t4 H fun t61 =>
 zaf 0 t10 fun t62 =>
 zad false 1 t62 H fun t63 =>
 ACalls tP zmM [t0, t61, t63] H fun t64 H =>
 zav t64 0 fun t65 =>
 zav t64 1 fun t66 =>
 aUn .not t66 fun t68 =>
 zag t68
 (zaA [(.int .i64 0), (.bool false)] (K · H))
 (zaf 1 t10 fun t72 =>
 zad false 1 t72 H fun t73 =>
 ACalls tP zhM [t0, t65, t73] H fun t74 H =>
 zav t74 0 fun t75 =>
 zav t74 1 fun t76 =>
 zac .add false (.int .i64 1) t75 fun t79 =>
 zac .add false t8 t79 fun t80 =>
 aUn .not t76 fun t82 =>
 zab t82 false H (fun K' => K' t80 H) fun t84 H =>
 zab t82 false H (fun K' => zac .gtr false t84 (.int .i64 6) (K' · H)) fun t85 H =>
 zai t82 (.bool true) t85 fun t86 =>
 zag t86
 (zaA [(.int .i64 0), (.bool false)] (K · H))
 (zac .add false t55 (.int .i64 1) fun t87 =>
 Kb13 (zi5 t0 t4 t80 t53 t54 t87) H)))
 (zaA [t8, (.bool true)] (K · H))
def zc0 (t0 t1 t2 : AV) (H : zaa) (K : Kt) : Prop :=
 zap t1 H fun t4 H =>
 zap t2 H fun t5 H =>
 zaf 0 t4 fun t14 =>
 zad false 1 t14 H fun t15 =>
 zac .eql false t15 (.int .i64 6) fun t17 =>
 zag t17
 (zaf 0 t5 fun t18 =>
 zad false 1 t18 H fun t19 =>
 zac .neq false t19 (.int .i64 0) fun t20 =>
 zag t20
 (zaA [(.int .i64 0), (.bool false)] (K · H))
 (zaf 2 t4 fun t22 =>
 zad false 1 t22 H fun t23 =>
 zaf 1 t5 fun t24 =>
 zad false 1 t24 H fun t25 =>
 ACalls tP zhM [t0, t23, t25] H fun t26 H =>
 zav t26 0 fun t27 =>
 zav t26 1 fun t28 =>
 zaA [t27, t28] (K · H)))
 (zac .eql false t15 (.int .i64 7) fun t30 =>
 zag t30
 (zae H (fun K' => zaf 0 t5 (K' · H)) fun t31 =>
 zae H (fun K' => zal false 1 t31 H (K' · H)) fun t32 =>
 zae H (fun K' => zaf 0 t5 (K' · H)) fun t33 =>
 zae H (fun K' => zal false 1 t33 H (K' · H)) fun t34 =>
 zae H (fun K' => zac .geq false t34 (.int .i64 0) (K' · H)) fun t35 =>
 zae H (fun K' => K' t35 H) fun t36 =>
 zab t36 true H (fun K' => zae H (fun K'' => zaf 0 t5 (K'' · H)) (K' · H)) fun t37 H =>
 zab t36 true H (fun K' => zae H (fun K'' => zal false 1 t37 H (K'' · H)) (K' · H)) fun t38 H =>
 zab t36 true H (fun K' => zae H (fun K'' => zac .leq false t38 (.int .i64 6) (K'' · H)) (K' · H)) fun t39 H =>
 zae H (fun K' => zai t36 t39 (.bool false) (K' · H)) fun t40 =>
 zae H (fun K' => K' t40 H) fun t41 =>
 zab t41 true H (fun K' => zae H (fun K'' => zaf 1 t5 (K'' · H)) (K' · H)) fun t42 H =>
 zab t41 true H (fun K' => zae H (fun K'' => zal false 1 t42 H (K'' · H)) (K' · H)) fun t43 H =>
 zab t41 true H (fun K' => zae H (fun K'' => zah 1 t43 (K'' · H)) (K' · H)) fun t44 H =>
 zab t41 true H (fun K' => zae H (fun K'' => zac .eql false t44 (.int .i64 0) (K'' · H)) (K' · H)) fun t45 H =>
 zae H (fun K' => zai t41 t45 (.bool false) (K' · H)) fun t46 =>
 zae H (fun K' => K' t32 H) fun t6 =>
 zae H (fun K' => K' t46 H) fun t7 =>
 zaA [t6, t7] (K · H))
 (zac .eql false t15 (.int .i64 5) fun t48 =>
 zag t48
 (zaf 0 t5 fun t49 =>
 zad false 1 t49 H fun t50 =>
 zac .neq false t50 (.int .i64 0) fun t51 =>
 zag t51
 (zaA [(.int .i64 0), (.bool false)] (K · H))
 (zaf 1 t5 fun t52 =>
 zad false 1 t52 H fun t53 =>
 zah 1 t53 fun t54 =>
 zvc t0 t4 (.int .i64 0) t53 t54 (.int .i64 0) H K))
 (zae H (fun K' => zaf 0 t5 (K' · H)) fun t89 =>
 zae H (fun K' => zal false 1 t89 H (K' · H)) fun t90 =>
 zae H (fun K' => zac .eql false t90 (.int .i64 0) (K' · H)) fun t91 =>
 zae H (fun K' => K' t91 H) fun t92 =>
 zab t92 true H (fun K' => zae H (fun K'' => zaf 1 t5 (K'' · H)) (K' · H)) fun t93 H =>
 zab t92 true H (fun K' => zae H (fun K'' => zal false 1 t93 H (K'' · H)) (K' · H)) fun t94 H =>
 zab t92 true H (fun K' => zae H (fun K'' => zah 1 t94 (K'' · H)) (K' · H)) fun t95 H =>
 zab t92 true H (fun K' => zae H (fun K'' => zac .eql false t95 (.int .i64 0) (K'' · H)) (K' · H)) fun t96 H =>
 zae H (fun K' => zai t92 t96 (.bool false) (K' · H)) fun t97 =>
 zae H (fun K' => K' (.int .i64 0) H) fun t6 =>
 zae H (fun K' => K' t97 H) fun t7 =>
 zaA [t6, t7] (K · H))))
theorem zDW {t0 t4 t8 t53 t54 t55 : AV} {H : zaa} {K : Kt} (Inv : Nat → AV → AV → zaa → Prop) (n : Nat) (h0 : HSc H → Inv n t8 t55 H)
  (round : Rd2 (fun t8 => fun t55 => zi5 t0 t4 t8 t53 t54 t55) (fun t8 => fun t55 => fun H Kb13 => zok t0 t4 t8 t53 t54 t55 H K Kb13) H Inv) : zvc t0 t4 t8 t53 t54 t55 H K :=
 lp2 (M := zi4) zDX t8 t55 (by kernel_rfl) Inv n h0 round
theorem zDY {t0 t1 t2 : AV} {H : zaa} {K : Kt} (h : HSc H → zc0 t0 t1 t2 H K) : ACalls tP zhD [t0, t1, t2] H K :=
 zam (M := zi4) Tryz.func131 (c := zol) (by kernel_rfl) (fun hs => Eq.mpr (by kernel_rfl) (h hs))
def zIK (_ : Nat) : List Bool := []
noncomputable def zIL : Code := Tryz.f34.body.getD .skip
def zxa (t0 t1 : AV) (H : zaa) (K : Kt) : Prop :=
 zap t1 H fun t3 H =>
 ACalls tP zhV [t0] H fun t6 H =>
 zab t6 true H (fun K' => K' t0 H) fun t8 H =>
 zab t6 true H (fun K' => zad true 3 t3 H (K' · H)) fun t9 H =>
 zab t6 true H (fun K' => ACalls tP zgl [t8, t9, (.int .i64 0)] H K') fun t10 H =>
 zai t6 t10 (.bool false) fun t11 =>
 K t11 H
theorem zIM {t0 t1 : AV} {H : zaa} {K : Kt} (h : HSc H → zxa t0 t1 H K) : ACalls tP zm0 [t0, t1] H K :=
 zam (M := zIK) Tryz.func34 (c := zIL) (by kernel_rfl) (fun hs => Eq.mpr (by kernel_rfl) (h hs))
def zln : Nat → List Bool
 | 15 => rl false [0,1,3,1,2,1,48,3,50]
 | _ => []
noncomputable def zqR : Code := Tryz.f87.body.getD .skip
noncomputable def zME : List ResultVar := Tryz.f87.results.toList
def zlo (t0 t4 t7 t56 t57 t58 : AV) : List AV := t0 :: ux 3 (t4 :: ux 2 (t7 :: ux 48 (t56 :: t57 :: t58 :: ux 50 [])))
def zMC : List Bool := zln 15
noncomputable def zMA : Code := zar [1, 0, 1, 0, 1, 1, 1, 1, 1, 0, 1, 1, 0, 1, 0, 0] zqR
def zMz (K : Kt) : AExit → List AV → zaa → Prop := zat tP zln [1, 0, 1, 0, 1, 1, 1, 1, 1, 0, 1, 1, 0, 1, 0] zqR (zay tP zME K)
def zyw (t0 t4 t7 t56 t57 t58 : AV) (H : zaa) (K : Kt) : Prop := ALoop tP zMA (zMz K) (zlo t0 t4 t7 t56 t57 t58) H
def zg5 (t0 t4 t7 t56 t57 t58 : AV) (H : zaa) (K : Kt) (Kb15 : Lt) : Prop :=
 zac .lss false t58 t57 fun t59 =>
 zag t59
 (zaj 2 t56 t58 fun t60 =>
 zad true 2 t60 H fun t61 =>
 zaw [(.int .i64 0), .snil] H fun t9 H =>
 zak 2 t9 t61 H fun H =>
 zaf 0 t9 fun t62 =>
 zad false 1 t62 H fun t63 =>
 zac .lss false t63 (.int .i64 0) fun t64 =>
 zab t64 false H (fun K' => zaf 0 t9 (K' · H)) fun t66 H =>
 zab t64 false H (fun K' => zad false 1 t66 H (K' · H)) fun t67 H =>
 zab t64 false H (fun K' => zac .geq false t67 (.int .i64 8) (K' · H)) fun t68 H =>
 zai t64 (.bool true) t68 fun t69 =>
 zag t69
 (K (.int .i64 (-1)) H)
 (zad true 3 t4 H fun t72 =>
 zaf 0 t9 fun t73 =>
 zad false 1 t73 H fun t74 =>
 ACalls tP zie [t0, t72, t74] H fun t75 H =>
 zav t75 0 fun t76 =>
 zav t75 1 fun t77 =>
 aUn .not t77 fun t79 =>
 zag t79
 (K (.int .i64 (-1)) H)
 (zaf 1 t9 fun t82 =>
 zad false 1 t82 H fun t83 =>
 ACalls tP zhC [t0, t76, t83] H fun t84 H =>
 zac .lss false t84 (.int .i64 0) fun t86 =>
 zab t86 false H (fun K' => K' t7 H) fun t88 H =>
 zab t86 false H (fun K' => zac .add false t88 (.int .i64 1) (K' · H)) fun t89 H =>
 zab t86 false H (fun K' => K' t84 H) fun t90 H =>
 zab t86 false H (fun K' => zac .add false t89 t90 (K' · H)) fun t91 H =>
 zab t86 false H (fun K' => zac .gtr false t91 (.int .i64 6) (K' · H)) fun t92 H =>
 zai t86 (.bool true) t92 fun t93 =>
 zag t93
 (K (.int .i64 (-1)) H)
 (zac .add false (.int .i64 1) t84 fun t96 =>
 zac .add false t7 t96 fun t97 =>
 zac .add false t58 (.int .i64 1) fun t98 =>
 Kb15 (zlo t0 t4 t97 t56 t57 t98) H))))
 (K t7 H)
def zcO (t0 t1 t2 : AV) (H : zaa) (K : Kt) : Prop :=
 zap t1 H fun t4 H =>
 zap t2 H fun t5 H =>
 zaf 0 t4 fun t13 =>
 zad false 1 t13 H fun t14 =>
 zac .eql false t14 (.int .i64 6) fun t16 =>
 zag t16
 (zaf 0 t5 fun t17 =>
 zad false 1 t17 H fun t18 =>
 zac .neq false t18 (.int .i64 0) fun t19 =>
 zag t19
 (K (.int .i64 (-1)) H)
 (zaf 2 t4 fun t21 =>
 zad false 1 t21 H fun t22 =>
 zaf 1 t5 fun t23 =>
 zad false 1 t23 H fun t24 =>
 ACalls tP zhC [t0, t22, t24] H fun t25 H =>
 K t25 H))
 (zac .eql false t14 (.int .i64 7) fun t27 =>
 zag t27
 (zaf 0 t5 fun t28 =>
 zad false 1 t28 H fun t29 =>
 zac .lss false t29 (.int .i64 0) fun t30 =>
 zab t30 false H (fun K' => zaf 0 t5 (K' · H)) fun t32 H =>
 zab t30 false H (fun K' => zad false 1 t32 H (K' · H)) fun t33 H =>
 zab t30 false H (fun K' => zac .gtr false t33 (.int .i64 6) (K' · H)) fun t34 H =>
 zai t30 (.bool true) t34 fun t35 =>
 zab t35 false H (fun K' => zaf 1 t5 (K' · H)) fun t37 H =>
 zab t35 false H (fun K' => zad false 1 t37 H (K' · H)) fun t38 H =>
 zab t35 false H (fun K' => zah 1 t38 (K' · H)) fun t39 H =>
 zab t35 false H (fun K' => zac .gtr false t39 (.int .i64 0) (K' · H)) fun t40 H =>
 zai t35 (.bool true) t40 fun t41 =>
 zag t41
 (K (.int .i64 (-1)) H)
 (zaf 0 t5 fun t42 =>
 zad false 1 t42 H fun t43 =>
 K t43 H))
 (zac .eql false t14 (.int .i64 5) fun t45 =>
 zag t45
 (zaf 0 t5 fun t46 =>
 zad false 1 t46 H fun t47 =>
 zac .neq false t47 (.int .i64 0) fun t48 =>
 zab t48 false H (fun K' => zaf 1 t5 (K' · H)) fun t50 H =>
 zab t48 false H (fun K' => zad false 1 t50 H (K' · H)) fun t51 H =>
 zab t48 false H (fun K' => zah 1 t51 (K' · H)) fun t52 H =>
 zab t48 false H (fun K' => zac .gtr false t52 (.int .i64 6) (K' · H)) fun t53 H =>
 zai t48 (.bool true) t53 fun t54 =>
 zag t54
 (K (.int .i64 (-1)) H)
 (zaf 1 t5 fun t55 =>
 zad false 1 t55 H fun t56 =>
 zah 1 t56 fun t57 =>
 zyw t0 t4 (.int .i64 0) t56 t57 (.int .i64 0) H K))
 (zaf 0 t5 fun t100 =>
 zad false 1 t100 H fun t101 =>
 zac .neq false t101 (.int .i64 0) fun t102 =>
 zab t102 false H (fun K' => zaf 1 t5 (K' · H)) fun t104 H =>
 zab t102 false H (fun K' => zad false 1 t104 H (K' · H)) fun t105 H =>
 zab t102 false H (fun K' => zah 1 t105 (K' · H)) fun t106 H =>
 zab t102 false H (fun K' => zac .gtr false t106 (.int .i64 0) (K' · H)) fun t107 H =>
 zai t102 (.bool true) t107 fun t108 =>
 zag t108
 (K (.int .i64 (-1)) H)
 (K (.int .i64 0) H))))
theorem zMB {t0 t4 t7 t56 t57 t58 : AV} {H : zaa} {K : Kt} (Inv : Nat → AV → AV → zaa → Prop) (n : Nat) (h0 : HSc H → Inv n t7 t58 H)
  (round : Rd2 (fun t7 => fun t58 => zlo t0 t4 t7 t56 t57 t58) (fun t7 => fun t58 => fun H Kb15 => zg5 t0 t4 t7 t56 t57 t58 H K Kb15) H Inv) : zyw t0 t4 t7 t56 t57 t58 H K :=
 lp2 (M := zln) zMC t7 t58 (by kernel_rfl) Inv n h0 round
theorem zMD {t0 t1 t2 : AV} {H : zaa} {K : Kt} (h : HSc H → zcO t0 t1 t2 H K) : ACalls tP zh9 [t0, t1, t2] H K :=
 zam (M := zln) Tryz.func87 (c := zqR) (by kernel_rfl) (fun hs => Eq.mpr (by kernel_rfl) (h hs))
def zjE : Nat → List Bool
 | 5 => rl false [0,1,1,1,5,1,9,3,23]
 | _ => []
noncomputable def zo5 : Code := Tryz.f177.body.getD .skip
noncomputable def zGI : List ResultVar := Tryz.f177.results.toList
def zjF (t0 t2 t8 t18 t19 t20 : AV) : List AV := t0 :: ux 1 (t2 :: ux 5 (t8 :: ux 9 (t18 :: t19 :: t20 :: ux 23 [])))
def zGG : List Bool := zjE 5
noncomputable def zGE : Code := zar [1, 1, 1, 0, 1, 0, 0] zo5
def zGD (K : Kt) : AExit → List AV → zaa → Prop := zat tP zjE [1, 1, 1, 0, 1, 0] zo5 (zay tP zGI K)
def zwp (t0 t2 t8 t18 t19 t20 : AV) (H : zaa) (K : Kt) : Prop := ALoop tP zGE (zGD K) (zjF t0 t2 t8 t18 t19 t20) H
def zo4 (t0 t2 t8 t18 t19 t20 : AV) (H : zaa) (K : Kt) (Kb5 : Lt) : Prop :=
 zac .lss false t20 t19 fun t21 =>
 zag t21
 (zaj 3 t18 t20 fun t23 =>
 zad true 3 t23 H fun t24 =>
 zaw [(.int .i64 0), (.int .i64 0), .snil] H fun t10 H =>
 zak 3 t10 t24 H fun H =>
 zae H (fun K' => K' t0 H) fun t26 =>
 zae H (fun K' => zal true 3 t10 H (K' · H)) fun t27 =>
 zae H (fun K' => K' t2 H) fun t28 =>
 zae H (fun K' => K' t20 H) fun t29 =>
 zae H (fun K' => zaj 2 t28 t29 (K' · H)) fun t30 =>
 zae H (fun K' => zal true 2 t30 H (K' · H)) fun t31 =>
 zaE H (fun H K' => ACalls tP zhD [t26, t27, t31] H K') fun t32 =>
 zae H (fun K' => K' t32 H) fun t25 =>
 zae H (fun K' => zav t25 0 (K' · H)) fun t33 =>
 zae H (fun K' => zav t25 1 (K' · H)) fun t34 =>
 zae H (fun K' => K' t33 H) fun t11 =>
 zae H (fun K' => K' t34 H) fun t12 =>
 aUn .not t12 fun t36 =>
 zag t36
 (zaA [(.int .i64 0), (.bool false)] (K · H))
 (zac .add false t8 t11 fun t39 =>
 zac .add false t20 (.int .i64 1) fun t40 =>
 Kb5 (zjF t0 t2 t39 t18 t19 t40) H))
 (zac .leq false t8 (.int .i64 6) fun t43 =>
 zaA [t8, t43] (K · H))
def zo3 (t0 t1 t2 : AV) (H : zaa) (K : Kt) : Prop :=
 zah 1 t1 fun t14 =>
 zah 1 t2 fun t16 =>
 zac .neq false t14 t16 fun t17 =>
 zag t17
 (zaA [(.int .i64 0), (.bool false)] (K · H))
 (zah 1 t1 fun t19 =>
 zwp t0 t2 (.int .i64 0) t1 t19 (.int .i64 0) H K)
theorem zGF {t0 t2 t8 t18 t19 t20 : AV} {H : zaa} {K : Kt} (Inv : Nat → AV → AV → zaa → Prop) (n : Nat) (h0 : HSc H → Inv n t8 t20 H)
  (round : Rd2 (fun t8 => fun t20 => zjF t0 t2 t8 t18 t19 t20) (fun t8 => fun t20 => fun H Kb5 => zo4 t0 t2 t8 t18 t19 t20 H K Kb5) H Inv) : zwp t0 t2 t8 t18 t19 t20 H K :=
 lp2 (M := zjE) zGG t8 t20 (by kernel_rfl) Inv n h0 round
theorem zGH {t0 t1 t2 : AV} {H : zaa} {K : Kt} (h : HSc H → zo3 t0 t1 t2 H K) : ACalls tP zhM [t0, t1, t2] H K :=
 zam (M := zjE) Tryz.func177 (c := zo5) (by kernel_rfl) (fun hs => Eq.mpr (by kernel_rfl) (h hs))
def zjG : Nat → List Bool
 | 6 => rl false [8,1,1,1,15,3,15]
 | _ => []
noncomputable def zo7 : Code := Tryz.f178.body.getD .skip
noncomputable def zGO : List ResultVar := Tryz.f178.results.toList
def zjH (t8 t10 t26 t27 t28 : AV) : List AV := ux 8 (t8 :: ux 1 (t10 :: ux 15 (t26 :: t27 :: t28 :: ux 15 [])))
def zGM : List Bool := zjG 6
noncomputable def zGK : Code := zar [1, 1, 1, 1, 0, 1, 0, 0] zo7
def zGJ (K : Kt) : AExit → List AV → zaa → Prop := zat tP zjG [1, 1, 1, 1, 0, 1, 0] zo7 (zay tP zGO K)
def zjJ (t8 t10 t26 t27 t28 : AV) (H : zaa) (K : Kt) : Prop := ALoop tP zGK (zGJ K) (zjH t8 t10 t26 t27 t28) H
def zws (t8 t10 t26 t27 t28 : AV) (H : zaa) (K : Kt) (Kb6 : Lt) : Prop :=
 zac .add false t28 (.int .i64 1) fun t42 =>
 Kb6 (zjH t8 t10 t26 t27 t42) H
def zjI (t8 t10 t26 t27 t28 : AV) (H : zaa) (K : Kt) (Kb6 : Lt) : Prop :=
 zws t8 t10 t26 t27 t28 H K Kb6
def zo6 (t8 t10 t26 t27 t28 : AV) (H : zaa) (K : Kt) (Kb6 : Lt) : Prop :=
 zac .lss false t28 t27 fun t29 =>
 zag t29
 (zaj 1 t26 t28 fun t31 =>
 zad false 1 t31 H fun t32 =>
 aUn .not t32 fun t34 =>
 zag t34
 (zaj 3 t8 t28 fun t38 =>
 zad true 3 t38 H fun t39 =>
 zaz 3 [(.int .i64 0), (.int .i64 0), .snil] 1 [(0, t39)] fun t40 =>
 zax zaX 3 40 t10 t40 H fun t41 H =>
 zjI t8 t41 t26 t27 t28 H K Kb6)
 (zjI t8 t10 t26 t27 t28 H K Kb6))
 (zaA [t10, (.bool true)] (K · H))
def zwr (t0 t1 t2 : AV) (H : zaa) (K : Kt) : Prop :=
 zap t1 H fun t4 H =>
 zad true 3 t4 H fun t15 =>
 ACalls tP zfc [t0, t15, t2] H fun t17 H =>
 zav t17 0 fun t18 =>
 zav t17 1 fun t19 =>
 aUn .not t19 fun t21 =>
 zag t21
 (zaA [.snil, (.bool false)] (K · H))
 (zaf 1 t4 fun t23 =>
 zad false 1 t23 H fun t24 =>
 ACalls tP zdz [t0, t24, t2] H fun t26 H =>
 zah 1 t26 fun t27 =>
 zjJ t18 .snil t26 t27 (.int .i64 0) H K)
theorem zGL {t8 t10 t26 t27 t28 : AV} {H : zaa} {K : Kt} (Inv : Nat → AV → AV → zaa → Prop) (n : Nat) (h0 : HSc H → Inv n t10 t28 H)
  (round : Rd2 (fun t10 => fun t28 => zjH t8 t10 t26 t27 t28) (fun t10 => fun t28 => fun H Kb6 => zo6 t8 t10 t26 t27 t28 H K Kb6) H Inv) : zjJ t8 t10 t26 t27 t28 H K :=
 lp2 (M := zjG) zGM t10 t28 (by kernel_rfl) Inv n h0 round
theorem zGN {t0 t1 t2 : AV} {H : zaa} {K : Kt} (h : HSc H → zwr t0 t1 t2 H K) : ACalls tP zmM [t0, t1, t2] H K :=
 zam (M := zjG) Tryz.func178 (c := zo7) (by kernel_rfl) (fun hs => Eq.mpr (by kernel_rfl) (h hs))
def zlC : Nat → List Bool
 | 7 => rl false [8,1,4,1,19,3,12]
 | _ => []
noncomputable def zq8 : Code := Tryz.f100.body.getD .skip
noncomputable def zNA : List ResultVar := Tryz.f100.results.toList
def zlD (t8 t13 t33 t34 t35 : AV) : List AV := ux 8 (t8 :: ux 4 (t13 :: ux 19 (t33 :: t34 :: t35 :: ux 12 [])))
def zNy : List Bool := zlC 7
noncomputable def zNw : Code := zar [1, 1, 1, 1, 1, 0, 1, 0, 0] zq8
def zNv (K : Kt) : AExit → List AV → zaa → Prop := zat tP zlC [1, 1, 1, 1, 1, 0, 1, 0] zq8 (zay tP zNA K)
def zlE (t8 t13 t33 t34 t35 : AV) (H : zaa) (K : Kt) : Prop := ALoop tP zNw (zNv K) (zlD t8 t13 t33 t34 t35) H
def zq7 (t8 t13 t33 t34 t35 : AV) (H : zaa) (K : Kt) (Kb7 : Lt) : Prop :=
 zac .lss false t35 t34 fun t36 =>
 zag t36
 (zaj 1 t33 t35 fun t37 =>
 zad false 1 t37 H fun t38 =>
 zaj 3 t8 t38 fun t42 =>
 zad true 3 t42 H fun t43 =>
 zaz 3 [(.int .i64 0), (.int .i64 0), .snil] 1 [(0, t43)] fun t44 =>
 zax zaX 3 40 t13 t44 H fun t45 H =>
 zac .add false t35 (.int .i64 1) fun t46 =>
 Kb7 (zlD t8 t45 t33 t34 t46) H)
 (zaA [t13, (.bool true)] (K · H))
def zyI (t0 t1 t2 : AV) (H : zaa) (K : Kt) : Prop :=
 zap t1 H fun t4 H =>
 zad true 3 t4 H fun t18 =>
 ACalls tP ze8 [t0, t18, t2] H fun t20 H =>
 zav t20 0 fun t21 =>
 zav t20 1 fun t22 =>
 aUn .not t22 fun t24 =>
 zag t24
 (zaA [.snil, (.bool false)] (K · H))
 (zad true 3 t4 H fun t27 =>
 ACalls tP zhH [t0, t27, t2] H fun t29 H =>
 zav t29 0 fun t30 =>
 zav t29 1 fun t31 =>
 zav t29 2 fun t32 =>
 zah 1 t30 fun t34 =>
 zlE t21 .snil t30 t34 (.int .i64 0) H K)
theorem zNx {t8 t13 t33 t34 t35 : AV} {H : zaa} {K : Kt} (Inv : Nat → AV → AV → zaa → Prop) (n : Nat) (h0 : HSc H → Inv n t13 t35 H)
  (round : Rd2 (fun t13 => fun t35 => zlD t8 t13 t33 t34 t35) (fun t13 => fun t35 => fun H Kb7 => zq7 t8 t13 t33 t34 t35 H K Kb7) H Inv) : zlE t8 t13 t33 t34 t35 H K :=
 lp2 (M := zlC) zNy t13 t35 (by kernel_rfl) Inv n h0 round
theorem zNz {t0 t1 t2 : AV} {H : zaa} {K : Kt} (h : HSc H → zyI t0 t1 t2 H K) : ACalls tP zie [t0, t1, t2] H K :=
 zam (M := zlC) Tryz.func100 (c := zq8) (by kernel_rfl) (fun hs => Eq.mpr (by kernel_rfl) (h hs))
def zja : Nat → List Bool
 | 6 => rl false [11,2,15,3,16]
 | _ => []
noncomputable def zoq : Code := Tryz.f144.body.getD .skip
noncomputable def zEq : List ResultVar := Tryz.f144.results.toList
def zjc (t11 t12 t28 t29 t30 : AV) : List AV := ux 11 (t11 :: t12 :: ux 15 (t28 :: t29 :: t30 :: ux 16 []))
def zEo : List Bool := zja 6
noncomputable def zEm : Code := zar [1, 1, 1, 0, 1, 0, 0] zoq
def zEl (K : Kt) : AExit → List AV → zaa → Prop := zat tP zja [1, 1, 1, 0, 1, 0] zoq (zay tP zEq K)
def zje (t11 t12 t28 t29 t30 : AV) (H : zaa) (K : Kt) : Prop := ALoop tP zEm (zEl K) (zjc t11 t12 t28 t29 t30) H
def zvl (t11 t12 t28 t29 t30 : AV) (H : zaa) (K : Kt) (Kb6 : Lt) : Prop :=
 zac .add false t30 (.int .i64 1) fun t44 =>
 Kb6 (zjc t11 t12 t28 t29 t44) H
def zjd (t11 t12 t28 t29 t30 : AV) (H : zaa) (K : Kt) (Kb6 : Lt) : Prop :=
 zvl t11 t12 t28 t29 t30 H K Kb6
def zjb (t11 t12 t28 t29 t30 : AV) (H : zaa) (K : Kt) (Kb6 : Lt) : Prop :=
 zac .lss false t30 t29 fun t31 =>
 zag t31
 (zaj 1 t28 t30 fun t33 =>
 zad false 1 t33 H fun t34 =>
 zag t34
 (zaz 1 [(.int .i64 0)] 1 [(0, t30)] fun t38 =>
 zax zbg 1 8 t12 t38 H fun t39 H =>
 zjd t11 t39 t28 t29 t30 H K Kb6)
 (zaz 1 [(.int .i64 0)] 1 [(0, t30)] fun t42 =>
 zax zbg 1 8 t11 t42 H fun t43 H =>
 zjd t43 t12 t28 t29 t30 H K Kb6))
 (zaA [t11, t12, (.bool true)] (K · H))
def zvk (t0 t1 t2 : AV) (H : zaa) (K : Kt) : Prop :=
 zap t1 H fun t4 H =>
 zad true 3 t4 H fun t17 =>
 ACalls tP ze8 [t0, t17, t2] H fun t19 H =>
 zav t19 0 fun t20 =>
 zav t19 1 fun t21 =>
 aUn .not t21 fun t23 =>
 zag t23
 (zaA [.snil, .snil, (.bool false)] (K · H))
 (zaf 1 t4 fun t25 =>
 zad false 1 t25 H fun t26 =>
 ACalls tP zd5 [t0, t26, t2] H fun t28 H =>
 zah 1 t28 fun t29 =>
 zje .snil .snil t28 t29 (.int .i64 0) H K)
theorem zEn {t11 t12 t28 t29 t30 : AV} {H : zaa} {K : Kt} (Inv : Nat → AV → AV → AV → zaa → Prop) (n : Nat) (h0 : HSc H → Inv n t11 t12 t30 H)
  (round : Rd3 (fun t11 => fun t12 => fun t30 => zjc t11 t12 t28 t29 t30) (fun t11 => fun t12 => fun t30 => fun H Kb6 => zjb t11 t12 t28 t29 t30 H K Kb6) H Inv) : zje t11 t12 t28 t29 t30 H K :=
 lp3 (M := zja) zEo t11 t12 t30 (by kernel_rfl) Inv n h0 round
theorem zEp {t0 t1 t2 : AV} {H : zaa} {K : Kt} (h : HSc H → zvk t0 t1 t2 H K) : ACalls tP zhH [t0, t1, t2] H K :=
 zam (M := zja) Tryz.func144 (c := zoq) (by kernel_rfl) (fun hs => Eq.mpr (by kernel_rfl) (h hs))
def zi2 : Nat → List Bool
 | 5 => rl false [0,3,4,1,8,2,25]
 | _ => []
noncomputable def zoj : Code := Tryz.f130.body.getD .skip
noncomputable def zDT : List ResultVar := Tryz.f130.results.toList
def zi3 (t0 t1 t2 t7 t16 t17 : AV) : List AV := t0 :: t1 :: t2 :: ux 4 (t7 :: ux 8 (t16 :: t17 :: ux 25 []))
def zDR : List Bool := zi2 5
noncomputable def zDP : Code := zar [1, 1, 1, 0, 1, 0, 0] zoj
def zDO (K : Kt) : AExit → List AV → zaa → Prop := zat tP zi2 [1, 1, 1, 0, 1, 0] zoj (zay tP zDT K)
def zva (t0 t1 t2 t7 t16 t17 : AV) (H : zaa) (K : Kt) : Prop := ALoop tP zDP (zDO K) (zi3 t0 t1 t2 t7 t16 t17) H
def zoi (t0 t1 t2 t7 t16 t17 : AV) (H : zaa) (K : Kt) (Kb5 : Lt) : Prop :=
 zac .lss false t17 t16 fun t18 =>
 zag t18
 (zae H (fun K' => K' t0 H) fun t20 =>
 zae H (fun K' => K' t1 H) fun t21 =>
 zae H (fun K' => K' t17 H) fun t22 =>
 zae H (fun K' => zaj 3 t21 t22 (K' · H)) fun t23 =>
 zae H (fun K' => zal true 3 t23 H (K' · H)) fun t24 =>
 zae H (fun K' => K' t2 H) fun t25 =>
 zae H (fun K' => K' t17 H) fun t26 =>
 zae H (fun K' => zaj 2 t25 t26 (K' · H)) fun t27 =>
 zae H (fun K' => zal true 2 t27 H (K' · H)) fun t28 =>
 zaE H (fun H K' => ACalls tP zh9 [t20, t24, t28] H K') fun t29 =>
 zae H (fun K' => K' t29 H) fun t9 =>
 zac .lss false t9 (.int .i64 0) fun t31 =>
 zab t31 false H (fun K' => K' t7 H) fun t33 H =>
 zab t31 false H (fun K' => K' t9 H) fun t34 H =>
 zab t31 false H (fun K' => zac .add false t33 t34 (K' · H)) fun t35 H =>
 zab t31 false H (fun K' => zac .gtr false t35 (.int .i64 6) (K' · H)) fun t36 H =>
 zai t31 (.bool true) t36 fun t37 =>
 zag t37
 (K (.int .i64 (-1)) H)
 (zac .add false t7 t9 fun t40 =>
 zac .add false t17 (.int .i64 1) fun t41 =>
 Kb5 (zi3 t0 t1 t2 t40 t16 t41) H))
 (K t7 H)
def zoh (t0 t1 t2 : AV) (H : zaa) (K : Kt) : Prop :=
 zah 1 t1 fun t11 =>
 zah 1 t2 fun t13 =>
 zac .neq false t11 t13 fun t14 =>
 zag t14
 (K (.int .i64 (-1)) H)
 (zah 1 t1 fun t16 =>
 zva t0 t1 t2 (.int .i64 0) t16 (.int .i64 0) H K)
theorem zDQ {t0 t1 t2 t7 t16 t17 : AV} {H : zaa} {K : Kt} (Inv : Nat → AV → AV → zaa → Prop) (n : Nat) (h0 : HSc H → Inv n t7 t17 H)
  (round : Rd2 (fun t7 => fun t17 => zi3 t0 t1 t2 t7 t16 t17) (fun t7 => fun t17 => fun H Kb5 => zoi t0 t1 t2 t7 t16 t17 H K Kb5) H Inv) : zva t0 t1 t2 t7 t16 t17 H K :=
 lp2 (M := zi2) zDR t7 t17 (by kernel_rfl) Inv n h0 round
theorem zDS {t0 t1 t2 : AV} {H : zaa} {K : Kt} (h : HSc H → zoh t0 t1 t2 H K) : ACalls tP zhC [t0, t1, t2] H K :=
 zam (M := zi2) Tryz.func130 (c := zoj) (by kernel_rfl) (fun hs => Eq.mpr (by kernel_rfl) (h hs))
end Go.Proofs.YtjkkonpjecoieaaGreat

namespace Go.Proofs.YtjkkonpjecoieaaGreat
open Go Go.Abs
set_option maxRecDepth 100000
def ziS : Nat → List Bool
 | 5 => rl false [0,2,5,1,32,3,16]
 | _ => []
noncomputable def zn8 : Code := Tryz.f126.body.getD .skip
noncomputable def zDy : List ResultVar := Tryz.f126.results.toList
def ziT (t0 t1 t7 t40 t41 t42 : AV) : List AV := t0 :: t1 :: ux 5 (t7 :: ux 32 (t40 :: t41 :: t42 :: ux 16 []))
def zDw : List Bool := ziS 5
noncomputable def zDu : Code := zar [1, 1, 1, 0, 1, 0, 0] zn8
def zDt (K : Kt) : AExit → List AV → zaa → Prop := zat tP ziS [1, 1, 1, 0, 1, 0] zn8 (zay tP zDy K)
def ziU (t0 t1 t7 t40 t41 t42 : AV) (H : zaa) (K : Kt) : Prop := ALoop tP zDu (zDt K) (ziT t0 t1 t7 t40 t41 t42) H
def zn7 (t0 t1 t7 t40 t41 t42 : AV) (H : zaa) (K : Kt) (Kb5 : Lt) : Prop :=
 zac .lss false t42 t41 fun t43 =>
 zag t43
 (zaj 3 t40 t42 fun t44 =>
 zad true 3 t44 H fun t45 =>
 zaw [(.int .i64 0), (.int .i64 0), .snil] H fun t9 H =>
 zak 3 t9 t45 H fun H =>
 zae H (fun K' => K' t7 H) fun t46 =>
 zae H (fun K' => zal true 3 t9 H (K' · H)) fun t47 =>
 zae H (fun K' => K' t1 H) fun t48 =>
 zae H (fun K' => K' t0 H) fun t49 =>
 zae H (fun K' => K' t1 H) fun t50 =>
 zae H (fun K' => zaj 3 t49 t50 (K' · H)) fun t51 =>
 zae H (fun K' => zaf 1 t51 (K' · H)) fun t52 =>
 zae H (fun K' => zal false 1 t52 H (K' · H)) fun t53 =>
 zaE H (fun H K' => ACalls tP zh6 [t47, t48, t53] H K') fun t54 =>
 zae H (fun K' => zaz 1 [(.bool false)] 1 [(0, t54)] (K' · H)) fun t55 =>
 zax ze2 1 1 t46 t55 H fun t56 H =>
 zae H (fun K' => K' t56 H) fun t7 =>
 zac .add false t42 (.int .i64 1) fun t57 =>
 Kb5 (ziT t0 t1 t7 t40 t41 t57) H)
 (K t7 H)
def zu8 (t0 t1 t2 : AV) (H : zaa) (K : Kt) : Prop :=
 zac .lss false t1 (.int .i64 0) fun t11 =>
 zab t11 false H (fun K' => K' t1 H) fun t13 H =>
 zab t11 false H (fun K' => K' t0 H) fun t14 H =>
 zab t11 false H (fun K' => zah 1 t14 (K' · H)) fun t15 H =>
 zab t11 false H (fun K' => zac .geq false t13 t15 (K' · H)) fun t16 H =>
 zai t11 (.bool true) t16 fun t17 =>
 zab t17 false H (fun K' => K' t2 H) fun t19 H =>
 zab t17 false H (fun K' => zac .lss false t19 (.int .i64 0) (K' · H)) fun t20 H =>
 zai t17 (.bool true) t20 fun t21 =>
 zab t21 false H (fun K' => K' t2 H) fun t23 H =>
 zab t21 false H (fun K' => K' t0 H) fun t24 H =>
 zab t21 false H (fun K' => K' t1 H) fun t25 H =>
 zab t21 false H (fun K' => zaj 3 t24 t25 (K' · H)) fun t26 H =>
 zab t21 false H (fun K' => zaf 2 t26 (K' · H)) fun t27 H =>
 zab t21 false H (fun K' => zad false 1 t27 H (K' · H)) fun t28 H =>
 zab t21 false H (fun K' => zah 1 t28 (K' · H)) fun t29 H =>
 zab t21 false H (fun K' => zac .geq false t23 t29 (K' · H)) fun t30 H =>
 zai t21 (.bool true) t30 fun t31 =>
 zag t31
 (K .snil H)
 (zaj 3 t0 t1 fun t34 =>
 zaf 2 t34 fun t35 =>
 zad false 1 t35 H fun t36 =>
 zaj 2 t36 t2 fun t38 =>
 zaf 1 t38 fun t39 =>
 zad false 1 t39 H fun t40 =>
 zah 1 t40 fun t41 =>
 ziU t0 t1 .snil t40 t41 (.int .i64 0) H K)
theorem zDv {t0 t1 t7 t40 t41 t42 : AV} {H : zaa} {K : Kt} (Inv : Nat → AV → AV → zaa → Prop) (n : Nat) (h0 : HSc H → Inv n t7 t42 H)
  (round : Rd2 (fun t7 => fun t42 => ziT t0 t1 t7 t40 t41 t42) (fun t7 => fun t42 => fun H Kb5 => zn7 t0 t1 t7 t40 t41 t42 H K Kb5) H Inv) : ziU t0 t1 t7 t40 t41 t42 H K :=
 lp2 (M := ziS) zDw t7 t42 (by kernel_rfl) Inv n h0 round
theorem zDx {t0 t1 t2 : AV} {H : zaa} {K : Kt} (h : HSc H → zu8 t0 t1 t2 H K) : ACalls tP zd5 [t0, t1, t2] H K :=
 zam (M := ziS) Tryz.func126 (c := zn8) (by kernel_rfl) (fun hs => Eq.mpr (by kernel_rfl) (h hs))
end Go.Proofs.YtjkkonpjecoieaaGreat

namespace Go.Proofs.YtjkkonpjecoieaaGreat
open Go Go.Abs
set_option maxRecDepth 8000
def zbj (l : List Bool) : List (List AV) := l.map fun b => [.bool b]
theorem zn9 (data : List Dat) (d : Nat) (c : Nat) (hd : d < data.length) (hc : c < (data[d]).cons.length) (hl : data.length ≤ 1000000) (hcl : (data[d]).cons.length ≤ 1000000) (hal : ((data[d]).cons[c]).args.length ≤ 1000000)
  (hb : ∀ x ∈ ((data[d]).cons[c]).args, x.nodes ≤ 1000000) (H : zaa) (K : Kt)
  (hK : K (.sl (zbj (zbE d data[d] (data[d]).cons[c])) .none) H) :
  ACalls tP zd5 [.sl (data.map Dat.cs) .none, .int .i64 d, .int .i64 c] H K := by
 refine ACalls.out (zDx fun hs => ?_)
 have e1 : (data.map Dat.cs)[d]? = some (data[d]).cs := by simp [hd]
 have e2 : ((data[d]).cons.map Con.cs)[c]? = some ((data[d]).cons[c]).cs := by simp [hc]
 generalize hD : data[d] = D at *
 generalize hA : D.cons[c] = C at *
 have h1 : ¬ (d : Int) < 0 := by omega
 have h2 : ¬ (data.length : Int) ≤ d := by omega
 have h3 : ¬ (c : Int) < 0 := by omega
 have h4 : ¬ (D.cons.length : Int) ≤ c := by omega
 simp [zu8, h1, h2, h3, h4, e1, e2, Dat.cs, Con.cs, hd, hD, hc, hA]
 unfold ziU
 refine ALoop.own 7 ze2 1 rfl ?_
 show ziU (.sl (data.map Dat.cs) .none) (.int .i64 d) (.sl [] (.own H.length)) (.sl (VT.css C.args) .none) (.int .i64 C.args.length) (.int .i64 0) (H ++ [.perm ze2 1 0]) (Out H.length K)
 have hperm : ∀ n, HSc (H ++ [.perm ze2 1 n]) := fun n => hs.append rfl
 refine zDv (Inv := fun q t7 t42 H' => ∃ i : Nat, i ≤ C.args.length ∧ q = C.args.length - i ∧ t42 = .int .i64 i ∧ t7 = .sl (zbj ((zbE d D C).take i)) (.own H.length) ∧ H' = H ++ [.perm ze2 1 i]) C.args.length ?_ ?_
 ·intro _; exact ⟨0, by omega, by omega, rfl, rfl, rfl⟩
 ·rintro q t7 t42 H' ⟨i, hi, rfl, rfl, rfl, rfl⟩ hsc hlen hsF Kb hKb
  have hrl : (zbE d D C).length = C.args.length := by simp [zbE]
  by_cases hlt : i < C.args.length
  ·obtain ⟨x, y, z, hvx, hx, hy, hz⟩ := zaM C.args[i]
   have hnb := hb _ (List.getElem_mem hlt)
   simp [zn7, hlt, hvx, Nat.add_assoc, e1, hd, hD, Dat.cs]
   rw [← hvx]
   refine ⟨⟨hx, hy, hz⟩, ?_⟩
   refine zaF (.bool (zbz d D.vars C.args[i])) (fun J => zrb _ _ _ hnb _ _ ⟨rfl, rfl⟩) ?_
   simp [zaz, zbq, zaD, AV.pd, zax, zaW, zaN, zbj]
   have hmin : min i (zbE d D C).length = i := by omega
   rw [hmin]
   refine ⟨rfl, ⟨by omega, by omega⟩, ?_⟩
   rw [zas (by omega) (by omega)]
   have hst : List.take i (List.map (fun b => [AV.bool b]) (zbE d D C)) ++ [[AV.bool (zbz (↑d) D.vars C.args[i])]] = zbj ((zbE d D C).take (i + 1)) := by
    rw [List.take_succ_eq_append_getElem (by omega)]
    simp [zbj, zbE]
   rw [hst]
   refine hKb _ _ ⟨C.args.length - (i + 1), by omega, Back.at (J := [.cells C.args[i].cs]) (H2 := H ++ [.perm ze2 1 (i + 1)]) (by simp) (by simp) (hperm _) ?_ ⟨_, _, rfl, i + 1, by omega, rfl, by simp, rfl, rfl⟩⟩
   simp [ziT, AV.sc, AV.scV, AV.scA, AV.scB]
  ·obtain rfl : i = C.args.length := by omega
   rw [List.take_of_length_le (by omega)]
   simp [zn7]
   exact Out.at rfl (Nat.le_refl _) hs (.atom (.sl _ _)) rfl (by simp [zbj, AV.scV, AV.scA, AV.scB]) hK
def zC9 (_ : Nat) : List Bool := []
noncomputable def zDa : Code := Tryz.f120.body.getD .skip
def zu1 (t0 : AV) (H : zaa) (K : Kt) : Prop :=
 zap t0 H fun t1 H =>
 zaf 0 t1 fun t3 =>
 zad false 1 t3 H fun t4 =>
 ACalls tP zmB [t4] H fun t5 H =>
 zab t5 true H (fun K' => zad true 4 t1 H (K' · H)) fun t7 H =>
 zab t5 true H (fun K' => ACalls tP zmC [t7] H K') fun t8 H =>
 zai t5 t8 (.bool false) fun t9 =>
 zab t9 true H (fun K' => zad true 4 t1 H (K' · H)) fun t11 H =>
 zab t9 true H (fun K' => ACalls tP zmD [t11] H K') fun t12 H =>
 zai t9 t12 (.bool false) fun t13 =>
 zab t13 true H (fun K' => zad true 4 t1 H (K' · H)) fun t15 H =>
 zab t13 true H (fun K' => ACalls tP zmE [t15] H K') fun t16 H =>
 zai t13 t16 (.bool false) fun t17 =>
 zab t17 true H (fun K' => zad true 4 t1 H (K' · H)) fun t19 H =>
 zab t17 true H (fun K' => ACalls tP zmF [t19] H K') fun t20 H =>
 zai t17 t20 (.bool false) fun t21 =>
 zab t21 true H (fun K' => zad true 4 t1 H (K' · H)) fun t23 H =>
 zab t21 true H (fun K' => ACalls tP zmG [t23] H K') fun t24 H =>
 zai t21 t24 (.bool false) fun t25 =>
 zab t25 true H (fun K' => zad true 4 t1 H (K' · H)) fun t27 H =>
 zab t25 true H (fun K' => ACalls tP zmH [t27] H K') fun t28 H =>
 zai t25 t28 (.bool false) fun t29 =>
 K t29 H
theorem zDc {t0 : AV} {H : zaa} {K : Kt} (h : HSc H → zu1 t0 H K) : ACalls tP zmu [t0] H K :=
 zam (M := zC9) Tryz.func120 (c := zDa) (by kernel_rfl) (fun hs => Eq.mpr (by kernel_rfl) (h hs))
def zEN (_ : Nat) : List Bool := []
noncomputable def zEO : Code := Tryz.f159.body.getD .skip
def zvw (t0 : AV) (H : zaa) (K : Kt) : Prop :=
 zap t0 H fun t1 H =>
 zaf 2 t1 fun t3 =>
 zad false 1 t3 H fun t4 =>
 zah 1 t4 fun t5 =>
 zac .leq false t5 (.int .i64 3000) fun t6 =>
 zab t6 true H (fun K' => zaf 2 t1 (K' · H)) fun t8 H =>
 zab t6 true H (fun K' => zad false 1 t8 H (K' · H)) fun t9 H =>
 zab t6 true H (fun K' => zb4 zsS [t1] (K' · H)) fun t10 H =>
 zab t6 true H (fun K' => ACalls tP zey [t9, t10] H K') fun t11 H =>
 zab t6 true H (fun K' => aUn .not t11 (K' · H)) fun t12 H =>
 zai t6 t12 (.bool false) fun t13 =>
 K t13 H
theorem zEP {t0 : AV} {H : zaa} {K : Kt} (h : HSc H → zvw t0 H K) : ACalls tP zmC [t0] H K :=
 zam (M := zEN) Tryz.func159 (c := zEO) (by kernel_rfl) (fun hs => Eq.mpr (by kernel_rfl) (h hs))
def zjj : Nat → List Bool
 | 6 => rl false [1,1,1,2,14,3,59]
 | _ => []
noncomputable def zoy : Code := Tryz.f160.body.getD .skip
noncomputable def zEV : List ResultVar := Tryz.f160.results.toList
def zoz (t1 t3 t4 t19 t20 t21 : AV) : List AV := ux 1 (t1 :: ux 1 (t3 :: t4 :: ux 14 (t19 :: t20 :: t21 :: ux 59 [])))
def zET : List Bool := zjj 6
noncomputable def zER : Code := zar [1, 1, 1, 1, 0, 1, 0, 0] zoy
def zEQ (K : Kt) : AExit → List AV → zaa → Prop := zat tP zjj [1, 1, 1, 1, 0, 1, 0] zoy (zay tP zEV K)
def zvA (t1 t3 t4 t19 t20 t21 : AV) (H : zaa) (K : Kt) : Prop := ALoop tP zER (zEQ K) (zoz t1 t3 t4 t19 t20 t21) H
def zvz (t1 t3 t4 t6 t19 t20 t21 : AV) (H : zaa) (K : Kt) (Kb6 : Lt) : Prop :=
 zaf 0 t6 fun t42 =>
 zad false 1 t42 H fun t43 =>
 zcA t3 t43 (.bool true) H fun H =>
 zaf 1 t6 fun t44 =>
 zad false 1 t44 H fun t45 =>
 zah 1 t45 fun t46 =>
 zac .gtr false t46 (.int .i64 6) fun t47 =>
 zab t47 false H (fun K' => zaf 0 t1 (K' · H)) fun t49 H =>
 zab t47 false H (fun K' => zad false 1 t49 H (K' · H)) fun t50 H =>
 zab t47 false H (fun K' => zaf 3 t6 (K' · H)) fun t51 H =>
 zab t47 false H (fun K' => zad true 3 t51 H (K' · H)) fun t52 H =>
 zab t47 false H (fun K' => ACalls tP zgd [t50, t52, (.int .i64 0)] H K') fun t53 H =>
 zab t47 false H (fun K' => aUn .not t53 (K' · H)) fun t54 H =>
 zai t47 (.bool true) t54 fun t55 =>
 zag t55
 (K (.bool false) H)
 (zae H (fun K' => zaf 6 t6 (K' · H)) fun t56 =>
 zae H (fun K' => zal false 1 t56 H (K' · H)) fun t57 =>
 zae H (fun K' => zac .lss false t57 (.int .i64 0) (K' · H)) fun t58 =>
 zae H (fun K' => K' t58 H) fun t59 =>
 zab t59 false H (fun K' => zae H (fun K'' => zaf 6 t6 (K'' · H)) (K' · H)) fun t60 H =>
 zab t59 false H (fun K' => zae H (fun K'' => zal false 1 t60 H (K'' · H)) (K' · H)) fun t61 H =>
 zab t59 false H (fun K' => zae H (fun K'' => zaf 3 t1 (K'' · H)) (K' · H)) fun t62 H =>
 zab t59 false H (fun K' => zae H (fun K'' => zal false 1 t62 H (K'' · H)) (K' · H)) fun t63 H =>
 zab t59 false H (fun K' => zae H (fun K'' => zah 1 t63 (K'' · H)) (K' · H)) fun t64 H =>
 zab t59 false H (fun K' => zae H (fun K'' => zac .geq false t61 t64 (K'' · H)) (K' · H)) fun t65 H =>
 zae H (fun K' => zai t59 (.bool true) t65 (K' · H)) fun t66 =>
 zae H (fun K' => K' t66 H) fun t67 =>
 zab t67 false H (fun K' => zae H (fun K'' => zaf 3 t1 (K'' · H)) (K' · H)) fun t68 H =>
 zab t67 false H (fun K' => zae H (fun K'' => zal false 1 t68 H (K'' · H)) (K' · H)) fun t69 H =>
 zab t67 false H (fun K' => zae H (fun K'' => zaf 6 t6 (K'' · H)) (K' · H)) fun t70 H =>
 zab t67 false H (fun K' => zae H (fun K'' => zal false 1 t70 H (K'' · H)) (K' · H)) fun t71 H =>
 zab t67 false H (fun K' => zae H (fun K'' => zaj 8 t69 t71 (K'' · H)) (K' · H)) fun t72 H =>
 zab t67 false H (fun K' => zae H (fun K'' => zaf 5 t72 (K'' · H)) (K' · H)) fun t73 H =>
 zab t67 false H (fun K' => zae H (fun K'' => zal true 3 t73 H (K'' · H)) (K' · H)) fun t74 H =>
 zab t67 false H (fun K' => zae H (fun K'' => zaf 3 t6 (K'' · H)) (K' · H)) fun t75 H =>
 zab t67 false H (fun K' => zae H (fun K'' => zal true 3 t75 H (K'' · H)) (K' · H)) fun t76 H =>
 zab t67 false H (fun K' => zaE H (fun H K'' => ACalls tP zAj [t74, t76] H K'') (K' · H)) fun t77 H =>
 zab t67 false H (fun K' => zae H (fun K'' => aUn .not t77 (K'' · H)) (K' · H)) fun t78 H =>
 zae H (fun K' => zai t67 (.bool true) t78 (K' · H)) fun t79 =>
 zag t79
 (K (.bool false) H)
 (zac .add false t21 (.int .i64 1) fun t80 =>
 Kb6 (zoz t1 t3 t4 t19 t20 t80) H))
def zvy (t1 t3 t4 t19 t20 t21 : AV) (H : zaa) (K : Kt) (Kb6 : Lt) : Prop :=
 zac .lss false t21 t20 fun t22 =>
 zag t22
 (zaj 7 t19 t21 fun t23 =>
 zad true 7 t23 H fun t24 =>
 zaw [(.str []), .snil, .snil, (.int .i64 0), (.int .i64 0), .snil, (.int .i64 0)] H fun t6 H =>
 zak 7 t6 t24 H fun H =>
 zaf 0 t6 fun t25 =>
 zad false 1 t25 H fun t26 =>
 zac .eql false t26 (.str []) fun t27 =>
 zag t27
 (zvz t1 t3 (.bool true) t6 t19 t20 t21 H K Kb6)
 (zab t4 false H (fun K' => K' t3 H) fun t30 H =>
 zab t4 false H (fun K' => zaf 0 t6 (K' · H)) fun t31 H =>
 zab t4 false H (fun K' => zad false 1 t31 H (K' · H)) fun t32 H =>
 zab t4 false H (fun K' => zde (.bool false) false t30 t32 H (K' · H)) fun t33 H =>
 zai t4 (.bool true) t33 fun t34 =>
 zab t34 false H (fun K' => zaf 2 t6 (K' · H)) fun t36 H =>
 zab t34 false H (fun K' => zad false 1 t36 H (K' · H)) fun t37 H =>
 zab t34 false H (fun K' => zah 1 t37 (K' · H)) fun t38 H =>
 zab t34 false H (fun K' => zac .gtr false t38 (.int .i64 0) (K' · H)) fun t39 H =>
 zai t34 (.bool true) t39 fun t40 =>
 zag t40
 (K (.bool false) H)
 (zvz t1 t3 t4 t6 t19 t20 t21 H K Kb6)))
 (K (.bool true) H)
def zvx (t0 : AV) (H : zaa) (K : Kt) : Prop :=
 zap t0 H fun t1 H =>
 zaf 1 t1 fun t7 =>
 zad false 1 t7 H fun t8 =>
 zah 1 t8 fun t9 =>
 zac .gtr false t9 (.int .i64 64) fun t10 =>
 zab t10 false H (fun K' => zaf 3 t1 (K' · H)) fun t12 H =>
 zab t10 false H (fun K' => zad false 1 t12 H (K' · H)) fun t13 H =>
 zab t10 false H (fun K' => zah 1 t13 (K' · H)) fun t14 H =>
 zab t10 false H (fun K' => zac .gtr false t14 (.int .i64 3000) (K' · H)) fun t15 H =>
 zai t10 (.bool true) t15 fun t16 =>
 zag t16
 (K (.bool false) H)
 (zdP H fun t17 H =>
 zaf 1 t1 fun t18 =>
 zad false 1 t18 H fun t19 =>
 zah 1 t19 fun t20 =>
 zvA t1 t17 (.bool false) t19 t20 (.int .i64 0) H K)
theorem zES {t1 t3 t4 t19 t20 t21 : AV} {H : zaa} {K : Kt} (Inv : Nat → AV → AV → zaa → Prop) (n : Nat) (h0 : HSc H → Inv n t4 t21 H)
  (round : Rd2 (fun t4 => fun t21 => zoz t1 t3 t4 t19 t20 t21) (fun t4 => fun t21 => fun H Kb6 => zvy t1 t3 t4 t19 t20 t21 H K Kb6) H Inv) : zvA t1 t3 t4 t19 t20 t21 H K :=
 lp2 (M := zjj) zET t4 t21 (by kernel_rfl) Inv n h0 round
theorem zEU {t0 : AV} {H : zaa} {K : Kt} (h : HSc H → zvx t0 H K) : ACalls tP zmD [t0] H K :=
 zam (M := zjj) Tryz.func160 (c := zoy) (by kernel_rfl) (fun hs => Eq.mpr (by kernel_rfl) (h hs))
def zeh : Nat → List Bool
 | 5 => rl false [1,1,2,2,12,3,54]
 | 11 => rl false [1,1,2,2,25,3,41]
 | 16 => rl false [1,1,2,2,2,1,22,3,12,3,26]
 | _ => []
noncomputable def zgO : Code := Tryz.f161.body.getD .skip
noncomputable def zvJ : List ResultVar := Tryz.f161.results.toList
def zoB (t1 t4 t5 t18 t19 t20 : AV) : List AV := ux 1 (t1 :: ux 2 (t4 :: t5 :: ux 12 (t18 :: t19 :: t20 :: ux 54 [])))
def zE4 : List Bool := zeh 5
noncomputable def zEZ : Code := zar [1, 1, 1, 1, 0, 1, 0, 0] zgO
def zEX (K : Kt) : AExit → List AV → zaa → Prop := zat tP zeh [1, 1, 1, 1, 0, 1, 0] zgO (zay tP zvJ K)
def zvH (t1 t4 t5 t18 t19 t20 : AV) (H : zaa) (K : Kt) : Prop := ALoop tP zEZ (zEX K) (zoB t1 t4 t5 t18 t19 t20) H
def zvF (t1 t4 t5 t31 t32 t33 : AV) : List AV := ux 1 (t1 :: ux 2 (t4 :: t5 :: ux 25 (t31 :: t32 :: t33 :: ux 41 [])))
def zvI : List Bool := zeh 11
noncomputable def zoA : Code := zar [1, 1, 1, 1, 1, 0, 1, 0, 0] zgO
def zvC (K : Kt) : AExit → List AV → zaa → Prop := zat tP zeh [1, 1, 1, 1, 1, 0, 1, 0] zgO (zay tP zvJ K)
def zvG (t1 t4 t5 t31 t32 t33 : AV) (H : zaa) (K : Kt) : Prop := ALoop tP zoA (zvC K) (zvF t1 t4 t5 t31 t32 t33) H
def zE0 (t1 t4 t5 t8 t31 t32 t33 t46 t47 t48 : AV) : List AV := ux 1 (t1 :: ux 2 (t4 :: t5 :: ux 2 (t8 :: ux 22 (t31 :: t32 :: t33 :: ux 12 (t46 :: t47 :: t48 :: ux 26 [])))))
noncomputable def zEY : Code := zar [1, 1, 0, 0, 1, 1, 1, 0, 0] zoA
def zEW (K : Kt) (Kb11 : Lt) : AExit → List AV → zaa → Prop := zat tP zeh [1, 1, 0, 0, 1, 1, 1, 0] zoA (zbF zvI Kb11 (zvC K))
def zE1 (t1 t4 t5 t8 t31 t32 t33 t46 t47 t48 : AV) (H : zaa) (K : Kt) (Kb11 : Lt) : Prop := ALoop tP zEY (zEW K Kb11) (zE0 t1 t4 t5 t8 t31 t32 t33 t46 t47 t48) H
def zvD (t1 t4 t5 t31 t32 t33 : AV) (H : zaa) (K : Kt) (Kb11 : Lt) : Prop :=
 zac .lss false t33 t32 fun t34 =>
 zag t34
 (zaj 8 t31 t33 fun t36 =>
 zad true 8 t36 H fun t37 =>
 zaw [(.int .i64 0), (.int .i64 0), .snil, .snil, .snil, (.int .i64 0), (.int .i64 0), .snil] H fun t9 H =>
 zak 8 t9 t37 H fun H =>
 zaf 3 t9 fun t38 =>
 zad false 1 t38 H fun t39 =>
 zah 1 t39 fun t40 =>
 zaf 4 t9 fun t41 =>
 zad false 1 t41 H fun t42 =>
 zah 1 t42 fun t43 =>
 zac .neq false t40 t43 fun t44 =>
 zag t44
 (K (.bool false) H)
 (zaf 4 t9 fun t45 =>
 zad false 1 t45 H fun t46 =>
 zah 1 t46 fun t47 =>
 zE1 t1 t4 t5 t33 t31 t32 t33 t46 t47 (.int .i64 0) H K Kb11))
 (zad false 1 t4 H fun t70 =>
 zaf 3 t1 fun t71 =>
 zad false 1 t71 H fun t72 =>
 zah 1 t72 fun t73 =>
 zac .eql false t70 t73 fun t74 =>
 K t74 H)
def zvE (t1 t4 t5 t18 t19 t20 : AV) (H : zaa) (K : Kt) (Kb5 : Lt) : Prop :=
 zac .lss false t20 t19 fun t21 =>
 zag t21
 (zaj 7 t18 t20 fun t22 =>
 zad true 7 t22 H fun t23 =>
 zaw [(.str []), .snil, .snil, (.int .i64 0), (.int .i64 0), .snil, (.int .i64 0)] H fun t7 H =>
 zak 7 t7 t23 H fun H =>
 zaf 6 t7 fun t25 =>
 zad false 1 t25 H fun t26 =>
 aCallV tP t5 [t26] H fun t27 H =>
 aUn .not t27 fun t28 =>
 zag t28
 (K (.bool false) H)
 (zac .add false t20 (.int .i64 1) fun t29 =>
 Kb5 (zoB t1 t4 t5 t18 t19 t29) H))
 (zaf 3 t1 fun t30 =>
 zad false 1 t30 H fun t31 =>
 zah 1 t31 fun t32 =>
 zvG t1 t4 t5 t31 t32 (.int .i64 0) H K)
def zvB (t0 : AV) (H : zaa) (K : Kt) : Prop :=
 zap t0 H fun t1 H =>
 zaf 3 t1 fun t12 =>
 zad false 1 t12 H fun t13 =>
 zah 1 t13 fun t14 =>
 zbe 1 [(.bool false)] t14 t14 H fun t15 H =>
 zaw [.snil] H fun t3 H =>
 zak 1 t3 t15 H fun H =>
 zaw [(.int .i64 0)] H fun t4 H =>
 zak 1 t4 (.int .i64 0) H fun H =>
 zb4 zAk [t3, t4] fun t16 =>
 zaf 1 t1 fun t17 =>
 zad false 1 t17 H fun t18 =>
 zah 1 t18 fun t19 =>
 zvH t1 t4 t16 t18 t19 (.int .i64 0) H K
theorem zE2 {t1 t4 t5 t31 t32 t33 : AV} {H : zaa} {K : Kt} (Inv : Nat → AV → zaa → Prop) (n : Nat) (h0 : HSc H → Inv n t33 H)
  (round : Rd1 (fun t33 => zvF t1 t4 t5 t31 t32 t33) (fun t33 => fun H Kb11 => zvD t1 t4 t5 t31 t32 t33 H K Kb11) H Inv) : zvG t1 t4 t5 t31 t32 t33 H K :=
 lp1 (M := zeh) zvI t33 (by kernel_rfl) Inv n h0 round
theorem zE3 {t1 t4 t5 t18 t19 t20 : AV} {H : zaa} {K : Kt} (Inv : Nat → AV → zaa → Prop) (n : Nat) (h0 : HSc H → Inv n t20 H)
  (round : Rd1 (fun t20 => zoB t1 t4 t5 t18 t19 t20) (fun t20 => fun H Kb5 => zvE t1 t4 t5 t18 t19 t20 H K Kb5) H Inv) : zvH t1 t4 t5 t18 t19 t20 H K :=
 lp1 (M := zeh) zE4 t20 (by kernel_rfl) Inv n h0 round
theorem zE5 {t0 : AV} {H : zaa} {K : Kt} (h : HSc H → zvB t0 H K) : ACalls tP zmE [t0] H K :=
 zam (M := zeh) Tryz.func161 (c := zgO) (by kernel_rfl) (fun hs => Eq.mpr (by kernel_rfl) (h hs))
def zei : Nat → List Bool
 | 5 => rl false [1,1,2,2,12,3,41]
 | 11 => rl false [1,1,2,2,32,3,21]
 | 14 => rl false [1,1,2,2,32,3,4,3,14]
 | _ => []
noncomputable def zgR : Code := Tryz.f162.body.getD .skip
noncomputable def zvZ : List ResultVar := Tryz.f162.results.toList
def zoJ (t1 t4 t5 t18 t19 t20 : AV) : List AV := ux 1 (t1 :: ux 2 (t4 :: t5 :: ux 12 (t18 :: t19 :: t20 :: ux 41 [])))
def zFs : List Bool := zei 5
noncomputable def zFn : Code := zar [1, 1, 1, 1, 0, 1, 0, 0] zgR
def zFl (K : Kt) : AExit → List AV → zaa → Prop := zat tP zei [1, 1, 1, 1, 0, 1, 0] zgR (zay tP zvZ K)
def zvX (t1 t4 t5 t18 t19 t20 : AV) (H : zaa) (K : Kt) : Prop := ALoop tP zFn (zFl K) (zoJ t1 t4 t5 t18 t19 t20) H
def zvV (t1 t4 t5 t38 t39 t40 : AV) : List AV := ux 1 (t1 :: ux 2 (t4 :: t5 :: ux 32 (t38 :: t39 :: t40 :: ux 21 [])))
def zvY : List Bool := zei 11
noncomputable def zoI : Code := zar [1, 1, 1, 1, 1, 0, 1, 0, 0] zgR
def zvS (K : Kt) : AExit → List AV → zaa → Prop := zat tP zei [1, 1, 1, 1, 1, 0, 1, 0] zgR (zay tP zvZ K)
def zvW (t1 t4 t5 t38 t39 t40 : AV) (H : zaa) (K : Kt) : Prop := ALoop tP zoI (zvS K) (zvV t1 t4 t5 t38 t39 t40) H
def zFo (t1 t4 t5 t38 t39 t40 t45 t46 t47 : AV) : List AV := ux 1 (t1 :: ux 2 (t4 :: t5 :: ux 32 (t38 :: t39 :: t40 :: ux 4 (t45 :: t46 :: t47 :: ux 14 []))))
noncomputable def zFm : Code := zar [1, 1, 0, 0, 1, 1, 0, 0] zoI
def zFk (K : Kt) (Kb11 : Lt) : AExit → List AV → zaa → Prop := zat tP zei [1, 1, 0, 0, 1, 1, 0] zoI (zbF zvY Kb11 (zvS K))
def zFp (t1 t4 t5 t38 t39 t40 t45 t46 t47 : AV) (H : zaa) (K : Kt) (Kb11 : Lt) : Prop := ALoop tP zFm (zFk K Kb11) (zFo t1 t4 t5 t38 t39 t40 t45 t46 t47) H
def zvT (t1 t4 t5 t38 t39 t40 : AV) (H : zaa) (K : Kt) (Kb11 : Lt) : Prop :=
 zac .lss false t40 t39 fun t41 =>
 zag t41
 (zaj 8 t38 t40 fun t42 =>
 zad true 8 t42 H fun t43 =>
 zaw [(.int .i64 0), (.int .i64 0), .snil, .snil, .snil, (.int .i64 0), (.int .i64 0), .snil] H fun t9 H =>
 zak 8 t9 t43 H fun H =>
 zaf 3 t9 fun t44 =>
 zad false 1 t44 H fun t45 =>
 zah 1 t45 fun t46 =>
 zFp t1 t4 t5 t38 t39 t40 t45 t46 (.int .i64 0) H K Kb11)
 (zad false 1 t4 H fun t57 =>
 zaf 2 t1 fun t58 =>
 zad false 1 t58 H fun t59 =>
 zah 1 t59 fun t60 =>
 zac .eql false t57 t60 fun t61 =>
 K t61 H)
def zvU (t1 t4 t5 t18 t19 t20 : AV) (H : zaa) (K : Kt) (Kb5 : Lt) : Prop :=
 zac .lss false t20 t19 fun t21 =>
 zag t21
 (zaj 7 t18 t20 fun t22 =>
 zad true 7 t22 H fun t23 =>
 zaw [(.str []), .snil, .snil, (.int .i64 0), (.int .i64 0), .snil, (.int .i64 0)] H fun t7 H =>
 zak 7 t7 t23 H fun H =>
 zaf 1 t7 fun t25 =>
 zad false 1 t25 H fun t26 =>
 aCallV tP t5 [t26] H fun t27 H =>
 aUn .not t27 fun t28 =>
 zab t28 false H (fun K' => K' t5 H) fun t30 H =>
 zab t28 false H (fun K' => zaf 2 t7 (K' · H)) fun t31 H =>
 zab t28 false H (fun K' => zad false 1 t31 H (K' · H)) fun t32 H =>
 zab t28 false H (fun K' => aCallV tP t30 [t32] H K') fun t33 H =>
 zab t28 false H (fun K' => aUn .not t33 (K' · H)) fun t34 H =>
 zai t28 (.bool true) t34 fun t35 =>
 zag t35
 (K (.bool false) H)
 (zac .add false t20 (.int .i64 1) fun t36 =>
 Kb5 (zoJ t1 t4 t5 t18 t19 t36) H))
 (zaf 3 t1 fun t37 =>
 zad false 1 t37 H fun t38 =>
 zah 1 t38 fun t39 =>
 zvW t1 t4 t5 t38 t39 (.int .i64 0) H K)
def zvR (t0 : AV) (H : zaa) (K : Kt) : Prop :=
 zap t0 H fun t1 H =>
 zaf 2 t1 fun t12 =>
 zad false 1 t12 H fun t13 =>
 zah 1 t13 fun t14 =>
 zbe 1 [(.bool false)] t14 t14 H fun t15 H =>
 zaw [.snil] H fun t3 H =>
 zak 1 t3 t15 H fun H =>
 zaw [(.int .i64 0)] H fun t4 H =>
 zak 1 t4 (.int .i64 0) H fun H =>
 zb4 zAl [t3, t4] fun t16 =>
 zaf 1 t1 fun t17 =>
 zad false 1 t17 H fun t18 =>
 zah 1 t18 fun t19 =>
 zvX t1 t4 t16 t18 t19 (.int .i64 0) H K
theorem zFq {t1 t4 t5 t38 t39 t40 : AV} {H : zaa} {K : Kt} (Inv : Nat → AV → zaa → Prop) (n : Nat) (h0 : HSc H → Inv n t40 H)
  (round : Rd1 (fun t40 => zvV t1 t4 t5 t38 t39 t40) (fun t40 => fun H Kb11 => zvT t1 t4 t5 t38 t39 t40 H K Kb11) H Inv) : zvW t1 t4 t5 t38 t39 t40 H K :=
 lp1 (M := zei) zvY t40 (by kernel_rfl) Inv n h0 round
theorem zFr {t1 t4 t5 t18 t19 t20 : AV} {H : zaa} {K : Kt} (Inv : Nat → AV → zaa → Prop) (n : Nat) (h0 : HSc H → Inv n t20 H)
  (round : Rd1 (fun t20 => zoJ t1 t4 t5 t18 t19 t20) (fun t20 => fun H Kb5 => zvU t1 t4 t5 t18 t19 t20 H K Kb5) H Inv) : zvX t1 t4 t5 t18 t19 t20 H K :=
 lp1 (M := zei) zFs t20 (by kernel_rfl) Inv n h0 round
theorem zFt {t0 : AV} {H : zaa} {K : Kt} (h : HSc H → zvR t0 H K) : ACalls tP zmF [t0] H K :=
 zam (M := zei) Tryz.func162 (c := zgR) (by kernel_rfl) (fun hs => Eq.mpr (by kernel_rfl) (h hs))
def zjo : Nat → List Bool
 | 6 => rl false [4,2,9,3,25]
 | _ => []
noncomputable def zoK : Code := Tryz.f163.body.getD .skip
noncomputable def zFz : List ResultVar := Tryz.f163.results.toList
def zoL (t4 t5 t15 t16 t17 : AV) : List AV := ux 4 (t4 :: t5 :: ux 9 (t15 :: t16 :: t17 :: ux 25 []))
def zFx : List Bool := zjo 6
noncomputable def zFv : Code := zar [1, 1, 1, 1, 1, 0, 1, 0, 0] zoK
def zFu (K : Kt) : AExit → List AV → zaa → Prop := zat tP zjo [1, 1, 1, 1, 1, 0, 1, 0] zoK (zay tP zFz K)
def zv2 (t4 t5 t15 t16 t17 : AV) (H : zaa) (K : Kt) : Prop := ALoop tP zFv (zFu K) (zoL t4 t5 t15 t16 t17) H
def zv1 (t4 t5 t15 t16 t17 : AV) (H : zaa) (K : Kt) (Kb6 : Lt) : Prop :=
 zac .lss false t17 t16 fun t18 =>
 zag t18
 (zaj 7 t15 t17 fun t19 =>
 zad true 7 t19 H fun t20 =>
 zaw [(.str []), .snil, .snil, (.int .i64 0), (.int .i64 0), .snil, (.int .i64 0)] H fun t7 H =>
 zak 7 t7 t20 H fun H =>
 zad false 1 t4 H fun t21 =>
 zaf 1 t7 fun t22 =>
 zad false 1 t22 H fun t23 =>
 aCallV tP t21 [t23, (.bool true)] H fun t24 H =>
 zad false 1 t4 H fun t25 =>
 zaf 2 t7 fun t26 =>
 zad false 1 t26 H fun t27 =>
 aCallV tP t25 [t27, (.bool true)] H fun t28 H =>
 zad false 1 t5 H fun t29 =>
 zaf 6 t7 fun t30 =>
 zad false 1 t30 H fun t31 =>
 aCallV tP t29 [t31] H fun t32 H =>
 aUn .not t32 fun t33 =>
 zag t33
 (K (.bool false) H)
 (zad false 1 t4 H fun t34 =>
 zaf 1 t7 fun t35 =>
 zad false 1 t35 H fun t36 =>
 aCallV tP t34 [t36, (.bool false)] H fun t37 H =>
 zad false 1 t4 H fun t38 =>
 zaf 2 t7 fun t39 =>
 zad false 1 t39 H fun t40 =>
 aCallV tP t38 [t40, (.bool false)] H fun t41 H =>
 zac .add false t17 (.int .i64 1) fun t42 =>
 Kb6 (zoL t4 t5 t15 t16 t42) H))
 (K (.bool true) H)
def zv0 (t0 : AV) (H : zaa) (K : Kt) : Prop :=
 zap t0 H fun t1 H =>
 zaf 2 t1 fun t8 =>
 zad false 1 t8 H fun t9 =>
 zah 1 t9 fun t10 =>
 zbe 1 [(.bool false)] t10 t10 H fun t11 H =>
 zaw [.snil] H fun t3 H =>
 zak 1 t3 t11 H fun H =>
 zb4 zAm [t3] fun t12 =>
 zaw [.nilfn] H fun t4 H =>
 zak 1 t4 t12 H fun H =>
 zaw [.nilfn] H fun t5 H =>
 zb4 zAn [t1, t3, t4, t5] fun t13 =>
 zak 1 t5 t13 H fun H =>
 zaf 1 t1 fun t14 =>
 zad false 1 t14 H fun t15 =>
 zah 1 t15 fun t16 =>
 zv2 t4 t5 t15 t16 (.int .i64 0) H K
theorem zFw {t4 t5 t15 t16 t17 : AV} {H : zaa} {K : Kt} (Inv : Nat → AV → zaa → Prop) (n : Nat) (h0 : HSc H → Inv n t17 H)
  (round : Rd1 (fun t17 => zoL t4 t5 t15 t16 t17) (fun t17 => fun H Kb6 => zv1 t4 t5 t15 t16 t17 H K Kb6) H Inv) : zv2 t4 t5 t15 t16 t17 H K :=
 lp1 (M := zjo) zFx t17 (by kernel_rfl) Inv n h0 round
theorem zFy {t0 : AV} {H : zaa} {K : Kt} (h : HSc H → zv0 t0 H K) : ACalls tP zmG [t0] H K :=
 zam (M := zjo) Tryz.func163 (c := zoK) (by kernel_rfl) (fun hs => Eq.mpr (by kernel_rfl) (h hs))
def zeK : Nat → List Bool
 | 3 => rl false [1,1,1,1,12,3,30]
 | 9 => rl false [3,1,24,3,18]
 | _ => []
noncomputable def zgS : Code := Tryz.f164.body.getD .skip
noncomputable def zv8 : List ResultVar := Tryz.f164.results.toList
def zoM (t1 t3 t16 t17 t18 : AV) : List AV := ux 1 (t1 :: ux 1 (t3 :: ux 12 (t16 :: t17 :: t18 :: ux 30 [])))
def zFG : List Bool := zeK 3
noncomputable def zFC : Code := zar [1, 1, 0, 1, 0, 0] zgS
def zFA (K : Kt) : AExit → List AV → zaa → Prop := zat tP zeK [1, 1, 0, 1, 0] zgS (zay tP zv8 K)
def zv6 (t1 t3 t16 t17 t18 : AV) (H : zaa) (K : Kt) : Prop := ALoop tP zFC (zFA K) (zoM t1 t3 t16 t17 t18) H
def zoN (t3 t28 t29 t30 : AV) : List AV := ux 3 (t3 :: ux 24 (t28 :: t29 :: t30 :: ux 18 []))
def zFH : List Bool := zeK 9
noncomputable def zFD : Code := zar [1, 1, 1, 0, 1, 0, 0] zgS
def zFB (K : Kt) : AExit → List AV → zaa → Prop := zat tP zeK [1, 1, 1, 0, 1, 0] zgS (zay tP zv8 K)
def zv7 (t3 t28 t29 t30 : AV) (H : zaa) (K : Kt) : Prop := ALoop tP zFD (zFB K) (zoN t3 t28 t29 t30) H
def zv5 (t3 t28 t29 t30 : AV) (H : zaa) (K : Kt) (Kb9 : Lt) : Prop :=
 zac .lss false t30 t29 fun t31 =>
 zag t31
 (zaj 7 t28 t30 fun t33 =>
 zad true 7 t33 H fun t34 =>
 zaw [(.str []), .snil, .snil, (.int .i64 0), (.int .i64 0), .snil, (.int .i64 0)] H fun t7 H =>
 zak 7 t7 t34 H fun H =>
 zaf 0 t7 fun t35 =>
 zad false 1 t35 H fun t36 =>
 zac .eql false t36 (.str []) fun t37 =>
 zab t37 true H (fun K' => K' t3 H) fun t39 H =>
 zab t37 true H (fun K' => za4 t39 (K' · H)) fun t40 H =>
 zab t37 true H (fun K' => zaf 4 t40 (K' · H)) fun t41 H =>
 zab t37 true H (fun K' => zad false 1 t41 H (K' · H)) fun t42 H =>
 zab t37 true H (fun K' => K' t30 H) fun t43 H =>
 zab t37 true H (fun K' => zaj 1 t42 t43 (K' · H)) fun t44 H =>
 zab t37 true H (fun K' => zad false 1 t44 H (K' · H)) fun t45 H =>
 zab t37 true H (fun K' => zac .neq false t45 (.int .i64 1) (K' · H)) fun t46 H =>
 zai t37 t46 (.bool false) fun t47 =>
 zag t47
 (K (.bool false) H)
 (zac .add false t30 (.int .i64 1) fun t48 =>
 Kb9 (zoN t3 t28 t29 t48) H))
 (K (.bool true) H)
def zv4 (t1 t3 t16 t17 t18 : AV) (H : zaa) (K : Kt) (Kb3 : Lt) : Prop :=
 zac .lss false t18 t17 fun t19 =>
 zag t19
 (zaj 8 t16 t18 fun t20 =>
 zad true 8 t20 H fun t21 =>
 zaw [(.int .i64 0), (.int .i64 0), .snil, .snil, .snil, (.int .i64 0), (.int .i64 0), .snil] H fun t5 H =>
 zak 8 t5 t21 H fun H =>
 zad true 8 t5 H fun t23 =>
 ACalls tP zAo [t3, t23] H fun t24 H =>
 aUn .not t24 fun t25 =>
 zag t25
 (K (.bool false) H)
 (zac .add false t18 (.int .i64 1) fun t26 =>
 Kb3 (zoM t1 t3 t16 t17 t26) H))
 (zaf 1 t1 fun t27 =>
 zad false 1 t27 H fun t28 =>
 zah 1 t28 fun t29 =>
 zv7 t3 t28 t29 (.int .i64 0) H K)
def zv3 (t0 : AV) (H : zaa) (K : Kt) : Prop :=
 zap t0 H fun t1 H =>
 zae H (fun K' => zal true 4 t1 H (K' · H)) fun t8 =>
 zae H (fun K' => zaf 1 t1 (K' · H)) fun t9 =>
 zae H (fun K' => zal false 1 t9 H (K' · H)) fun t10 =>
 zae H (fun K' => zah 1 t10 (K' · H)) fun t11 =>
 zbe 8 [(.int .i64 0)] t11 t11 H fun t12 H =>
 zae H (fun K' => zaC [.snil, .snil, .snil, .snil, .snil] [(0, 4), (4, 1)] [(0, t8), (1, t12)] (K' · H)) fun t13 =>
 zap t13 H fun t14 H =>
 zae H (fun K' => K' t14 H) fun t3 =>
 zaf 3 t1 fun t15 =>
 zad false 1 t15 H fun t16 =>
 zah 1 t16 fun t17 =>
 zv6 t1 t3 t16 t17 (.int .i64 0) H K
theorem zFF {t3 t28 t29 t30 : AV} {H : zaa} {K : Kt} (Inv : Nat → AV → zaa → Prop) (n : Nat) (h0 : HSc H → Inv n t30 H)
  (round : Rd1 (fun t30 => zoN t3 t28 t29 t30) (fun t30 => fun H Kb9 => zv5 t3 t28 t29 t30 H K Kb9) H Inv) : zv7 t3 t28 t29 t30 H K :=
 lp1 (M := zeK) zFH t30 (by kernel_rfl) Inv n h0 round
theorem zFE {t1 t3 t16 t17 t18 : AV} {H : zaa} {K : Kt} (Inv : Nat → AV → zaa → Prop) (n : Nat) (h0 : HSc H → Inv n t18 H)
  (round : Rd1 (fun t18 => zoM t1 t3 t16 t17 t18) (fun t18 => fun H Kb3 => zv4 t1 t3 t16 t17 t18 H K Kb3) H Inv) : zv6 t1 t3 t16 t17 t18 H K :=
 lp1 (M := zeK) zFG t18 (by kernel_rfl) Inv n h0 round
theorem zFI {t0 : AV} {H : zaa} {K : Kt} (h : HSc H → zv3 t0 H K) : ACalls tP zmH [t0] H K :=
 zam (M := zeK) Tryz.func164 (c := zgS) (by kernel_rfl) (fun hs => Eq.mpr (by kernel_rfl) (h hs))
end Go.Proofs.YtjkkonpjecoieaaGreat

namespace Go.Proofs.YtjkkonpjecoieaaGreat
open Go Go.Abs
set_option maxRecDepth 100000
def zDg (_ : Nat) : List Bool := []
noncomputable def zDh : Code := Tryz.f13.body.getD .skip
def zuZ (t0 : AV) (H : zaa) (K : Kt) : Prop :=
 zap t0 H fun t1 H =>
 zaw [(.int .i64 0)] H fun t3 H =>
 zak 1 t3 (.int .i64 400) H fun H =>
 zad true 3 t1 H fun t4 =>
 ACalls tP zhU [t4, t3] H fun t5 H =>
 K t5 H
theorem zDi {t0 : AV} {H : zaa} {K : Kt} (h : HSc H → zuZ t0 H K) : ACalls tP zms [t0] H K :=
 zam (M := zDg) Tryz.func13 (c := zDh) (by kernel_rfl) (fun hs => Eq.mpr (by kernel_rfl) (h hs))
def zD8 (_ : Nat) : List Bool := []
noncomputable def zD9 : Code := Tryz.f15.body.getD .skip
def zve (t0 t1 t2 : AV) (H : zaa) (K : Kt) : Prop :=
 zap t1 H fun t4 H =>
 zap t2 H fun t5 H =>
 zaw [(.int .i64 0)] H fun t7 H =>
 zak 1 t7 (.int .i64 5000) H fun H =>
 ACalls tP zhV [t0] H fun t9 H =>
 zab t9 true H (fun K' => K' t0 H) fun t11 H =>
 zab t9 true H (fun K' => zad true 3 t5 H (K' · H)) fun t12 H =>
 zab t9 true H (fun K' => ACalls tP zgl [t11, t12, (.int .i64 0)] H K') fun t13 H =>
 zai t9 t13 (.bool false) fun t14 =>
 zab t14 true H (fun K' => zad true 3 t4 H (K' · H)) fun t16 H =>
 zab t14 true H (fun K' => ACalls tP zhW [t16, t7] H K') fun t17 H =>
 zai t14 t17 (.bool false) fun t18 =>
 zab t18 true H (fun K' => K' t0 H) fun t20 H =>
 zab t18 true H (fun K' => zad true 3 t4 H (K' · H)) fun t21 H =>
 zab t18 true H (fun K' => zad true 3 t5 H (K' · H)) fun t22 H =>
 zab t18 true H (fun K' => ACalls tP zgm [t20, t21, t22] H K') fun t23 H =>
 zai t18 t23 (.bool false) fun t24 =>
 K t24 H
theorem zEa {t0 t1 t2 : AV} {H : zaa} {K : Kt} (h : HSc H → zve t0 t1 t2 H K) : ACalls tP zhE [t0, t1, t2] H K :=
 zam (M := zD8) Tryz.func15 (c := zD9) (by kernel_rfl) (fun hs => Eq.mpr (by kernel_rfl) (h hs))
def zDk (_ : Nat) : List Bool := []
noncomputable def zDl : Code := Tryz.f122.body.getD .skip
def zu5 (t0 t1 : AV) (H : zaa) (K : Kt) : Prop :=
 ACalls tP zmI [t0, t1] H fun t7 H =>
 zac .geq false t7 (.int .i64 0) fun t8 =>
 K t8 H
theorem zDm {t0 t1 : AV} {H : zaa} {K : Kt} (h : HSc H → zu5 t0 t1 H K) : ACalls tP zmv [t0, t1] H K :=
 zam (M := zDk) Tryz.func122 (c := zDl) (by kernel_rfl) (fun hs => Eq.mpr (by kernel_rfl) (h hs))
def zjs : Nat → List Bool
 | 2 => rl false [0,2,5,2,10]
 | _ => []
noncomputable def zoT : Code := Tryz.f166.body.getD .skip
noncomputable def zFZ : List ResultVar := Tryz.f166.results.toList
def zjt (t0 t1 t7 t8 : AV) : List AV := t0 :: t1 :: ux 5 (t7 :: t8 :: ux 10 [])
def zFX : List Bool := zjs 2
noncomputable def zFV : Code := zar [1, 0, 1, 0, 0] zoT
def zFU (K : Kt) : AExit → List AV → zaa → Prop := zat tP zjs [1, 0, 1, 0] zoT (zay tP zFZ K)
def zwe (t0 t1 t7 t8 : AV) (H : zaa) (K : Kt) : Prop := ALoop tP zFV (zFU K) (zjt t0 t1 t7 t8) H
def zoS (t0 t1 t7 t8 : AV) (H : zaa) (K : Kt) (Kb2 : Lt) : Prop :=
 zac .lss false t8 t7 fun t9 =>
 zag t9
 (zaj 3 t0 t8 fun t14 =>
 zad true 3 t14 H fun t15 =>
 aCallV tP t1 [t15] H fun t16 H =>
 zag t16
 (K t8 H)
 (zac .add false t8 (.int .i64 1) fun t18 =>
 Kb2 (zjt t0 t1 t7 t18) H))
 (K (.int .i64 (-1)) H)
def zwd (t0 t1 : AV) (H : zaa) (K : Kt) : Prop :=
 zah 1 t0 fun t7 =>
 zwe t0 t1 t7 (.int .i64 0) H K
theorem zFW {t0 t1 t7 t8 : AV} {H : zaa} {K : Kt} (Inv : Nat → AV → zaa → Prop) (n : Nat) (h0 : HSc H → Inv n t8 H)
  (round : Rd1 (fun t8 => zjt t0 t1 t7 t8) (fun t8 => fun H Kb2 => zoS t0 t1 t7 t8 H K Kb2) H Inv) : zwe t0 t1 t7 t8 H K :=
 lp1 (M := zjs) zFX t8 (by kernel_rfl) Inv n h0 round
theorem zFY {t0 t1 : AV} {H : zaa} {K : Kt} (h : HSc H → zwd t0 t1 H K) : ACalls tP zmI [t0, t1] H K :=
 zam (M := zjs) Tryz.func166 (c := zoT) (by kernel_rfl) (fun hs => Eq.mpr (by kernel_rfl) (h hs))
def zLO (_ : Nat) : List Bool := []
noncomputable def zLP : Code := Tryz.f77.body.getD .skip
def zdL (t0 t1 t2 : AV) (H : zaa) (K : Kt) : Prop :=
 zap t0 H fun t3 H =>
 zap t1 H fun t4 H =>
 zap t2 H fun t5 H =>
 zaf 0 t5 fun t9 =>
 zad false 1 t9 H fun t10 =>
 zac .eql false t10 (.int .i64 1) fun t12 =>
 zag t12
 (zaf 0 t4 fun t13 =>
 zad false 1 t13 H fun t14 =>
 zac .eql false t14 (.int .i64 3) fun t15 =>
 zab t15 true H (fun K' => zaf 1 t4 (K' · H)) fun t17 H =>
 zab t15 true H (fun K' => zad false 1 t17 H (K' · H)) fun t18 H =>
 zab t15 true H (fun K' => zac .leq false (.int .i64 (-1099511627776)) t18 (K' · H)) fun t19 H =>
 zai t15 t19 (.bool false) fun t20 =>
 zab t20 true H (fun K' => zaf 1 t4 (K' · H)) fun t22 H =>
 zab t20 true H (fun K' => zad false 1 t22 H (K' · H)) fun t23 H =>
 zab t20 true H (fun K' => zac .leq false t23 (.int .i64 1099511627776) (K' · H)) fun t24 H =>
 zai t20 t24 (.bool false) fun t25 =>
 zab t25 true H (fun K' => zaf 2 t4 (K' · H)) fun t27 H =>
 zab t25 true H (fun K' => zad false 1 t27 H (K' · H)) fun t28 H =>
 zab t25 true H (fun K' => zah 1 t28 (K' · H)) fun t29 H =>
 zab t25 true H (fun K' => zac .eql false t29 (.int .i64 0) (K' · H)) fun t30 H =>
 zai t25 t30 (.bool false) fun t31 =>
 K t31 H)
 (zac .eql false t10 (.int .i64 2) fun t33 =>
 zag t33
 (zaf 0 t4 fun t34 =>
 zad false 1 t34 H fun t35 =>
 zac .eql false t35 (.int .i64 2) fun t36 =>
 zab t36 true H (fun K' => zaf 1 t4 (K' · H)) fun t38 H =>
 zab t36 true H (fun K' => zad false 1 t38 H (K' · H)) fun t39 H =>
 zab t36 true H (fun K' => zac .eql false t39 (.int .i64 0) (K' · H)) fun t40 H =>
 zab t36 true H (fun K' => K' t40 H) fun t41 H =>
 zab t41 false H (fun K' => zaf 1 t4 (K' · H)) fun t42 H =>
 zab t41 false H (fun K' => zad false 1 t42 H (K' · H)) fun t43 H =>
 zab t41 false H (fun K' => zac .eql false t43 (.int .i64 1) (K' · H)) fun t44 H =>
 zab t36 true H (fun K' => zai t41 (.bool true) t44 (K' · H)) fun t45 H =>
 zai t36 t45 (.bool false) fun t46 =>
 zab t46 true H (fun K' => zaf 2 t4 (K' · H)) fun t48 H =>
 zab t46 true H (fun K' => zad false 1 t48 H (K' · H)) fun t49 H =>
 zab t46 true H (fun K' => zah 1 t49 (K' · H)) fun t50 H =>
 zab t46 true H (fun K' => zac .eql false t50 (.int .i64 0) (K' · H)) fun t51 H =>
 zai t46 t51 (.bool false) fun t52 =>
 K t52 H)
 (zac .eql false t10 (.int .i64 3) fun t54 =>
 zag t54
 (zaf 0 t4 fun t55 =>
 zad false 1 t55 H fun t56 =>
 zac .eql false t56 (.int .i64 1) fun t57 =>
 zab t57 true H (fun K' => zaf 1 t4 (K' · H)) fun t59 H =>
 zab t57 true H (fun K' => zad false 1 t59 H (K' · H)) fun t60 H =>
 zab t57 true H (fun K' => zac .eql false t60 (.int .i64 0) (K' · H)) fun t61 H =>
 zai t57 t61 (.bool false) fun t62 =>
 zab t62 true H (fun K' => zaf 2 t4 (K' · H)) fun t64 H =>
 zab t62 true H (fun K' => zad false 1 t64 H (K' · H)) fun t65 H =>
 zab t62 true H (fun K' => zah 1 t65 (K' · H)) fun t66 H =>
 zab t62 true H (fun K' => zac .eql false t66 (.int .i64 0) (K' · H)) fun t67 H =>
 zai t62 t67 (.bool false) fun t68 =>
 K t68 H)
 (zac .eql false t10 (.int .i64 6) fun t70 =>
 zag t70
 (zaf 0 t4 fun t71 =>
 zad false 1 t71 H fun t72 =>
 zac .eql false t72 (.int .i64 4) fun t73 =>
 zab t73 true H (fun K' => zaf 1 t4 (K' · H)) fun t75 H =>
 zab t73 true H (fun K' => zad false 1 t75 H (K' · H)) fun t76 H =>
 zab t73 true H (fun K' => zac .eql false t76 (.int .i64 0) (K' · H)) fun t77 H =>
 zai t73 t77 (.bool false) fun t78 =>
 zab t78 true H (fun K' => zad false 1 t3 H (K' · H)) fun t80 H =>
 zab t78 true H (fun K' => zaf 2 t4 (K' · H)) fun t81 H =>
 zab t78 true H (fun K' => zad false 1 t81 H (K' · H)) fun t82 H =>
 zab t78 true H (fun K' => zaf 2 t5 (K' · H)) fun t83 H =>
 zab t78 true H (fun K' => zad false 1 t83 H (K' · H)) fun t84 H =>
 zab t78 true H (fun K' => ACalls tP zge [t80, t82, t84] H K') fun t85 H =>
 zai t78 t85 (.bool false) fun t86 =>
 K t86 H)
 (zac .eql false t10 (.int .i64 5) fun t88 =>
 zag t88
 (zaf 0 t4 fun t89 =>
 zad false 1 t89 H fun t90 =>
 zac .neq false t90 (.int .i64 5) fun t91 =>
 zab t91 false H (fun K' => zaf 1 t4 (K' · H)) fun t93 H =>
 zab t91 false H (fun K' => zad false 1 t93 H (K' · H)) fun t94 H =>
 zab t91 false H (fun K' => zac .lss false t94 (.int .i64 0) (K' · H)) fun t95 H =>
 zai t91 (.bool true) t95 fun t96 =>
 zab t96 false H (fun K' => zaf 1 t4 (K' · H)) fun t98 H =>
 zab t96 false H (fun K' => zad false 1 t98 H (K' · H)) fun t99 H =>
 zab t96 false H (fun K' => zac .geq false t99 (.int .i64 8) (K' · H)) fun t100 H =>
 zai t96 (.bool true) t100 fun t101 =>
 zag t101
 (K (.bool false) H)
 (zad false 1 t3 H fun t103 =>
 zad true 3 t5 H fun t104 =>
 zaf 1 t4 fun t105 =>
 zad false 1 t105 H fun t106 =>
 ACalls tP zfc [t103, t104, t106] H fun t107 H =>
 zav t107 0 fun t108 =>
 zav t107 1 fun t109 =>
 zab t109 true H (fun K' => zad false 1 t3 H (K' · H)) fun t112 H =>
 zab t109 true H (fun K' => zaf 2 t4 (K' · H)) fun t113 H =>
 zab t109 true H (fun K' => zad false 1 t113 H (K' · H)) fun t114 H =>
 zab t109 true H (fun K' => K' t108 H) fun t115 H =>
 zab t109 true H (fun K' => ACalls tP zge [t112, t114, t115] H K') fun t116 H =>
 zai t109 t116 (.bool false) fun t117 =>
 K t117 H))
 (zac .eql false t10 (.int .i64 7) fun t119 =>
 zag t119
 (zaf 0 t4 fun t120 =>
 zad false 1 t120 H fun t121 =>
 zac .eql false t121 (.int .i64 6) fun t122 =>
 zab t122 true H (fun K' => zaf 1 t4 (K' · H)) fun t124 H =>
 zab t122 true H (fun K' => zad false 1 t124 H (K' · H)) fun t125 H =>
 zab t122 true H (fun K' => zac .eql false t125 (.int .i64 0) (K' · H)) fun t126 H =>
 zai t122 t126 (.bool false) fun t127 =>
 zab t127 true H (fun K' => zaf 2 t4 (K' · H)) fun t129 H =>
 zab t127 true H (fun K' => zad false 1 t129 H (K' · H)) fun t130 H =>
 zab t127 true H (fun K' => zah 1 t130 (K' · H)) fun t131 H =>
 zab t127 true H (fun K' => zac .leq false t131 (.int .i64 4096) (K' · H)) fun t132 H =>
 zai t127 t132 (.bool false) fun t133 =>
 zab t133 true H (fun K' => zaf 2 t4 (K' · H)) fun t135 H =>
 zab t133 true H (fun K' => zad false 1 t135 H (K' · H)) fun t136 H =>
 zab t133 true H (fun K' => zb4 zmw [t3, t5] (K' · H)) fun t137 H =>
 zab t133 true H (fun K' => ACalls tP zmv [t136, t137] H K') fun t138 H =>
 zab t133 true H (fun K' => aUn .not t138 (K' · H)) fun t139 H =>
 zai t133 t139 (.bool false) fun t140 =>
 K t140 H)
 (zac .eql false t10 (.int .i64 8) fun t142 =>
 zag t142
 (zaf 0 t4 fun t143 =>
 zad false 1 t143 H fun t144 =>
 zac .eql false t144 (.int .i64 7) fun t145 =>
 zab t145 true H (fun K' => zaf 1 t4 (K' · H)) fun t147 H =>
 zab t145 true H (fun K' => zad false 1 t147 H (K' · H)) fun t148 H =>
 zab t145 true H (fun K' => zac .eql false t148 (.int .i64 0) (K' · H)) fun t149 H =>
 zai t145 t149 (.bool false) fun t150 =>
 zab t150 true H (fun K' => zad false 1 t3 H (K' · H)) fun t152 H =>
 zab t150 true H (fun K' => zaf 2 t4 (K' · H)) fun t153 H =>
 zab t150 true H (fun K' => zad false 1 t153 H (K' · H)) fun t154 H =>
 zab t150 true H (fun K' => zaf 2 t5 (K' · H)) fun t155 H =>
 zab t150 true H (fun K' => zad false 1 t155 H (K' · H)) fun t156 H =>
 zab t150 true H (fun K' => ACalls tP zge [t152, t154, t156] H K') fun t157 H =>
 zai t150 t157 (.bool false) fun t158 =>
 K t158 H)
 (zac .eql false t10 (.int .i64 9) fun t160 =>
 zag t160
 (zaf 0 t4 fun t161 =>
 zad false 1 t161 H fun t162 =>
 zac .eql false t162 (.int .i64 8) fun t163 =>
 zab t163 true H (fun K' => zaf 1 t4 (K' · H)) fun t165 H =>
 zab t163 true H (fun K' => zad false 1 t165 H (K' · H)) fun t166 H =>
 zab t163 true H (fun K' => zac .leq false (.int .i64 0) t166 (K' · H)) fun t167 H =>
 zai t163 t167 (.bool false) fun t168 =>
 zab t168 true H (fun K' => zaf 1 t4 (K' · H)) fun t170 H =>
 zab t168 true H (fun K' => zad false 1 t170 H (K' · H)) fun t171 H =>
 zab t168 true H (fun K' => zac .lss false t171 (.int .i64 64) (K' · H)) fun t172 H =>
 zai t168 t172 (.bool false) fun t173 =>
 zab t173 true H (fun K' => zaf 2 t4 (K' · H)) fun t175 H =>
 zab t173 true H (fun K' => zad false 1 t175 H (K' · H)) fun t176 H =>
 zab t173 true H (fun K' => zah 1 t176 (K' · H)) fun t177 H =>
 zab t173 true H (fun K' => zac .eql false t177 (.int .i64 0) (K' · H)) fun t178 H =>
 zai t173 t178 (.bool false) fun t179 =>
 K t179 H)
 (K (.bool false) H))))))))
theorem zLQ {t0 t1 t2 : AV} {H : zaa} {K : Kt} (h : HSc H → zdL t0 t1 t2 H K) : ACalls tP zh3 [t0, t1, t2] H K :=
 zam (M := zLO) Tryz.func77 (c := zLP) (by kernel_rfl) (fun hs => Eq.mpr (by kernel_rfl) (h hs))
def zDn (_ : Nat) : List Bool := []
noncomputable def zDo : Code := Tryz.f124.body.getD .skip
def zu6 (t0 t1 t2 : AV) (H : zaa) (K : Kt) : Prop :=
 zap t0 H fun t3 H =>
 zb4 zmK [t3] fun t9 =>
 ACalls tP zmJ [t1, t2, t9] H fun t10 H =>
 K t10 H
theorem zDp {t0 t1 t2 : AV} {H : zaa} {K : Kt} (h : HSc H → zu6 t0 t1 t2 H K) : ACalls tP zge [t0, t1, t2] H K :=
 zam (M := zDn) Tryz.func124 (c := zDo) (by kernel_rfl) (fun hs => Eq.mpr (by kernel_rfl) (h hs))
def zDq (_ : Nat) : List Bool := []
noncomputable def zDr : Code := Tryz.f125.body.getD .skip
def zu7 (t0 t1 t2 : AV) (H : zaa) (K : Kt) : Prop :=
 zap t0 H fun t3 H =>
 zae H (fun K' => zal false 1 t1 H (K' · H)) fun t5 =>
 zae H (fun K' => zal true 3 t3 H (K' · H)) fun t6 =>
 zae H (fun K' => zaf 2 t2 (K' · H)) fun t7 =>
 zae H (fun K' => zal false 1 t7 H (K' · H)) fun t8 =>
 zae H (fun K' => zaj 3 t8 (.int .i64 0) (K' · H)) fun t9 =>
 zae H (fun K' => zal true 3 t9 H (K' · H)) fun t10 =>
 zaE H (fun H K' => ACalls tP zh3 [t5, t6, t10] H K') fun t11 =>
 zae H (fun K' => aUn .not t11 (K' · H)) fun t12 =>
 zae H (fun K' => K' t12 H) fun t4 =>
 K t4 H
theorem zDs {t0 t1 t2 : AV} {H : zaa} {K : Kt} (h : HSc H → zu7 t0 t1 t2 H K) : ACalls tP zmw [t0, t1, t2] H K :=
 zam (M := zDq) Tryz.func125 (c := zDr) (by kernel_rfl) (fun hs => Eq.mpr (by kernel_rfl) (h hs))
def zju : Nat → List Bool
 | 4 => rl false [1,2,12,3,14]
 | _ => []
noncomputable def zoW : Code := Tryz.f167.body.getD .skip
noncomputable def zF5 : List ResultVar := Tryz.f167.results.toList
def zjv (t1 t2 t15 t16 t17 : AV) : List AV := ux 1 (t1 :: t2 :: ux 12 (t15 :: t16 :: t17 :: ux 14 []))
def zF3 : List Bool := zju 4
noncomputable def zF1 : Code := zar [1, 1, 0, 1, 0, 0] zoW
def zF0 (K : Kt) : AExit → List AV → zaa → Prop := zat tP zju [1, 1, 0, 1, 0] zoW (zay tP zF5 K)
def zwf (t1 t2 t15 t16 t17 : AV) (H : zaa) (K : Kt) : Prop := ALoop tP zF1 (zF0 K) (zjv t1 t2 t15 t16 t17) H
def zoV (t1 t2 t15 t16 t17 : AV) (H : zaa) (K : Kt) (Kb4 : Lt) : Prop :=
 zac .lss false t17 t16 fun t18 =>
 zag t18
 (zaj 3 t15 t17 fun t20 =>
 zad true 3 t20 H fun t21 =>
 zaw [(.int .i64 0), (.int .i64 0), .snil] H fun t8 H =>
 zak 3 t8 t21 H fun H =>
 zaj 3 t1 t17 fun t24 =>
 zad true 3 t24 H fun t25 =>
 zaw [(.int .i64 0), (.int .i64 0), .snil] H fun t9 H =>
 zak 3 t9 t25 H fun H =>
 zad true 3 t8 H fun t27 =>
 zad true 3 t9 H fun t28 =>
 aCallV tP t2 [t27, t28] H fun t29 H =>
 aUn .not t29 fun t30 =>
 zag t30
 (K (.bool false) H)
 (zac .add false t17 (.int .i64 1) fun t31 =>
 Kb4 (zjv t1 t2 t15 t16 t31) H))
 (K (.bool true) H)
def zoU (t0 t1 t2 : AV) (H : zaa) (K : Kt) : Prop :=
 zah 1 t0 fun t11 =>
 zah 1 t1 fun t13 =>
 zac .neq false t11 t13 fun t14 =>
 zag t14
 (K (.bool false) H)
 (zah 1 t0 fun t16 =>
 zwf t1 t2 t0 t16 (.int .i64 0) H K)
theorem zF2 {t1 t2 t15 t16 t17 : AV} {H : zaa} {K : Kt} (Inv : Nat → AV → zaa → Prop) (n : Nat) (h0 : HSc H → Inv n t17 H)
  (round : Rd1 (fun t17 => zjv t1 t2 t15 t16 t17) (fun t17 => fun H Kb4 => zoV t1 t2 t15 t16 t17 H K Kb4) H Inv) : zwf t1 t2 t15 t16 t17 H K :=
 lp1 (M := zju) zF3 t17 (by kernel_rfl) Inv n h0 round
theorem zF4 {t0 t1 t2 : AV} {H : zaa} {K : Kt} (h : HSc H → zoU t0 t1 t2 H K) : ACalls tP zmJ [t0, t1, t2] H K :=
 zam (M := zju) Tryz.func167 (c := zoW) (by kernel_rfl) (fun hs => Eq.mpr (by kernel_rfl) (h hs))
def zF6 (_ : Nat) : List Bool := []
noncomputable def zF7 : Code := Tryz.f168.body.getD .skip
def zwg (t0 t1 t2 : AV) (H : zaa) (K : Kt) : Prop :=
 zap t0 H fun t3 H =>
 zap t1 H fun t4 H =>
 zad false 1 t2 H fun t6 =>
 zad true 3 t3 H fun t7 =>
 zad true 3 t4 H fun t8 =>
 ACalls tP zh3 [t6, t7, t8] H fun t9 H =>
 K t9 H
theorem zF8 {t0 t1 t2 : AV} {H : zaa} {K : Kt} (h : HSc H → zwg t0 t1 t2 H K) : ACalls tP zmK [t0, t1, t2] H K :=
 zam (M := zF6) Tryz.func168 (c := zF7) (by kernel_rfl) (fun hs => Eq.mpr (by kernel_rfl) (h hs))
end Go.Proofs.YtjkkonpjecoieaaGreat
