import Derived.Test.YtacebbdfgbfgiaaGreatKNum
import Derived.Test.YtacebbdfgbfgiaaGreatProg
import Derived.KernelRfl
import Derived.Test.YtacebbdfgbfgiaaGreatKUA
import Derived.Test.YtacebbdfgbfgiaaGreatKV1
set_option linter.unusedSimpArgs false
set_option linter.unusedVariables false
namespace Go.Proofs.YtacebbdfgbfgiaaGreat
open Go Go.Abs
set_option maxRecDepth 100000
def zBV (_ : Nat) : List Bool := []
noncomputable def zBW : Code := Tryz.f9.body.getD .skip
def zq7 (t0 : AV) (H : zaa) (K : Kt) : Prop :=
 zaq t0 H fun t1 H =>
 zat [(.int .i64 0)] H fun t3 H =>
 zak 1 t3 (.int .i64 40) H fun H =>
 zad true 2 t1 H fun t4 =>
 ACalls tP zgm [t4, t3] H fun t5 H =>
 K t5 H
theorem zBX {t0 : AV} {H : zaa} {K : Kt} (h : HSc H → zq7 t0 H K) : ACalls tP zj9 [t0] H K :=
 zan (M := zBV) Tryz.func9 (c := zBW) (by kernel_rfl) (fun hs => Eq.mpr (by kernel_rfl) (h hs))
def zhE : Nat → List Bool
 | 5 => rl false [1,2,2,1,24]
 | _ => []
noncomputable def zlw : Code := Tryz.f26.body.getD .skip
noncomputable def zyB : List ResultVar := Tryz.f26.results.toList
def zhF (t1 t2 t5 : AV) : List AV := ux 1 (t1 :: t2 :: ux 2 (t5 :: ux 24 []))
def zyz : List Bool := zhE 5
noncomputable def zyx : Code := zao [1, 1, 1, 0, 1, 0, 0] zlw
def zyw (K : Kt) : AExit → List AV → zaa → Prop := zap tP zhE [1, 1, 1, 0, 1, 0] zlw (zaw tP zyB K)
def zqW (t1 t2 t5 : AV) (H : zaa) (K : Kt) : Prop := ALoop tP zyx (zyw K) (zhF t1 t2 t5) H
def zlv (t1 t2 t5 : AV) (H : zaa) (K : Kt) (Kb5 : Lt) : Prop :=
 zaf 1 t2 fun t16 =>
 zad false 1 t16 H fun t17 =>
 zah 1 t17 fun t18 =>
 zac .lss false t5 t18 fun t19 =>
 zag t19
 (zaf 1 t2 fun t22 =>
 zad false 1 t22 H fun t23 =>
 zaj 2 t23 t5 fun t25 =>
 zad true 2 t25 H fun t26 =>
 ACalls tP zgm [t26, t1] H fun t28 H =>
 aUn .not t28 fun t29 =>
 zag t29
 (K (.bool false) H)
 (zac .add false t5 (.int .i64 1) fun t21 =>
 Kb5 (zhF t1 t2 t21) H))
 (K (.bool true) H)
def zqV (t0 t1 : AV) (H : zaa) (K : Kt) : Prop :=
 zaq t0 H fun t2 H =>
 za5 t1 fun t7 =>
 zad false 1 t7 H fun t8 =>
 zac .sub false t8 (.int .i64 1) fun t9 =>
 za5 t1 fun t10 =>
 zak 1 t10 t9 H fun H =>
 za5 t1 fun t12 =>
 zad false 1 t12 H fun t13 =>
 zac .lss false t13 (.int .i64 0) fun t14 =>
 zag t14
 (K (.bool false) H)
 (zqW t1 t2 (.int .i64 0) H K)
theorem zyy {t1 t2 t5 : AV} {H : zaa} {K : Kt} (Inv : Nat → AV → zaa → Prop) (n : Nat) (h0 : HSc H → Inv n t5 H)
  (round : Rd1 (fun t5 => zhF t1 t2 t5) (fun t5 => fun H Kb5 => zlv t1 t2 t5 H K Kb5) H Inv) : zqW t1 t2 t5 H K :=
 lp1 (M := zhE) zyz t5 (by kernel_rfl) Inv n h0 round
theorem zyA {t0 t1 : AV} {H : zaa} {K : Kt} (h : HSc H → zqV t0 t1 H K) : ACalls tP zgm [t0, t1] H K :=
 zan (M := zhE) Tryz.func26 (c := zlw) (by kernel_rfl) (fun hs => Eq.mpr (by kernel_rfl) (h hs))
def zyD (_ : Nat) : List Bool := []
noncomputable def zyE : Code := Tryz.f27.body.getD .skip
def zqX (t0 t1 t2 : AV) (H : zaa) (K : Kt) : Prop :=
 zaq t1 H fun t4 H =>
 zaq t2 H fun t5 H =>
 zad true 3 t4 H fun t8 =>
 zad true 2 t5 H fun t9 =>
 ACalls tP zj2 [t0, t8, t9] H fun t10 H =>
 zac .geq false t10 (.int .i64 0) fun t11 =>
 K t11 H
theorem zyF {t0 t1 t2 : AV} {H : zaa} {K : Kt} (h : HSc H → zqX t0 t1 t2 H K) : ACalls tP zjX [t0, t1, t2] H K :=
 zan (M := zyD) Tryz.func27 (c := zyE) (by kernel_rfl) (fun hs => Eq.mpr (by kernel_rfl) (h hs))
def zz4 (_ : Nat) : List Bool := []
noncomputable def zz5 : Code := Tryz.f46.body.getD .skip
def zrt (t0 t1 t2 : AV) (H : zaa) (K : Kt) : Prop :=
 zaq t1 H fun t4 H =>
 zaq t2 H fun t5 H =>
 zad true 3 t4 H fun t10 =>
 ACalls tP zfp [t0, t10] H fun t11 H =>
 aUn .not t11 fun t12 =>
 zag t12
 (K (.int .i64 (-1)) H)
 (zad true 3 t4 H fun t15 =>
 zad true 2 t5 H fun t16 =>
 ACalls tP zgB [t0, t15, t16] H fun t17 H =>
 zas t17 0 fun t18 =>
 zas t17 1 fun t19 =>
 aUn .not t19 fun t21 =>
 zag t21
 (K (.int .i64 (-1)) H)
 (K t18 H))
theorem zz6 {t0 t1 t2 : AV} {H : zaa} {K : Kt} (h : HSc H → zrt t0 t1 t2 H K) : ACalls tP zj2 [t0, t1, t2] H K :=
 zan (M := zz4) Tryz.func46 (c := zz5) (by kernel_rfl) (fun hs => Eq.mpr (by kernel_rfl) (h hs))
def zxr (_ : Nat) : List Bool := []
noncomputable def zxs : Code := Tryz.f14.body.getD .skip
def zqr (t0 t1 t2 : AV) (H : zaa) (K : Kt) : Prop :=
 zaq t1 H fun t4 H =>
 zaq t2 H fun t5 H =>
 zad true 3 t4 H fun t8 =>
 ACalls tP zj1 [t0, t8] H fun t9 H =>
 aUn .not t9 fun t10 =>
 zag t10
 (K (.int .i64 (-1)) H)
 (zad true 3 t4 H fun t12 =>
 zad true 2 t5 H fun t13 =>
 ACalls tP zgp [t0, t12, t13] H fun t14 H =>
 K t14 H)
theorem zxt {t0 t1 t2 : AV} {H : zaa} {K : Kt} (h : HSc H → zqr t0 t1 t2 H K) : ACalls tP zeo [t0, t1, t2] H K :=
 zan (M := zxr) Tryz.func14 (c := zxs) (by kernel_rfl) (fun hs => Eq.mpr (by kernel_rfl) (h hs))
def zAz (_ : Nat) : List Bool := []
noncomputable def zAA : Code := Tryz.f52.body.getD .skip
def zrz (t0 t1 : AV) (H : zaa) (K : Kt) : Prop :=
 zaq t1 H fun t3 H =>
 zau [.snil, .snil, .snil, .snil] [(0, 1), (1, 1), (2, 1), (3, 1)] [(0, t0)] fun t6 =>
 ACalls tP zj8 [t6] H fun t7 H =>
 zab t7 true H (fun K' => K' t0 H) fun t9 H =>
 zab t7 true H (fun K' => zad true 3 t3 H (K' · H)) fun t10 H =>
 zab t7 true H (fun K' => ACalls tP zfq [t9, t10, (.int .i64 0)] H K') fun t11 H =>
 zai t7 t11 (.bool false) fun t12 =>
 K t12 H
theorem zAB {t0 t1 : AV} {H : zaa} {K : Kt} (h : HSc H → zrz t0 t1 H K) : ACalls tP zfp [t0, t1] H K :=
 zan (M := zAz) Tryz.func52 (c := zAA) (by kernel_rfl) (fun hs => Eq.mpr (by kernel_rfl) (h hs))
def ziB : Nat → List Bool
 | 13 => rl false [0,1,3,1,3,1,44,3,42]
 | _ => []
noncomputable def zmv : Code := Tryz.f68.body.getD .skip
noncomputable def zBC : List ResultVar := Tryz.f68.results.toList
def ziC (t0 t4 t8 t53 t54 t55 : AV) : List AV := t0 :: ux 3 (t4 :: ux 3 (t8 :: ux 44 (t53 :: t54 :: t55 :: ux 42 [])))
def zBA : List Bool := ziB 13
noncomputable def zBy : Code := zao [1, 0, 1, 0, 1, 1, 1, 1, 1, 0, 1, 1, 0, 1, 0, 0] zmv
def zBx (K : Kt) : AExit → List AV → zaa → Prop := zap tP ziB [1, 0, 1, 0, 1, 1, 1, 1, 1, 0, 1, 1, 0, 1, 0] zmv (zaw tP zBC K)
def zrW (t0 t4 t8 t53 t54 t55 : AV) (H : zaa) (K : Kt) : Prop := ALoop tP zBy (zBx K) (ziC t0 t4 t8 t53 t54 t55) H
def zmu (t0 t4 t8 t53 t54 t55 : AV) (H : zaa) (K : Kt) (Kb13 : Lt) : Prop :=
 zac .lss false t55 t54 fun t56 =>
 zag t56
 (zaj 2 t53 t55 fun t57 =>
 zad true 2 t57 H fun t58 =>
 zat [(.int .i64 0), .snil] H fun t10 H =>
 zak 2 t10 t58 H fun H =>
 zad true 3 t4 H fun t61 =>
 zaf 0 t10 fun t62 =>
 zad false 1 t62 H fun t63 =>
 ACalls tP zka [t0, t61, t63] H fun t64 H =>
 zas t64 0 fun t65 =>
 zas t64 1 fun t66 =>
 aUn .not t66 fun t68 =>
 zag t68
 (zav [(.int .i64 0), (.bool false)] (K · H))
 (zaf 1 t10 fun t72 =>
 zad false 1 t72 H fun t73 =>
 ACalls tP zgG [t0, t65, t73] H fun t74 H =>
 zas t74 0 fun t75 =>
 zas t74 1 fun t76 =>
 zac .add false (.int .i64 1) t75 fun t79 =>
 zac .add false t8 t79 fun t80 =>
 aUn .not t76 fun t82 =>
 zab t82 false H (fun K' => K' t80 H) fun t84 H =>
 zab t82 false H (fun K' => zac .gtr false t84 (.int .i64 6) (K' · H)) fun t85 H =>
 zai t82 (.bool true) t85 fun t86 =>
 zag t86
 (zav [(.int .i64 0), (.bool false)] (K · H))
 (zac .add false t55 (.int .i64 1) fun t87 =>
 Kb13 (ziC t0 t4 t80 t53 t54 t87) H)))
 (zav [t8, (.bool true)] (K · H))
def zcu (t0 t1 t2 : AV) (H : zaa) (K : Kt) : Prop :=
 zaq t1 H fun t4 H =>
 zaq t2 H fun t5 H =>
 zaf 0 t4 fun t14 =>
 zad false 1 t14 H fun t15 =>
 zac .eql false t15 (.int .i64 6) fun t17 =>
 zag t17
 (zaf 0 t5 fun t18 =>
 zad false 1 t18 H fun t19 =>
 zac .neq false t19 (.int .i64 0) fun t20 =>
 zag t20
 (zav [(.int .i64 0), (.bool false)] (K · H))
 (zaf 2 t4 fun t22 =>
 zad false 1 t22 H fun t23 =>
 zaf 1 t5 fun t24 =>
 zad false 1 t24 H fun t25 =>
 ACalls tP zgG [t0, t23, t25] H fun t26 H =>
 zas t26 0 fun t27 =>
 zas t26 1 fun t28 =>
 zav [t27, t28] (K · H)))
 (zac .eql false t15 (.int .i64 7) fun t30 =>
 zag t30
 (zae H (fun K' => zaf 0 t5 (K' · H)) fun t31 =>
 zae H (fun K' => zam false 1 t31 H (K' · H)) fun t32 =>
 zae H (fun K' => zaf 0 t5 (K' · H)) fun t33 =>
 zae H (fun K' => zam false 1 t33 H (K' · H)) fun t34 =>
 zae H (fun K' => zac .geq false t34 (.int .i64 0) (K' · H)) fun t35 =>
 zae H (fun K' => K' t35 H) fun t36 =>
 zab t36 true H (fun K' => zae H (fun K'' => zaf 0 t5 (K'' · H)) (K' · H)) fun t37 H =>
 zab t36 true H (fun K' => zae H (fun K'' => zam false 1 t37 H (K'' · H)) (K' · H)) fun t38 H =>
 zab t36 true H (fun K' => zae H (fun K'' => zac .leq false t38 (.int .i64 6) (K'' · H)) (K' · H)) fun t39 H =>
 zae H (fun K' => zai t36 t39 (.bool false) (K' · H)) fun t40 =>
 zae H (fun K' => K' t40 H) fun t41 =>
 zab t41 true H (fun K' => zae H (fun K'' => zaf 1 t5 (K'' · H)) (K' · H)) fun t42 H =>
 zab t41 true H (fun K' => zae H (fun K'' => zam false 1 t42 H (K'' · H)) (K' · H)) fun t43 H =>
 zab t41 true H (fun K' => zae H (fun K'' => zah 1 t43 (K'' · H)) (K' · H)) fun t44 H =>
 zab t41 true H (fun K' => zae H (fun K'' => zac .eql false t44 (.int .i64 0) (K'' · H)) (K' · H)) fun t45 H =>
 zae H (fun K' => zai t41 t45 (.bool false) (K' · H)) fun t46 =>
 zae H (fun K' => K' t32 H) fun t6 =>
 zae H (fun K' => K' t46 H) fun t7 =>
 zav [t6, t7] (K · H))
 (zac .eql false t15 (.int .i64 5) fun t48 =>
 zag t48
 (zaf 0 t5 fun t49 =>
 zad false 1 t49 H fun t50 =>
 zac .neq false t50 (.int .i64 0) fun t51 =>
 zag t51
 (zav [(.int .i64 0), (.bool false)] (K · H))
 (zaf 1 t5 fun t52 =>
 zad false 1 t52 H fun t53 =>
 zah 1 t53 fun t54 =>
 zrW t0 t4 (.int .i64 0) t53 t54 (.int .i64 0) H K))
 (zae H (fun K' => zaf 0 t5 (K' · H)) fun t89 =>
 zae H (fun K' => zam false 1 t89 H (K' · H)) fun t90 =>
 zae H (fun K' => zac .eql false t90 (.int .i64 0) (K' · H)) fun t91 =>
 zae H (fun K' => K' t91 H) fun t92 =>
 zab t92 true H (fun K' => zae H (fun K'' => zaf 1 t5 (K'' · H)) (K' · H)) fun t93 H =>
 zab t92 true H (fun K' => zae H (fun K'' => zam false 1 t93 H (K'' · H)) (K' · H)) fun t94 H =>
 zab t92 true H (fun K' => zae H (fun K'' => zah 1 t94 (K'' · H)) (K' · H)) fun t95 H =>
 zab t92 true H (fun K' => zae H (fun K'' => zac .eql false t95 (.int .i64 0) (K'' · H)) (K' · H)) fun t96 H =>
 zae H (fun K' => zai t92 t96 (.bool false) (K' · H)) fun t97 =>
 zae H (fun K' => K' (.int .i64 0) H) fun t6 =>
 zae H (fun K' => K' t97 H) fun t7 =>
 zav [t6, t7] (K · H))))
theorem zBz {t0 t4 t8 t53 t54 t55 : AV} {H : zaa} {K : Kt} (Inv : Nat → AV → AV → zaa → Prop) (n : Nat) (h0 : HSc H → Inv n t8 t55 H)
  (round : Rd2 (fun t8 => fun t55 => ziC t0 t4 t8 t53 t54 t55) (fun t8 => fun t55 => fun H Kb13 => zmu t0 t4 t8 t53 t54 t55 H K Kb13) H Inv) : zrW t0 t4 t8 t53 t54 t55 H K :=
 lp2 (M := ziB) zBA t8 t55 (by kernel_rfl) Inv n h0 round
theorem zBB {t0 t1 t2 : AV} {H : zaa} {K : Kt} (h : HSc H → zcu t0 t1 t2 H K) : ACalls tP zgB [t0, t1, t2] H K :=
 zan (M := ziB) Tryz.func68 (c := zmv) (by kernel_rfl) (fun hs => Eq.mpr (by kernel_rfl) (h hs))
def zzA (_ : Nat) : List Bool := []
noncomputable def zzB : Code := Tryz.f39.body.getD .skip
def zrn (t0 t1 : AV) (H : zaa) (K : Kt) : Prop :=
 zaq t1 H fun t3 H =>
 ACalls tP zj5 [t0] H fun t6 H =>
 zab t6 true H (fun K' => K' t0 H) fun t8 H =>
 zab t6 true H (fun K' => zad true 3 t3 H (K' · H)) fun t9 H =>
 zab t6 true H (fun K' => ACalls tP zgy [t8, t9, (.int .i64 0)] H K') fun t10 H =>
 zai t6 t10 (.bool false) fun t11 =>
 K t11 H
theorem zzC {t0 t1 : AV} {H : zaa} {K : Kt} (h : HSc H → zrn t0 t1 H K) : ACalls tP zj1 [t0, t1] H K :=
 zan (M := zzA) Tryz.func39 (c := zzB) (by kernel_rfl) (fun hs => Eq.mpr (by kernel_rfl) (h hs))
def zh0 : Nat → List Bool
 | 15 => rl false [0,1,3,1,2,1,48,3,50]
 | _ => []
noncomputable def zlO : Code := Tryz.f40.body.getD .skip
noncomputable def zzJ : List ResultVar := Tryz.f40.results.toList
def zh1 (t0 t4 t7 t56 t57 t58 : AV) : List AV := t0 :: ux 3 (t4 :: ux 2 (t7 :: ux 48 (t56 :: t57 :: t58 :: ux 50 [])))
def zzH : List Bool := zh0 15
noncomputable def zzF : Code := zao [1, 0, 1, 0, 1, 1, 1, 1, 1, 0, 1, 1, 0, 1, 0, 0] zlO
def zzE (K : Kt) : AExit → List AV → zaa → Prop := zap tP zh0 [1, 0, 1, 0, 1, 1, 1, 1, 1, 0, 1, 1, 0, 1, 0] zlO (zaw tP zzJ K)
def zro (t0 t4 t7 t56 t57 t58 : AV) (H : zaa) (K : Kt) : Prop := ALoop tP zzF (zzE K) (zh1 t0 t4 t7 t56 t57 t58) H
def zfM (t0 t4 t7 t56 t57 t58 : AV) (H : zaa) (K : Kt) (Kb15 : Lt) : Prop :=
 zac .lss false t58 t57 fun t59 =>
 zag t59
 (zaj 2 t56 t58 fun t60 =>
 zad true 2 t60 H fun t61 =>
 zat [(.int .i64 0), .snil] H fun t9 H =>
 zak 2 t9 t61 H fun H =>
 zaf 0 t9 fun t62 =>
 zad false 1 t62 H fun t63 =>
 zac .lss false t63 (.int .i64 0) fun t64 =>
 zab t64 false H (fun K' => zaf 0 t9 (K' · H)) fun t66 H =>
 zab t64 false H (fun K' => zad false 1 t66 H (K' · H)) fun t67 H =>
 zab t64 false H (fun K' => zac .geq false t67 (.int .i64 8) (K' · H)) fun t68 H =>
 zai t64 (.bool true) t68 fun t69 =>
 zag t69
 (K (.int .i64 (-1)) H)
 (zad true 3 t4 H fun t72 =>
 zaf 0 t9 fun t73 =>
 zad false 1 t73 H fun t74 =>
 ACalls tP zj6 [t0, t72, t74] H fun t75 H =>
 zas t75 0 fun t76 =>
 zas t75 1 fun t77 =>
 aUn .not t77 fun t79 =>
 zag t79
 (K (.int .i64 (-1)) H)
 (zaf 1 t9 fun t82 =>
 zad false 1 t82 H fun t83 =>
 ACalls tP zgz [t0, t76, t83] H fun t84 H =>
 zac .lss false t84 (.int .i64 0) fun t86 =>
 zab t86 false H (fun K' => K' t7 H) fun t88 H =>
 zab t86 false H (fun K' => zac .add false t88 (.int .i64 1) (K' · H)) fun t89 H =>
 zab t86 false H (fun K' => K' t84 H) fun t90 H =>
 zab t86 false H (fun K' => zac .add false t89 t90 (K' · H)) fun t91 H =>
 zab t86 false H (fun K' => zac .gtr false t91 (.int .i64 6) (K' · H)) fun t92 H =>
 zai t86 (.bool true) t92 fun t93 =>
 zag t93
 (K (.int .i64 (-1)) H)
 (zac .add false (.int .i64 1) t84 fun t96 =>
 zac .add false t7 t96 fun t97 =>
 zac .add false t58 (.int .i64 1) fun t98 =>
 Kb15 (zh1 t0 t4 t97 t56 t57 t98) H))))
 (K t7 H)
def zch (t0 t1 t2 : AV) (H : zaa) (K : Kt) : Prop :=
 zaq t1 H fun t4 H =>
 zaq t2 H fun t5 H =>
 zaf 0 t4 fun t13 =>
 zad false 1 t13 H fun t14 =>
 zac .eql false t14 (.int .i64 6) fun t16 =>
 zag t16
 (zaf 0 t5 fun t17 =>
 zad false 1 t17 H fun t18 =>
 zac .neq false t18 (.int .i64 0) fun t19 =>
 zag t19
 (K (.int .i64 (-1)) H)
 (zaf 2 t4 fun t21 =>
 zad false 1 t21 H fun t22 =>
 zaf 1 t5 fun t23 =>
 zad false 1 t23 H fun t24 =>
 ACalls tP zgz [t0, t22, t24] H fun t25 H =>
 K t25 H))
 (zac .eql false t14 (.int .i64 7) fun t27 =>
 zag t27
 (zaf 0 t5 fun t28 =>
 zad false 1 t28 H fun t29 =>
 zac .lss false t29 (.int .i64 0) fun t30 =>
 zab t30 false H (fun K' => zaf 0 t5 (K' · H)) fun t32 H =>
 zab t30 false H (fun K' => zad false 1 t32 H (K' · H)) fun t33 H =>
 zab t30 false H (fun K' => zac .gtr false t33 (.int .i64 6) (K' · H)) fun t34 H =>
 zai t30 (.bool true) t34 fun t35 =>
 zab t35 false H (fun K' => zaf 1 t5 (K' · H)) fun t37 H =>
 zab t35 false H (fun K' => zad false 1 t37 H (K' · H)) fun t38 H =>
 zab t35 false H (fun K' => zah 1 t38 (K' · H)) fun t39 H =>
 zab t35 false H (fun K' => zac .gtr false t39 (.int .i64 0) (K' · H)) fun t40 H =>
 zai t35 (.bool true) t40 fun t41 =>
 zag t41
 (K (.int .i64 (-1)) H)
 (zaf 0 t5 fun t42 =>
 zad false 1 t42 H fun t43 =>
 K t43 H))
 (zac .eql false t14 (.int .i64 5) fun t45 =>
 zag t45
 (zaf 0 t5 fun t46 =>
 zad false 1 t46 H fun t47 =>
 zac .neq false t47 (.int .i64 0) fun t48 =>
 zab t48 false H (fun K' => zaf 1 t5 (K' · H)) fun t50 H =>
 zab t48 false H (fun K' => zad false 1 t50 H (K' · H)) fun t51 H =>
 zab t48 false H (fun K' => zah 1 t51 (K' · H)) fun t52 H =>
 zab t48 false H (fun K' => zac .gtr false t52 (.int .i64 6) (K' · H)) fun t53 H =>
 zai t48 (.bool true) t53 fun t54 =>
 zag t54
 (K (.int .i64 (-1)) H)
 (zaf 1 t5 fun t55 =>
 zad false 1 t55 H fun t56 =>
 zah 1 t56 fun t57 =>
 zro t0 t4 (.int .i64 0) t56 t57 (.int .i64 0) H K))
 (zaf 0 t5 fun t100 =>
 zad false 1 t100 H fun t101 =>
 zac .neq false t101 (.int .i64 0) fun t102 =>
 zab t102 false H (fun K' => zaf 1 t5 (K' · H)) fun t104 H =>
 zab t102 false H (fun K' => zad false 1 t104 H (K' · H)) fun t105 H =>
 zab t102 false H (fun K' => zah 1 t105 (K' · H)) fun t106 H =>
 zab t102 false H (fun K' => zac .gtr false t106 (.int .i64 0) (K' · H)) fun t107 H =>
 zai t102 (.bool true) t107 fun t108 =>
 zag t108
 (K (.int .i64 (-1)) H)
 (K (.int .i64 0) H))))
theorem zzG {t0 t4 t7 t56 t57 t58 : AV} {H : zaa} {K : Kt} (Inv : Nat → AV → AV → zaa → Prop) (n : Nat) (h0 : HSc H → Inv n t7 t58 H)
  (round : Rd2 (fun t7 => fun t58 => zh1 t0 t4 t7 t56 t57 t58) (fun t7 => fun t58 => fun H Kb15 => zfM t0 t4 t7 t56 t57 t58 H K Kb15) H Inv) : zro t0 t4 t7 t56 t57 t58 H K :=
 lp2 (M := zh0) zzH t7 t58 (by kernel_rfl) Inv n h0 round
theorem zzI {t0 t1 t2 : AV} {H : zaa} {K : Kt} (h : HSc H → zch t0 t1 t2 H K) : ACalls tP zgp [t0, t1, t2] H K :=
 zan (M := zh0) Tryz.func40 (c := zlO) (by kernel_rfl) (fun hs => Eq.mpr (by kernel_rfl) (h hs))
def ziO : Nat → List Bool
 | 5 => rl false [0,1,1,1,5,1,9,3,23]
 | _ => []
noncomputable def zmH : Code := Tryz.f87.body.getD .skip
noncomputable def zCv : List ResultVar := Tryz.f87.results.toList
def ziP (t0 t2 t8 t18 t19 t20 : AV) : List AV := t0 :: ux 1 (t2 :: ux 5 (t8 :: ux 9 (t18 :: t19 :: t20 :: ux 23 [])))
def zCt : List Bool := ziO 5
noncomputable def zCr : Code := zao [1, 1, 1, 0, 1, 0, 0] zmH
def zCq (K : Kt) : AExit → List AV → zaa → Prop := zap tP ziO [1, 1, 1, 0, 1, 0] zmH (zaw tP zCv K)
def zsc (t0 t2 t8 t18 t19 t20 : AV) (H : zaa) (K : Kt) : Prop := ALoop tP zCr (zCq K) (ziP t0 t2 t8 t18 t19 t20) H
def zmG (t0 t2 t8 t18 t19 t20 : AV) (H : zaa) (K : Kt) (Kb5 : Lt) : Prop :=
 zac .lss false t20 t19 fun t21 =>
 zag t21
 (zaj 3 t18 t20 fun t23 =>
 zad true 3 t23 H fun t24 =>
 zat [(.int .i64 0), (.int .i64 0), .snil] H fun t10 H =>
 zak 3 t10 t24 H fun H =>
 zae H (fun K' => K' t0 H) fun t26 =>
 zae H (fun K' => zam true 3 t10 H (K' · H)) fun t27 =>
 zae H (fun K' => K' t2 H) fun t28 =>
 zae H (fun K' => K' t20 H) fun t29 =>
 zae H (fun K' => zaj 2 t28 t29 (K' · H)) fun t30 =>
 zae H (fun K' => zam true 2 t30 H (K' · H)) fun t31 =>
 zbs H (fun H K' => ACalls tP zgB [t26, t27, t31] H K') fun t32 =>
 zae H (fun K' => K' t32 H) fun t25 =>
 zae H (fun K' => zas t25 0 (K' · H)) fun t33 =>
 zae H (fun K' => zas t25 1 (K' · H)) fun t34 =>
 zae H (fun K' => K' t33 H) fun t11 =>
 zae H (fun K' => K' t34 H) fun t12 =>
 aUn .not t12 fun t36 =>
 zag t36
 (zav [(.int .i64 0), (.bool false)] (K · H))
 (zac .add false t8 t11 fun t39 =>
 zac .add false t20 (.int .i64 1) fun t40 =>
 Kb5 (ziP t0 t2 t39 t18 t19 t40) H))
 (zac .leq false t8 (.int .i64 6) fun t43 =>
 zav [t8, t43] (K · H))
def zmF (t0 t1 t2 : AV) (H : zaa) (K : Kt) : Prop :=
 zah 1 t1 fun t14 =>
 zah 1 t2 fun t16 =>
 zac .neq false t14 t16 fun t17 =>
 zag t17
 (zav [(.int .i64 0), (.bool false)] (K · H))
 (zah 1 t1 fun t19 =>
 zsc t0 t2 (.int .i64 0) t1 t19 (.int .i64 0) H K)
theorem zCs {t0 t2 t8 t18 t19 t20 : AV} {H : zaa} {K : Kt} (Inv : Nat → AV → AV → zaa → Prop) (n : Nat) (h0 : HSc H → Inv n t8 t20 H)
  (round : Rd2 (fun t8 => fun t20 => ziP t0 t2 t8 t18 t19 t20) (fun t8 => fun t20 => fun H Kb5 => zmG t0 t2 t8 t18 t19 t20 H K Kb5) H Inv) : zsc t0 t2 t8 t18 t19 t20 H K :=
 lp2 (M := ziO) zCt t8 t20 (by kernel_rfl) Inv n h0 round
theorem zCu {t0 t1 t2 : AV} {H : zaa} {K : Kt} (h : HSc H → zmF t0 t1 t2 H K) : ACalls tP zgG [t0, t1, t2] H K :=
 zan (M := ziO) Tryz.func87 (c := zmH) (by kernel_rfl) (fun hs => Eq.mpr (by kernel_rfl) (h hs))
def ziQ : Nat → List Bool
 | 6 => rl false [8,1,1,1,15,3,15]
 | _ => []
noncomputable def zmJ : Code := Tryz.f88.body.getD .skip
noncomputable def zCB : List ResultVar := Tryz.f88.results.toList
def ziR (t8 t10 t26 t27 t28 : AV) : List AV := ux 8 (t8 :: ux 1 (t10 :: ux 15 (t26 :: t27 :: t28 :: ux 15 [])))
def zCz : List Bool := ziQ 6
noncomputable def zCx : Code := zao [1, 1, 1, 1, 0, 1, 0, 0] zmJ
def zCw (K : Kt) : AExit → List AV → zaa → Prop := zap tP ziQ [1, 1, 1, 1, 0, 1, 0] zmJ (zaw tP zCB K)
def ziT (t8 t10 t26 t27 t28 : AV) (H : zaa) (K : Kt) : Prop := ALoop tP zCx (zCw K) (ziR t8 t10 t26 t27 t28) H
def zsf (t8 t10 t26 t27 t28 : AV) (H : zaa) (K : Kt) (Kb6 : Lt) : Prop :=
 zac .add false t28 (.int .i64 1) fun t42 =>
 Kb6 (ziR t8 t10 t26 t27 t42) H
def ziS (t8 t10 t26 t27 t28 : AV) (H : zaa) (K : Kt) (Kb6 : Lt) : Prop :=
 zsf t8 t10 t26 t27 t28 H K Kb6
def zmI (t8 t10 t26 t27 t28 : AV) (H : zaa) (K : Kt) (Kb6 : Lt) : Prop :=
 zac .lss false t28 t27 fun t29 =>
 zag t29
 (zaj 1 t26 t28 fun t31 =>
 zad false 1 t31 H fun t32 =>
 aUn .not t32 fun t34 =>
 zag t34
 (zaj 3 t8 t28 fun t38 =>
 zad true 3 t38 H fun t39 =>
 zax 3 [(.int .i64 0), (.int .i64 0), .snil] 1 [(0, t39)] fun t40 =>
 zar zaK 3 40 t10 t40 H fun t41 H =>
 ziS t8 t41 t26 t27 t28 H K Kb6)
 (ziS t8 t10 t26 t27 t28 H K Kb6))
 (zav [t10, (.bool true)] (K · H))
def zse (t0 t1 t2 : AV) (H : zaa) (K : Kt) : Prop :=
 zaq t1 H fun t4 H =>
 zad true 3 t4 H fun t15 =>
 ACalls tP zfl [t0, t15, t2] H fun t17 H =>
 zas t17 0 fun t18 =>
 zas t17 1 fun t19 =>
 aUn .not t19 fun t21 =>
 zag t21
 (zav [.snil, (.bool false)] (K · H))
 (zaf 1 t4 fun t23 =>
 zad false 1 t23 H fun t24 =>
 ACalls tP zcV [t0, t24, t2] H fun t26 H =>
 zah 1 t26 fun t27 =>
 ziT t18 .snil t26 t27 (.int .i64 0) H K)
theorem zCy {t8 t10 t26 t27 t28 : AV} {H : zaa} {K : Kt} (Inv : Nat → AV → AV → zaa → Prop) (n : Nat) (h0 : HSc H → Inv n t10 t28 H)
  (round : Rd2 (fun t10 => fun t28 => ziR t8 t10 t26 t27 t28) (fun t10 => fun t28 => fun H Kb6 => zmI t8 t10 t26 t27 t28 H K Kb6) H Inv) : ziT t8 t10 t26 t27 t28 H K :=
 lp2 (M := ziQ) zCz t10 t28 (by kernel_rfl) Inv n h0 round
theorem zCA {t0 t1 t2 : AV} {H : zaa} {K : Kt} (h : HSc H → zse t0 t1 t2 H K) : ACalls tP zka [t0, t1, t2] H K :=
 zan (M := ziQ) Tryz.func88 (c := zmJ) (by kernel_rfl) (fun hs => Eq.mpr (by kernel_rfl) (h hs))
def ziw : Nat → List Bool
 | 7 => rl false [8,1,4,1,19,3,12]
 | _ => []
noncomputable def zmr : Code := Tryz.f66.body.getD .skip
noncomputable def zBp : List ResultVar := Tryz.f66.results.toList
def zix (t8 t13 t33 t34 t35 : AV) : List AV := ux 8 (t8 :: ux 4 (t13 :: ux 19 (t33 :: t34 :: t35 :: ux 12 [])))
def zBn : List Bool := ziw 7
noncomputable def zBl : Code := zao [1, 1, 1, 1, 1, 0, 1, 0, 0] zmr
def zBk (K : Kt) : AExit → List AV → zaa → Prop := zap tP ziw [1, 1, 1, 1, 1, 0, 1, 0] zmr (zaw tP zBp K)
def ziy (t8 t13 t33 t34 t35 : AV) (H : zaa) (K : Kt) : Prop := ALoop tP zBl (zBk K) (zix t8 t13 t33 t34 t35) H
def zmq (t8 t13 t33 t34 t35 : AV) (H : zaa) (K : Kt) (Kb7 : Lt) : Prop :=
 zac .lss false t35 t34 fun t36 =>
 zag t36
 (zaj 1 t33 t35 fun t37 =>
 zad false 1 t37 H fun t38 =>
 zaj 3 t8 t38 fun t42 =>
 zad true 3 t42 H fun t43 =>
 zax 3 [(.int .i64 0), (.int .i64 0), .snil] 1 [(0, t43)] fun t44 =>
 zar zaK 3 40 t13 t44 H fun t45 H =>
 zac .add false t35 (.int .i64 1) fun t46 =>
 Kb7 (zix t8 t45 t33 t34 t46) H)
 (zav [t13, (.bool true)] (K · H))
def zrT (t0 t1 t2 : AV) (H : zaa) (K : Kt) : Prop :=
 zaq t1 H fun t4 H =>
 zad true 3 t4 H fun t18 =>
 ACalls tP zfh [t0, t18, t2] H fun t20 H =>
 zas t20 0 fun t21 =>
 zas t20 1 fun t22 =>
 aUn .not t22 fun t24 =>
 zag t24
 (zav [.snil, (.bool false)] (K · H))
 (zad true 3 t4 H fun t27 =>
 ACalls tP zj7 [t0, t27, t2] H fun t29 H =>
 zas t29 0 fun t30 =>
 zas t29 1 fun t31 =>
 zas t29 2 fun t32 =>
 zah 1 t30 fun t34 =>
 ziy t21 .snil t30 t34 (.int .i64 0) H K)
theorem zBm {t8 t13 t33 t34 t35 : AV} {H : zaa} {K : Kt} (Inv : Nat → AV → AV → zaa → Prop) (n : Nat) (h0 : HSc H → Inv n t13 t35 H)
  (round : Rd2 (fun t13 => fun t35 => zix t8 t13 t33 t34 t35) (fun t13 => fun t35 => fun H Kb7 => zmq t8 t13 t33 t34 t35 H K Kb7) H Inv) : ziy t8 t13 t33 t34 t35 H K :=
 lp2 (M := ziw) zBn t13 t35 (by kernel_rfl) Inv n h0 round
theorem zBo {t0 t1 t2 : AV} {H : zaa} {K : Kt} (h : HSc H → zrT t0 t1 t2 H K) : ACalls tP zj6 [t0, t1, t2] H K :=
 zan (M := ziw) Tryz.func66 (c := zmr) (by kernel_rfl) (fun hs => Eq.mpr (by kernel_rfl) (h hs))
def ziD : Nat → List Bool
 | 6 => rl false [11,2,15,3,16]
 | _ => []
noncomputable def zmw : Code := Tryz.f69.body.getD .skip
noncomputable def zBJ : List ResultVar := Tryz.f69.results.toList
def ziF (t11 t12 t28 t29 t30 : AV) : List AV := ux 11 (t11 :: t12 :: ux 15 (t28 :: t29 :: t30 :: ux 16 []))
def zBH : List Bool := ziD 6
noncomputable def zBF : Code := zao [1, 1, 1, 0, 1, 0, 0] zmw
def zBE (K : Kt) : AExit → List AV → zaa → Prop := zap tP ziD [1, 1, 1, 0, 1, 0] zmw (zaw tP zBJ K)
def ziH (t11 t12 t28 t29 t30 : AV) (H : zaa) (K : Kt) : Prop := ALoop tP zBF (zBE K) (ziF t11 t12 t28 t29 t30) H
def zrY (t11 t12 t28 t29 t30 : AV) (H : zaa) (K : Kt) (Kb6 : Lt) : Prop :=
 zac .add false t30 (.int .i64 1) fun t44 =>
 Kb6 (ziF t11 t12 t28 t29 t44) H
def ziG (t11 t12 t28 t29 t30 : AV) (H : zaa) (K : Kt) (Kb6 : Lt) : Prop :=
 zrY t11 t12 t28 t29 t30 H K Kb6
def ziE (t11 t12 t28 t29 t30 : AV) (H : zaa) (K : Kt) (Kb6 : Lt) : Prop :=
 zac .lss false t30 t29 fun t31 =>
 zag t31
 (zaj 1 t28 t30 fun t33 =>
 zad false 1 t33 H fun t34 =>
 zag t34
 (zax 1 [(.int .i64 0)] 1 [(0, t30)] fun t38 =>
 zar zaT 1 8 t12 t38 H fun t39 H =>
 ziG t11 t39 t28 t29 t30 H K Kb6)
 (zax 1 [(.int .i64 0)] 1 [(0, t30)] fun t42 =>
 zar zaT 1 8 t11 t42 H fun t43 H =>
 ziG t43 t12 t28 t29 t30 H K Kb6))
 (zav [t11, t12, (.bool true)] (K · H))
def zrX (t0 t1 t2 : AV) (H : zaa) (K : Kt) : Prop :=
 zaq t1 H fun t4 H =>
 zad true 3 t4 H fun t17 =>
 ACalls tP zfh [t0, t17, t2] H fun t19 H =>
 zas t19 0 fun t20 =>
 zas t19 1 fun t21 =>
 aUn .not t21 fun t23 =>
 zag t23
 (zav [.snil, .snil, (.bool false)] (K · H))
 (zaf 1 t4 fun t25 =>
 zad false 1 t25 H fun t26 =>
 ACalls tP zer [t0, t26, t2] H fun t28 H =>
 zah 1 t28 fun t29 =>
 ziH .snil .snil t28 t29 (.int .i64 0) H K)
theorem zBG {t11 t12 t28 t29 t30 : AV} {H : zaa} {K : Kt} (Inv : Nat → AV → AV → AV → zaa → Prop) (n : Nat) (h0 : HSc H → Inv n t11 t12 t30 H)
  (round : Rd3 (fun t11 => fun t12 => fun t30 => ziF t11 t12 t28 t29 t30) (fun t11 => fun t12 => fun t30 => fun H Kb6 => ziE t11 t12 t28 t29 t30 H K Kb6) H Inv) : ziH t11 t12 t28 t29 t30 H K :=
 lp3 (M := ziD) zBH t11 t12 t30 (by kernel_rfl) Inv n h0 round
theorem zBI {t0 t1 t2 : AV} {H : zaa} {K : Kt} (h : HSc H → zrX t0 t1 t2 H K) : ACalls tP zj7 [t0, t1, t2] H K :=
 zan (M := ziD) Tryz.func69 (c := zmw) (by kernel_rfl) (fun hs => Eq.mpr (by kernel_rfl) (h hs))
def ziu : Nat → List Bool
 | 5 => rl false [0,3,4,1,8,2,25]
 | _ => []
noncomputable def zmp : Code := Tryz.f65.body.getD .skip
noncomputable def zBj : List ResultVar := Tryz.f65.results.toList
def ziv (t0 t1 t2 t7 t16 t17 : AV) : List AV := t0 :: t1 :: t2 :: ux 4 (t7 :: ux 8 (t16 :: t17 :: ux 25 []))
def zBh : List Bool := ziu 5
noncomputable def zBf : Code := zao [1, 1, 1, 0, 1, 0, 0] zmp
def zBe (K : Kt) : AExit → List AV → zaa → Prop := zap tP ziu [1, 1, 1, 0, 1, 0] zmp (zaw tP zBj K)
def zrR (t0 t1 t2 t7 t16 t17 : AV) (H : zaa) (K : Kt) : Prop := ALoop tP zBf (zBe K) (ziv t0 t1 t2 t7 t16 t17) H
def zmo (t0 t1 t2 t7 t16 t17 : AV) (H : zaa) (K : Kt) (Kb5 : Lt) : Prop :=
 zac .lss false t17 t16 fun t18 =>
 zag t18
 (zae H (fun K' => K' t0 H) fun t20 =>
 zae H (fun K' => K' t1 H) fun t21 =>
 zae H (fun K' => K' t17 H) fun t22 =>
 zae H (fun K' => zaj 3 t21 t22 (K' · H)) fun t23 =>
 zae H (fun K' => zam true 3 t23 H (K' · H)) fun t24 =>
 zae H (fun K' => K' t2 H) fun t25 =>
 zae H (fun K' => K' t17 H) fun t26 =>
 zae H (fun K' => zaj 2 t25 t26 (K' · H)) fun t27 =>
 zae H (fun K' => zam true 2 t27 H (K' · H)) fun t28 =>
 zbs H (fun H K' => ACalls tP zgp [t20, t24, t28] H K') fun t29 =>
 zae H (fun K' => K' t29 H) fun t9 =>
 zac .lss false t9 (.int .i64 0) fun t31 =>
 zab t31 false H (fun K' => K' t7 H) fun t33 H =>
 zab t31 false H (fun K' => K' t9 H) fun t34 H =>
 zab t31 false H (fun K' => zac .add false t33 t34 (K' · H)) fun t35 H =>
 zab t31 false H (fun K' => zac .gtr false t35 (.int .i64 6) (K' · H)) fun t36 H =>
 zai t31 (.bool true) t36 fun t37 =>
 zag t37
 (K (.int .i64 (-1)) H)
 (zac .add false t7 t9 fun t40 =>
 zac .add false t17 (.int .i64 1) fun t41 =>
 Kb5 (ziv t0 t1 t2 t40 t16 t41) H))
 (K t7 H)
def zmn (t0 t1 t2 : AV) (H : zaa) (K : Kt) : Prop :=
 zah 1 t1 fun t11 =>
 zah 1 t2 fun t13 =>
 zac .neq false t11 t13 fun t14 =>
 zag t14
 (K (.int .i64 (-1)) H)
 (zah 1 t1 fun t16 =>
 zrR t0 t1 t2 (.int .i64 0) t16 (.int .i64 0) H K)
theorem zBg {t0 t1 t2 t7 t16 t17 : AV} {H : zaa} {K : Kt} (Inv : Nat → AV → AV → zaa → Prop) (n : Nat) (h0 : HSc H → Inv n t7 t17 H)
  (round : Rd2 (fun t7 => fun t17 => ziv t0 t1 t2 t7 t16 t17) (fun t7 => fun t17 => fun H Kb5 => zmo t0 t1 t2 t7 t16 t17 H K Kb5) H Inv) : zrR t0 t1 t2 t7 t16 t17 H K :=
 lp2 (M := ziu) zBh t7 t17 (by kernel_rfl) Inv n h0 round
theorem zBi {t0 t1 t2 : AV} {H : zaa} {K : Kt} (h : HSc H → zmn t0 t1 t2 H K) : ACalls tP zgz [t0, t1, t2] H K :=
 zan (M := ziu) Tryz.func65 (c := zmp) (by kernel_rfl) (fun hs => Eq.mpr (by kernel_rfl) (h hs))
end Go.Proofs.YtacebbdfgbfgiaaGreat

namespace Go.Proofs.YtacebbdfgbfgiaaGreat
open Go Go.Abs
set_option maxRecDepth 100000
def ziU : Nat → List Bool
 | 5 => rl false [0,2,5,1,32,3,16]
 | _ => []
noncomputable def zmL : Code := Tryz.f89.body.getD .skip
noncomputable def zCI : List ResultVar := Tryz.f89.results.toList
def ziV (t0 t1 t7 t40 t41 t42 : AV) : List AV := t0 :: t1 :: ux 5 (t7 :: ux 32 (t40 :: t41 :: t42 :: ux 16 []))
def zCG : List Bool := ziU 5
noncomputable def zCE : Code := zao [1, 1, 1, 0, 1, 0, 0] zmL
def zCD (K : Kt) : AExit → List AV → zaa → Prop := zap tP ziU [1, 1, 1, 0, 1, 0] zmL (zaw tP zCI K)
def ziW (t0 t1 t7 t40 t41 t42 : AV) (H : zaa) (K : Kt) : Prop := ALoop tP zCE (zCD K) (ziV t0 t1 t7 t40 t41 t42) H
def zmK (t0 t1 t7 t40 t41 t42 : AV) (H : zaa) (K : Kt) (Kb5 : Lt) : Prop :=
 zac .lss false t42 t41 fun t43 =>
 zag t43
 (zaj 3 t40 t42 fun t44 =>
 zad true 3 t44 H fun t45 =>
 zat [(.int .i64 0), (.int .i64 0), .snil] H fun t9 H =>
 zak 3 t9 t45 H fun H =>
 zae H (fun K' => K' t7 H) fun t46 =>
 zae H (fun K' => zam true 3 t9 H (K' · H)) fun t47 =>
 zae H (fun K' => K' t1 H) fun t48 =>
 zae H (fun K' => K' t0 H) fun t49 =>
 zae H (fun K' => K' t1 H) fun t50 =>
 zae H (fun K' => zaj 3 t49 t50 (K' · H)) fun t51 =>
 zae H (fun K' => zaf 1 t51 (K' · H)) fun t52 =>
 zae H (fun K' => zam false 1 t52 H (K' · H)) fun t53 =>
 zbs H (fun H K' => ACalls tP zgE [t47, t48, t53] H K') fun t54 =>
 zae H (fun K' => zax 1 [(.bool false)] 1 [(0, t54)] (K' · H)) fun t55 =>
 zar zeh 1 1 t46 t55 H fun t56 H =>
 zae H (fun K' => K' t56 H) fun t7 =>
 zac .add false t42 (.int .i64 1) fun t57 =>
 Kb5 (ziV t0 t1 t7 t40 t41 t57) H)
 (K t7 H)
def zsg (t0 t1 t2 : AV) (H : zaa) (K : Kt) : Prop :=
 zac .lss false t1 (.int .i64 0) fun t11 =>
 zab t11 false H (fun K' => K' t1 H) fun t13 H =>
 zab t11 false H (fun K' => K' t0 H) fun t14 H =>
 zab t11 false H (fun K' => zah 1 t14 (K' · H)) fun t15 H =>
 zab t11 false H (fun K' => zac .geq false t13 t15 (K' · H)) fun t16 H =>
 zai t11 (.bool true) t16 fun t17 =>
 zab t17 false H (fun K' => K' t2 H) fun t19 H =>
 zab t17 false H (fun K' => zac .lss false t19 (.int .i64 0) (K' · H)) fun t20 H =>
 zai t17 (.bool true) t20 fun t21 =>
 zab t21 false H (fun K' => K' t2 H) fun t23 H =>
 zab t21 false H (fun K' => K' t0 H) fun t24 H =>
 zab t21 false H (fun K' => K' t1 H) fun t25 H =>
 zab t21 false H (fun K' => zaj 3 t24 t25 (K' · H)) fun t26 H =>
 zab t21 false H (fun K' => zaf 2 t26 (K' · H)) fun t27 H =>
 zab t21 false H (fun K' => zad false 1 t27 H (K' · H)) fun t28 H =>
 zab t21 false H (fun K' => zah 1 t28 (K' · H)) fun t29 H =>
 zab t21 false H (fun K' => zac .geq false t23 t29 (K' · H)) fun t30 H =>
 zai t21 (.bool true) t30 fun t31 =>
 zag t31
 (K .snil H)
 (zaj 3 t0 t1 fun t34 =>
 zaf 2 t34 fun t35 =>
 zad false 1 t35 H fun t36 =>
 zaj 2 t36 t2 fun t38 =>
 zaf 1 t38 fun t39 =>
 zad false 1 t39 H fun t40 =>
 zah 1 t40 fun t41 =>
 ziW t0 t1 .snil t40 t41 (.int .i64 0) H K)
theorem zCF {t0 t1 t7 t40 t41 t42 : AV} {H : zaa} {K : Kt} (Inv : Nat → AV → AV → zaa → Prop) (n : Nat) (h0 : HSc H → Inv n t7 t42 H)
  (round : Rd2 (fun t7 => fun t42 => ziV t0 t1 t7 t40 t41 t42) (fun t7 => fun t42 => fun H Kb5 => zmK t0 t1 t7 t40 t41 t42 H K Kb5) H Inv) : ziW t0 t1 t7 t40 t41 t42 H K :=
 lp2 (M := ziU) zCG t7 t42 (by kernel_rfl) Inv n h0 round
theorem zCH {t0 t1 t2 : AV} {H : zaa} {K : Kt} (h : HSc H → zsg t0 t1 t2 H K) : ACalls tP zer [t0, t1, t2] H K :=
 zan (M := ziU) Tryz.func89 (c := zmL) (by kernel_rfl) (fun hs => Eq.mpr (by kernel_rfl) (h hs))
end Go.Proofs.YtacebbdfgbfgiaaGreat

namespace Go.Proofs.YtacebbdfgbfgiaaGreat
open Go Go.Abs
set_option maxRecDepth 8000
def za6 (l : List Bool) : List (List AV) := l.map fun b => [.bool b]
theorem zsh (data : List Dat) (d : Nat) (c : Nat) (hd : d < data.length) (hc : c < (data[d]).cons.length) (hl : data.length ≤ 1000000) (hcl : (data[d]).cons.length ≤ 1000000) (hal : ((data[d]).cons[c]).args.length ≤ 1000000)
  (hb : ∀ x ∈ ((data[d]).cons[c]).args, x.nodes ≤ 1000000) (H : zaa) (K : Kt)
  (hK : K (.sl (za6 (zbL d data[d] (data[d]).cons[c])) .none) H) :
  ACalls tP zer [.sl (data.map Dat.cs) .none, .int .i64 d, .int .i64 c] H K := by
 refine ACalls.out (zCH fun hs => ?_)
 have e1 : (data.map Dat.cs)[d]? = some (data[d]).cs := by simp [hd]
 have e2 : ((data[d]).cons.map Con.cs)[c]? = some ((data[d]).cons[c]).cs := by simp [hc]
 generalize hD : data[d] = D at *
 generalize hA : D.cons[c] = C at *
 have h1 : ¬ (d : Int) < 0 := by omega
 have h2 : ¬ (data.length : Int) ≤ d := by omega
 have h3 : ¬ (c : Int) < 0 := by omega
 have h4 : ¬ (D.cons.length : Int) ≤ c := by omega
 simp [zsg, h1, h2, h3, h4, e1, e2, Dat.cs, Con.cs, hd, hD, hc, hA]
 unfold ziW
 refine ALoop.own 7 zeh 1 rfl ?_
 show ziW (.sl (data.map Dat.cs) .none) (.int .i64 d) (.sl [] (.own H.length)) (.sl (VT.css C.args) .none) (.int .i64 C.args.length) (.int .i64 0) (H ++ [.perm zeh 1 0]) (Out H.length K)
 have hperm : ∀ n, HSc (H ++ [.perm zeh 1 n]) := fun n => hs.append rfl
 refine zCF (Inv := fun q t7 t42 H' => ∃ i : Nat, i ≤ C.args.length ∧ q = C.args.length - i ∧ t42 = .int .i64 i ∧ t7 = .sl (za6 ((zbL d D C).take i)) (.own H.length) ∧ H' = H ++ [.perm zeh 1 i]) C.args.length ?_ ?_
 ·intro _; exact ⟨0, by omega, by omega, rfl, rfl, rfl⟩
 ·rintro q t7 t42 H' ⟨i, hi, rfl, rfl, rfl, rfl⟩ hsc hlen hsF Kb hKb
  have hrl : (zbL d D C).length = C.args.length := by simp [zbL]
  by_cases hlt : i < C.args.length
  ·obtain ⟨x, y, z, hvx, hx, hy, hz⟩ := zbk C.args[i]
   have hnb := hb _ (List.getElem_mem hlt)
   simp [zmK, hlt, hvx, Nat.add_assoc, e1, hd, hD, Dat.cs]
   rw [← hvx]
   refine ⟨⟨hx, hy, hz⟩, ?_⟩
   refine zbI (.bool (zbp d D.vars C.args[i])) (fun J => znb _ _ _ hnb _ _ ⟨rfl, rfl⟩) ?_
   simp [zax, zbv, zaA, AV.pd, zar, za0, zaI, za6]
   have hmin : min i (zbL d D C).length = i := by omega
   rw [hmin]
   refine ⟨rfl, ⟨by omega, by omega⟩, ?_⟩
   rw [zal (by omega) (by omega)]
   have hst : List.take i (List.map (fun b => [AV.bool b]) (zbL d D C)) ++ [[AV.bool (zbp (↑d) D.vars C.args[i])]] = za6 ((zbL d D C).take (i + 1)) := by
    rw [List.take_succ_eq_append_getElem (by omega)]
    simp [za6, zbL]
   rw [hst]
   refine hKb _ _ ⟨C.args.length - (i + 1), by omega, Back.at (J := [.cells C.args[i].cs]) (H2 := H ++ [.perm zeh 1 (i + 1)]) (by simp) (by simp) (hperm _) ?_ ⟨_, _, rfl, i + 1, by omega, rfl, by simp, rfl, rfl⟩⟩
   simp [ziV, AV.sc, AV.scV, AV.scA, AV.scB]
  ·obtain rfl : i = C.args.length := by omega
   rw [List.take_of_length_le (by omega)]
   simp [zmK]
   exact Out.at rfl (Nat.le_refl _) hs (.atom (.sl _ _)) rfl (by simp [za6, AV.scV, AV.scA, AV.scB]) hK
def zBL (_ : Nat) : List Bool := []
noncomputable def zBM : Code := Tryz.f70.body.getD .skip
def zrZ (t0 : AV) (H : zaa) (K : Kt) : Prop :=
 zaq t0 H fun t1 H =>
 zaf 0 t1 fun t3 =>
 zad false 1 t3 H fun t4 =>
 ACalls tP zkb [t4] H fun t5 H =>
 zab t5 true H (fun K' => zad true 4 t1 H (K' · H)) fun t7 H =>
 zab t5 true H (fun K' => ACalls tP zkc [t7] H K') fun t8 H =>
 zai t5 t8 (.bool false) fun t9 =>
 zab t9 true H (fun K' => zad true 4 t1 H (K' · H)) fun t11 H =>
 zab t9 true H (fun K' => ACalls tP zkd [t11] H K') fun t12 H =>
 zai t9 t12 (.bool false) fun t13 =>
 zab t13 true H (fun K' => zad true 4 t1 H (K' · H)) fun t15 H =>
 zab t13 true H (fun K' => ACalls tP zke [t15] H K') fun t16 H =>
 zai t13 t16 (.bool false) fun t17 =>
 zab t17 true H (fun K' => zad true 4 t1 H (K' · H)) fun t19 H =>
 zab t17 true H (fun K' => ACalls tP zkf [t19] H K') fun t20 H =>
 zai t17 t20 (.bool false) fun t21 =>
 zab t21 true H (fun K' => zad true 4 t1 H (K' · H)) fun t23 H =>
 zab t21 true H (fun K' => ACalls tP zkg [t23] H K') fun t24 H =>
 zai t21 t24 (.bool false) fun t25 =>
 zab t25 true H (fun K' => zad true 4 t1 H (K' · H)) fun t27 H =>
 zab t25 true H (fun K' => ACalls tP zkh [t27] H K') fun t28 H =>
 zai t25 t28 (.bool false) fun t29 =>
 K t29 H
theorem zBO {t0 : AV} {H : zaa} {K : Kt} (h : HSc H → zrZ t0 H K) : ACalls tP zj8 [t0] H K :=
 zan (M := zBL) Tryz.func70 (c := zBM) (by kernel_rfl) (fun hs => Eq.mpr (by kernel_rfl) (h hs))
def zCR (_ : Nat) : List Bool := []
noncomputable def zCS : Code := Tryz.f91.body.getD .skip
def zsm (t0 : AV) (H : zaa) (K : Kt) : Prop :=
 zaq t0 H fun t1 H =>
 zaf 2 t1 fun t3 =>
 zad false 1 t3 H fun t4 =>
 zah 1 t4 fun t5 =>
 zac .leq false t5 (.int .i64 3000) fun t6 =>
 zab t6 true H (fun K' => zaf 2 t1 (K' · H)) fun t8 H =>
 zab t6 true H (fun K' => zad false 1 t8 H (K' · H)) fun t9 H =>
 zab t6 true H (fun K' => zbU zoy [t1] (K' · H)) fun t10 H =>
 zab t6 true H (fun K' => ACalls tP zdP [t9, t10] H K') fun t11 H =>
 zab t6 true H (fun K' => aUn .not t11 (K' · H)) fun t12 H =>
 zai t6 t12 (.bool false) fun t13 =>
 K t13 H
theorem zCT {t0 : AV} {H : zaa} {K : Kt} (h : HSc H → zsm t0 H K) : ACalls tP zkc [t0] H K :=
 zan (M := zCR) Tryz.func91 (c := zCS) (by kernel_rfl) (fun hs => Eq.mpr (by kernel_rfl) (h hs))
def zi3 : Nat → List Bool
 | 6 => rl false [1,1,1,2,14,3,59]
 | _ => []
noncomputable def zmX : Code := Tryz.f92.body.getD .skip
noncomputable def zDd : List ResultVar := Tryz.f92.results.toList
def zmY (t1 t3 t4 t19 t20 t21 : AV) : List AV := ux 1 (t1 :: ux 1 (t3 :: t4 :: ux 14 (t19 :: t20 :: t21 :: ux 59 [])))
def zDb : List Bool := zi3 6
noncomputable def zC9 : Code := zao [1, 1, 1, 1, 0, 1, 0, 0] zmX
def zC8 (K : Kt) : AExit → List AV → zaa → Prop := zap tP zi3 [1, 1, 1, 1, 0, 1, 0] zmX (zaw tP zDd K)
def zsw (t1 t3 t4 t19 t20 t21 : AV) (H : zaa) (K : Kt) : Prop := ALoop tP zC9 (zC8 K) (zmY t1 t3 t4 t19 t20 t21) H
def zsv (t1 t3 t4 t6 t19 t20 t21 : AV) (H : zaa) (K : Kt) (Kb6 : Lt) : Prop :=
 zaf 0 t6 fun t42 =>
 zad false 1 t42 H fun t43 =>
 zcb t3 t43 (.bool true) H fun H =>
 zaf 1 t6 fun t44 =>
 zad false 1 t44 H fun t45 =>
 zah 1 t45 fun t46 =>
 zac .gtr false t46 (.int .i64 6) fun t47 =>
 zab t47 false H (fun K' => zaf 0 t1 (K' · H)) fun t49 H =>
 zab t47 false H (fun K' => zad false 1 t49 H (K' · H)) fun t50 H =>
 zab t47 false H (fun K' => zaf 3 t6 (K' · H)) fun t51 H =>
 zab t47 false H (fun K' => zad true 3 t51 H (K' · H)) fun t52 H =>
 zab t47 false H (fun K' => ACalls tP zfq [t50, t52, (.int .i64 0)] H K') fun t53 H =>
 zab t47 false H (fun K' => aUn .not t53 (K' · H)) fun t54 H =>
 zai t47 (.bool true) t54 fun t55 =>
 zag t55
 (K (.bool false) H)
 (zae H (fun K' => zaf 6 t6 (K' · H)) fun t56 =>
 zae H (fun K' => zam false 1 t56 H (K' · H)) fun t57 =>
 zae H (fun K' => zac .lss false t57 (.int .i64 0) (K' · H)) fun t58 =>
 zae H (fun K' => K' t58 H) fun t59 =>
 zab t59 false H (fun K' => zae H (fun K'' => zaf 6 t6 (K'' · H)) (K' · H)) fun t60 H =>
 zab t59 false H (fun K' => zae H (fun K'' => zam false 1 t60 H (K'' · H)) (K' · H)) fun t61 H =>
 zab t59 false H (fun K' => zae H (fun K'' => zaf 3 t1 (K'' · H)) (K' · H)) fun t62 H =>
 zab t59 false H (fun K' => zae H (fun K'' => zam false 1 t62 H (K'' · H)) (K' · H)) fun t63 H =>
 zab t59 false H (fun K' => zae H (fun K'' => zah 1 t63 (K'' · H)) (K' · H)) fun t64 H =>
 zab t59 false H (fun K' => zae H (fun K'' => zac .geq false t61 t64 (K'' · H)) (K' · H)) fun t65 H =>
 zae H (fun K' => zai t59 (.bool true) t65 (K' · H)) fun t66 =>
 zae H (fun K' => K' t66 H) fun t67 =>
 zab t67 false H (fun K' => zae H (fun K'' => zaf 3 t1 (K'' · H)) (K' · H)) fun t68 H =>
 zab t67 false H (fun K' => zae H (fun K'' => zam false 1 t68 H (K'' · H)) (K' · H)) fun t69 H =>
 zab t67 false H (fun K' => zae H (fun K'' => zaf 6 t6 (K'' · H)) (K' · H)) fun t70 H =>
 zab t67 false H (fun K' => zae H (fun K'' => zam false 1 t70 H (K'' · H)) (K' · H)) fun t71 H =>
 zab t67 false H (fun K' => zae H (fun K'' => zaj 8 t69 t71 (K'' · H)) (K' · H)) fun t72 H =>
 zab t67 false H (fun K' => zae H (fun K'' => zaf 5 t72 (K'' · H)) (K' · H)) fun t73 H =>
 zab t67 false H (fun K' => zae H (fun K'' => zam true 3 t73 H (K'' · H)) (K' · H)) fun t74 H =>
 zab t67 false H (fun K' => zae H (fun K'' => zaf 3 t6 (K'' · H)) (K' · H)) fun t75 H =>
 zab t67 false H (fun K' => zae H (fun K'' => zam true 3 t75 H (K'' · H)) (K' · H)) fun t76 H =>
 zab t67 false H (fun K' => zbs H (fun H K'' => ACalls tP zue [t74, t76] H K'') (K' · H)) fun t77 H =>
 zab t67 false H (fun K' => zae H (fun K'' => aUn .not t77 (K'' · H)) (K' · H)) fun t78 H =>
 zae H (fun K' => zai t67 (.bool true) t78 (K' · H)) fun t79 =>
 zag t79
 (K (.bool false) H)
 (zac .add false t21 (.int .i64 1) fun t80 =>
 Kb6 (zmY t1 t3 t4 t19 t20 t80) H))
def zsu (t1 t3 t4 t19 t20 t21 : AV) (H : zaa) (K : Kt) (Kb6 : Lt) : Prop :=
 zac .lss false t21 t20 fun t22 =>
 zag t22
 (zaj 7 t19 t21 fun t23 =>
 zad true 7 t23 H fun t24 =>
 zat [(.str []), .snil, .snil, (.int .i64 0), (.int .i64 0), .snil, (.int .i64 0)] H fun t6 H =>
 zak 7 t6 t24 H fun H =>
 zaf 0 t6 fun t25 =>
 zad false 1 t25 H fun t26 =>
 zac .eql false t26 (.str []) fun t27 =>
 zag t27
 (zsv t1 t3 (.bool true) t6 t19 t20 t21 H K Kb6)
 (zab t4 false H (fun K' => K' t3 H) fun t30 H =>
 zab t4 false H (fun K' => zaf 0 t6 (K' · H)) fun t31 H =>
 zab t4 false H (fun K' => zad false 1 t31 H (K' · H)) fun t32 H =>
 zab t4 false H (fun K' => zcF (.bool false) false t30 t32 H (K' · H)) fun t33 H =>
 zai t4 (.bool true) t33 fun t34 =>
 zab t34 false H (fun K' => zaf 2 t6 (K' · H)) fun t36 H =>
 zab t34 false H (fun K' => zad false 1 t36 H (K' · H)) fun t37 H =>
 zab t34 false H (fun K' => zah 1 t37 (K' · H)) fun t38 H =>
 zab t34 false H (fun K' => zac .gtr false t38 (.int .i64 0) (K' · H)) fun t39 H =>
 zai t34 (.bool true) t39 fun t40 =>
 zag t40
 (K (.bool false) H)
 (zsv t1 t3 t4 t6 t19 t20 t21 H K Kb6)))
 (K (.bool true) H)
def zst (t0 : AV) (H : zaa) (K : Kt) : Prop :=
 zaq t0 H fun t1 H =>
 zaf 1 t1 fun t7 =>
 zad false 1 t7 H fun t8 =>
 zah 1 t8 fun t9 =>
 zac .gtr false t9 (.int .i64 64) fun t10 =>
 zab t10 false H (fun K' => zaf 3 t1 (K' · H)) fun t12 H =>
 zab t10 false H (fun K' => zad false 1 t12 H (K' · H)) fun t13 H =>
 zab t10 false H (fun K' => zah 1 t13 (K' · H)) fun t14 H =>
 zab t10 false H (fun K' => zac .gtr false t14 (.int .i64 3000) (K' · H)) fun t15 H =>
 zai t10 (.bool true) t15 fun t16 =>
 zag t16
 (K (.bool false) H)
 (zc8 H fun t17 H =>
 zaf 1 t1 fun t18 =>
 zad false 1 t18 H fun t19 =>
 zah 1 t19 fun t20 =>
 zsw t1 t17 (.bool false) t19 t20 (.int .i64 0) H K)
theorem zDa {t1 t3 t4 t19 t20 t21 : AV} {H : zaa} {K : Kt} (Inv : Nat → AV → AV → zaa → Prop) (n : Nat) (h0 : HSc H → Inv n t4 t21 H)
  (round : Rd2 (fun t4 => fun t21 => zmY t1 t3 t4 t19 t20 t21) (fun t4 => fun t21 => fun H Kb6 => zsu t1 t3 t4 t19 t20 t21 H K Kb6) H Inv) : zsw t1 t3 t4 t19 t20 t21 H K :=
 lp2 (M := zi3) zDb t4 t21 (by kernel_rfl) Inv n h0 round
theorem zDc {t0 : AV} {H : zaa} {K : Kt} (h : HSc H → zst t0 H K) : ACalls tP zkd [t0] H K :=
 zan (M := zi3) Tryz.func92 (c := zmX) (by kernel_rfl) (fun hs => Eq.mpr (by kernel_rfl) (h hs))
def zdB : Nat → List Bool
 | 5 => rl false [1,1,2,2,12,3,54]
 | 11 => rl false [1,1,2,2,25,3,41]
 | 16 => rl false [1,1,2,2,2,1,22,3,12,3,26]
 | _ => []
noncomputable def zfS : Code := Tryz.f93.body.getD .skip
noncomputable def zsF : List ResultVar := Tryz.f93.results.toList
def zm0 (t1 t4 t5 t18 t19 t20 : AV) : List AV := ux 1 (t1 :: ux 2 (t4 :: t5 :: ux 12 (t18 :: t19 :: t20 :: ux 54 [])))
def zDm : List Bool := zdB 5
noncomputable def zDh : Code := zao [1, 1, 1, 1, 0, 1, 0, 0] zfS
def zDf (K : Kt) : AExit → List AV → zaa → Prop := zap tP zdB [1, 1, 1, 1, 0, 1, 0] zfS (zaw tP zsF K)
def zsD (t1 t4 t5 t18 t19 t20 : AV) (H : zaa) (K : Kt) : Prop := ALoop tP zDh (zDf K) (zm0 t1 t4 t5 t18 t19 t20) H
def zsB (t1 t4 t5 t31 t32 t33 : AV) : List AV := ux 1 (t1 :: ux 2 (t4 :: t5 :: ux 25 (t31 :: t32 :: t33 :: ux 41 [])))
def zsE : List Bool := zdB 11
noncomputable def zmZ : Code := zao [1, 1, 1, 1, 1, 0, 1, 0, 0] zfS
def zsy (K : Kt) : AExit → List AV → zaa → Prop := zap tP zdB [1, 1, 1, 1, 1, 0, 1, 0] zfS (zaw tP zsF K)
def zsC (t1 t4 t5 t31 t32 t33 : AV) (H : zaa) (K : Kt) : Prop := ALoop tP zmZ (zsy K) (zsB t1 t4 t5 t31 t32 t33) H
def zDi (t1 t4 t5 t8 t31 t32 t33 t46 t47 t48 : AV) : List AV := ux 1 (t1 :: ux 2 (t4 :: t5 :: ux 2 (t8 :: ux 22 (t31 :: t32 :: t33 :: ux 12 (t46 :: t47 :: t48 :: ux 26 [])))))
noncomputable def zDg : Code := zao [1, 1, 0, 0, 1, 1, 1, 0, 0] zmZ
def zDe (K : Kt) (Kb11 : Lt) : AExit → List AV → zaa → Prop := zap tP zdB [1, 1, 0, 0, 1, 1, 1, 0] zmZ (zbz zsE Kb11 (zsy K))
def zDj (t1 t4 t5 t8 t31 t32 t33 t46 t47 t48 : AV) (H : zaa) (K : Kt) (Kb11 : Lt) : Prop := ALoop tP zDg (zDe K Kb11) (zDi t1 t4 t5 t8 t31 t32 t33 t46 t47 t48) H
def zsz (t1 t4 t5 t31 t32 t33 : AV) (H : zaa) (K : Kt) (Kb11 : Lt) : Prop :=
 zac .lss false t33 t32 fun t34 =>
 zag t34
 (zaj 8 t31 t33 fun t36 =>
 zad true 8 t36 H fun t37 =>
 zat [(.int .i64 0), (.int .i64 0), .snil, .snil, .snil, (.int .i64 0), (.int .i64 0), .snil] H fun t9 H =>
 zak 8 t9 t37 H fun H =>
 zaf 3 t9 fun t38 =>
 zad false 1 t38 H fun t39 =>
 zah 1 t39 fun t40 =>
 zaf 4 t9 fun t41 =>
 zad false 1 t41 H fun t42 =>
 zah 1 t42 fun t43 =>
 zac .neq false t40 t43 fun t44 =>
 zag t44
 (K (.bool false) H)
 (zaf 4 t9 fun t45 =>
 zad false 1 t45 H fun t46 =>
 zah 1 t46 fun t47 =>
 zDj t1 t4 t5 t33 t31 t32 t33 t46 t47 (.int .i64 0) H K Kb11))
 (zad false 1 t4 H fun t70 =>
 zaf 3 t1 fun t71 =>
 zad false 1 t71 H fun t72 =>
 zah 1 t72 fun t73 =>
 zac .eql false t70 t73 fun t74 =>
 K t74 H)
def zsA (t1 t4 t5 t18 t19 t20 : AV) (H : zaa) (K : Kt) (Kb5 : Lt) : Prop :=
 zac .lss false t20 t19 fun t21 =>
 zag t21
 (zaj 7 t18 t20 fun t22 =>
 zad true 7 t22 H fun t23 =>
 zat [(.str []), .snil, .snil, (.int .i64 0), (.int .i64 0), .snil, (.int .i64 0)] H fun t7 H =>
 zak 7 t7 t23 H fun H =>
 zaf 6 t7 fun t25 =>
 zad false 1 t25 H fun t26 =>
 aCallV tP t5 [t26] H fun t27 H =>
 aUn .not t27 fun t28 =>
 zag t28
 (K (.bool false) H)
 (zac .add false t20 (.int .i64 1) fun t29 =>
 Kb5 (zm0 t1 t4 t5 t18 t19 t29) H))
 (zaf 3 t1 fun t30 =>
 zad false 1 t30 H fun t31 =>
 zah 1 t31 fun t32 =>
 zsC t1 t4 t5 t31 t32 (.int .i64 0) H K)
def zsx (t0 : AV) (H : zaa) (K : Kt) : Prop :=
 zaq t0 H fun t1 H =>
 zaf 3 t1 fun t12 =>
 zad false 1 t12 H fun t13 =>
 zah 1 t13 fun t14 =>
 zbr 1 [(.bool false)] t14 t14 H fun t15 H =>
 zat [.snil] H fun t3 H =>
 zak 1 t3 t15 H fun H =>
 zat [(.int .i64 0)] H fun t4 H =>
 zak 1 t4 (.int .i64 0) H fun H =>
 zbU zuf [t3, t4] fun t16 =>
 zaf 1 t1 fun t17 =>
 zad false 1 t17 H fun t18 =>
 zah 1 t18 fun t19 =>
 zsD t1 t4 t16 t18 t19 (.int .i64 0) H K
theorem zDk {t1 t4 t5 t31 t32 t33 : AV} {H : zaa} {K : Kt} (Inv : Nat → AV → zaa → Prop) (n : Nat) (h0 : HSc H → Inv n t33 H)
  (round : Rd1 (fun t33 => zsB t1 t4 t5 t31 t32 t33) (fun t33 => fun H Kb11 => zsz t1 t4 t5 t31 t32 t33 H K Kb11) H Inv) : zsC t1 t4 t5 t31 t32 t33 H K :=
 lp1 (M := zdB) zsE t33 (by kernel_rfl) Inv n h0 round
theorem zDl {t1 t4 t5 t18 t19 t20 : AV} {H : zaa} {K : Kt} (Inv : Nat → AV → zaa → Prop) (n : Nat) (h0 : HSc H → Inv n t20 H)
  (round : Rd1 (fun t20 => zm0 t1 t4 t5 t18 t19 t20) (fun t20 => fun H Kb5 => zsA t1 t4 t5 t18 t19 t20 H K Kb5) H Inv) : zsD t1 t4 t5 t18 t19 t20 H K :=
 lp1 (M := zdB) zDm t20 (by kernel_rfl) Inv n h0 round
theorem zDn {t0 : AV} {H : zaa} {K : Kt} (h : HSc H → zsx t0 H K) : ACalls tP zke [t0] H K :=
 zan (M := zdB) Tryz.func93 (c := zfS) (by kernel_rfl) (fun hs => Eq.mpr (by kernel_rfl) (h hs))
def zdC : Nat → List Bool
 | 5 => rl false [1,1,2,2,12,3,41]
 | 11 => rl false [1,1,2,2,32,3,21]
 | 14 => rl false [1,1,2,2,32,3,4,3,14]
 | _ => []
noncomputable def zfT : Code := Tryz.f94.body.getD .skip
noncomputable def zsO : List ResultVar := Tryz.f94.results.toList
def zm2 (t1 t4 t5 t18 t19 t20 : AV) : List AV := ux 1 (t1 :: ux 2 (t4 :: t5 :: ux 12 (t18 :: t19 :: t20 :: ux 41 [])))
def zDw : List Bool := zdC 5
noncomputable def zDr : Code := zao [1, 1, 1, 1, 0, 1, 0, 0] zfT
def zDp (K : Kt) : AExit → List AV → zaa → Prop := zap tP zdC [1, 1, 1, 1, 0, 1, 0] zfT (zaw tP zsO K)
def zsM (t1 t4 t5 t18 t19 t20 : AV) (H : zaa) (K : Kt) : Prop := ALoop tP zDr (zDp K) (zm2 t1 t4 t5 t18 t19 t20) H
def zsK (t1 t4 t5 t38 t39 t40 : AV) : List AV := ux 1 (t1 :: ux 2 (t4 :: t5 :: ux 32 (t38 :: t39 :: t40 :: ux 21 [])))
def zsN : List Bool := zdC 11
noncomputable def zm1 : Code := zao [1, 1, 1, 1, 1, 0, 1, 0, 0] zfT
def zsH (K : Kt) : AExit → List AV → zaa → Prop := zap tP zdC [1, 1, 1, 1, 1, 0, 1, 0] zfT (zaw tP zsO K)
def zsL (t1 t4 t5 t38 t39 t40 : AV) (H : zaa) (K : Kt) : Prop := ALoop tP zm1 (zsH K) (zsK t1 t4 t5 t38 t39 t40) H
def zDs (t1 t4 t5 t38 t39 t40 t45 t46 t47 : AV) : List AV := ux 1 (t1 :: ux 2 (t4 :: t5 :: ux 32 (t38 :: t39 :: t40 :: ux 4 (t45 :: t46 :: t47 :: ux 14 []))))
noncomputable def zDq : Code := zao [1, 1, 0, 0, 1, 1, 0, 0] zm1
def zDo (K : Kt) (Kb11 : Lt) : AExit → List AV → zaa → Prop := zap tP zdC [1, 1, 0, 0, 1, 1, 0] zm1 (zbz zsN Kb11 (zsH K))
def zDt (t1 t4 t5 t38 t39 t40 t45 t46 t47 : AV) (H : zaa) (K : Kt) (Kb11 : Lt) : Prop := ALoop tP zDq (zDo K Kb11) (zDs t1 t4 t5 t38 t39 t40 t45 t46 t47) H
def zsI (t1 t4 t5 t38 t39 t40 : AV) (H : zaa) (K : Kt) (Kb11 : Lt) : Prop :=
 zac .lss false t40 t39 fun t41 =>
 zag t41
 (zaj 8 t38 t40 fun t42 =>
 zad true 8 t42 H fun t43 =>
 zat [(.int .i64 0), (.int .i64 0), .snil, .snil, .snil, (.int .i64 0), (.int .i64 0), .snil] H fun t9 H =>
 zak 8 t9 t43 H fun H =>
 zaf 3 t9 fun t44 =>
 zad false 1 t44 H fun t45 =>
 zah 1 t45 fun t46 =>
 zDt t1 t4 t5 t38 t39 t40 t45 t46 (.int .i64 0) H K Kb11)
 (zad false 1 t4 H fun t57 =>
 zaf 2 t1 fun t58 =>
 zad false 1 t58 H fun t59 =>
 zah 1 t59 fun t60 =>
 zac .eql false t57 t60 fun t61 =>
 K t61 H)
def zsJ (t1 t4 t5 t18 t19 t20 : AV) (H : zaa) (K : Kt) (Kb5 : Lt) : Prop :=
 zac .lss false t20 t19 fun t21 =>
 zag t21
 (zaj 7 t18 t20 fun t22 =>
 zad true 7 t22 H fun t23 =>
 zat [(.str []), .snil, .snil, (.int .i64 0), (.int .i64 0), .snil, (.int .i64 0)] H fun t7 H =>
 zak 7 t7 t23 H fun H =>
 zaf 1 t7 fun t25 =>
 zad false 1 t25 H fun t26 =>
 aCallV tP t5 [t26] H fun t27 H =>
 aUn .not t27 fun t28 =>
 zab t28 false H (fun K' => K' t5 H) fun t30 H =>
 zab t28 false H (fun K' => zaf 2 t7 (K' · H)) fun t31 H =>
 zab t28 false H (fun K' => zad false 1 t31 H (K' · H)) fun t32 H =>
 zab t28 false H (fun K' => aCallV tP t30 [t32] H K') fun t33 H =>
 zab t28 false H (fun K' => aUn .not t33 (K' · H)) fun t34 H =>
 zai t28 (.bool true) t34 fun t35 =>
 zag t35
 (K (.bool false) H)
 (zac .add false t20 (.int .i64 1) fun t36 =>
 Kb5 (zm2 t1 t4 t5 t18 t19 t36) H))
 (zaf 3 t1 fun t37 =>
 zad false 1 t37 H fun t38 =>
 zah 1 t38 fun t39 =>
 zsL t1 t4 t5 t38 t39 (.int .i64 0) H K)
def zsG (t0 : AV) (H : zaa) (K : Kt) : Prop :=
 zaq t0 H fun t1 H =>
 zaf 2 t1 fun t12 =>
 zad false 1 t12 H fun t13 =>
 zah 1 t13 fun t14 =>
 zbr 1 [(.bool false)] t14 t14 H fun t15 H =>
 zat [.snil] H fun t3 H =>
 zak 1 t3 t15 H fun H =>
 zat [(.int .i64 0)] H fun t4 H =>
 zak 1 t4 (.int .i64 0) H fun H =>
 zbU zug [t3, t4] fun t16 =>
 zaf 1 t1 fun t17 =>
 zad false 1 t17 H fun t18 =>
 zah 1 t18 fun t19 =>
 zsM t1 t4 t16 t18 t19 (.int .i64 0) H K
theorem zDu {t1 t4 t5 t38 t39 t40 : AV} {H : zaa} {K : Kt} (Inv : Nat → AV → zaa → Prop) (n : Nat) (h0 : HSc H → Inv n t40 H)
  (round : Rd1 (fun t40 => zsK t1 t4 t5 t38 t39 t40) (fun t40 => fun H Kb11 => zsI t1 t4 t5 t38 t39 t40 H K Kb11) H Inv) : zsL t1 t4 t5 t38 t39 t40 H K :=
 lp1 (M := zdC) zsN t40 (by kernel_rfl) Inv n h0 round
theorem zDv {t1 t4 t5 t18 t19 t20 : AV} {H : zaa} {K : Kt} (Inv : Nat → AV → zaa → Prop) (n : Nat) (h0 : HSc H → Inv n t20 H)
  (round : Rd1 (fun t20 => zm2 t1 t4 t5 t18 t19 t20) (fun t20 => fun H Kb5 => zsJ t1 t4 t5 t18 t19 t20 H K Kb5) H Inv) : zsM t1 t4 t5 t18 t19 t20 H K :=
 lp1 (M := zdC) zDw t20 (by kernel_rfl) Inv n h0 round
theorem zDx {t0 : AV} {H : zaa} {K : Kt} (h : HSc H → zsG t0 H K) : ACalls tP zkf [t0] H K :=
 zan (M := zdC) Tryz.func94 (c := zfT) (by kernel_rfl) (fun hs => Eq.mpr (by kernel_rfl) (h hs))
def zi4 : Nat → List Bool
 | 6 => rl false [4,2,9,3,25]
 | _ => []
noncomputable def zm3 : Code := Tryz.f95.body.getD .skip
noncomputable def zDD : List ResultVar := Tryz.f95.results.toList
def zm4 (t4 t5 t15 t16 t17 : AV) : List AV := ux 4 (t4 :: t5 :: ux 9 (t15 :: t16 :: t17 :: ux 25 []))
def zDB : List Bool := zi4 6
noncomputable def zDz : Code := zao [1, 1, 1, 1, 1, 0, 1, 0, 0] zm3
def zDy (K : Kt) : AExit → List AV → zaa → Prop := zap tP zi4 [1, 1, 1, 1, 1, 0, 1, 0] zm3 (zaw tP zDD K)
def zsR (t4 t5 t15 t16 t17 : AV) (H : zaa) (K : Kt) : Prop := ALoop tP zDz (zDy K) (zm4 t4 t5 t15 t16 t17) H
def zsQ (t4 t5 t15 t16 t17 : AV) (H : zaa) (K : Kt) (Kb6 : Lt) : Prop :=
 zac .lss false t17 t16 fun t18 =>
 zag t18
 (zaj 7 t15 t17 fun t19 =>
 zad true 7 t19 H fun t20 =>
 zat [(.str []), .snil, .snil, (.int .i64 0), (.int .i64 0), .snil, (.int .i64 0)] H fun t7 H =>
 zak 7 t7 t20 H fun H =>
 zad false 1 t4 H fun t21 =>
 zaf 1 t7 fun t22 =>
 zad false 1 t22 H fun t23 =>
 aCallV tP t21 [t23, (.bool true)] H fun t24 H =>
 zad false 1 t4 H fun t25 =>
 zaf 2 t7 fun t26 =>
 zad false 1 t26 H fun t27 =>
 aCallV tP t25 [t27, (.bool true)] H fun t28 H =>
 zad false 1 t5 H fun t29 =>
 zaf 6 t7 fun t30 =>
 zad false 1 t30 H fun t31 =>
 aCallV tP t29 [t31] H fun t32 H =>
 aUn .not t32 fun t33 =>
 zag t33
 (K (.bool false) H)
 (zad false 1 t4 H fun t34 =>
 zaf 1 t7 fun t35 =>
 zad false 1 t35 H fun t36 =>
 aCallV tP t34 [t36, (.bool false)] H fun t37 H =>
 zad false 1 t4 H fun t38 =>
 zaf 2 t7 fun t39 =>
 zad false 1 t39 H fun t40 =>
 aCallV tP t38 [t40, (.bool false)] H fun t41 H =>
 zac .add false t17 (.int .i64 1) fun t42 =>
 Kb6 (zm4 t4 t5 t15 t16 t42) H))
 (K (.bool true) H)
def zsP (t0 : AV) (H : zaa) (K : Kt) : Prop :=
 zaq t0 H fun t1 H =>
 zaf 2 t1 fun t8 =>
 zad false 1 t8 H fun t9 =>
 zah 1 t9 fun t10 =>
 zbr 1 [(.bool false)] t10 t10 H fun t11 H =>
 zat [.snil] H fun t3 H =>
 zak 1 t3 t11 H fun H =>
 zbU zuh [t3] fun t12 =>
 zat [.nilfn] H fun t4 H =>
 zak 1 t4 t12 H fun H =>
 zat [.nilfn] H fun t5 H =>
 zbU zui [t1, t3, t4, t5] fun t13 =>
 zak 1 t5 t13 H fun H =>
 zaf 1 t1 fun t14 =>
 zad false 1 t14 H fun t15 =>
 zah 1 t15 fun t16 =>
 zsR t4 t5 t15 t16 (.int .i64 0) H K
theorem zDA {t4 t5 t15 t16 t17 : AV} {H : zaa} {K : Kt} (Inv : Nat → AV → zaa → Prop) (n : Nat) (h0 : HSc H → Inv n t17 H)
  (round : Rd1 (fun t17 => zm4 t4 t5 t15 t16 t17) (fun t17 => fun H Kb6 => zsQ t4 t5 t15 t16 t17 H K Kb6) H Inv) : zsR t4 t5 t15 t16 t17 H K :=
 lp1 (M := zi4) zDB t17 (by kernel_rfl) Inv n h0 round
theorem zDC {t0 : AV} {H : zaa} {K : Kt} (h : HSc H → zsP t0 H K) : ACalls tP zkg [t0] H K :=
 zan (M := zi4) Tryz.func95 (c := zm3) (by kernel_rfl) (fun hs => Eq.mpr (by kernel_rfl) (h hs))
def zd8 : Nat → List Bool
 | 3 => rl false [1,1,1,1,12,3,30]
 | 9 => rl false [3,1,24,3,18]
 | _ => []
noncomputable def zfU : Code := Tryz.f96.body.getD .skip
noncomputable def zsX : List ResultVar := Tryz.f96.results.toList
def zm5 (t1 t3 t16 t17 t18 : AV) : List AV := ux 1 (t1 :: ux 1 (t3 :: ux 12 (t16 :: t17 :: t18 :: ux 30 [])))
def zDK : List Bool := zd8 3
noncomputable def zDG : Code := zao [1, 1, 0, 1, 0, 0] zfU
def zDE (K : Kt) : AExit → List AV → zaa → Prop := zap tP zd8 [1, 1, 0, 1, 0] zfU (zaw tP zsX K)
def zsV (t1 t3 t16 t17 t18 : AV) (H : zaa) (K : Kt) : Prop := ALoop tP zDG (zDE K) (zm5 t1 t3 t16 t17 t18) H
def zm6 (t3 t28 t29 t30 : AV) : List AV := ux 3 (t3 :: ux 24 (t28 :: t29 :: t30 :: ux 18 []))
def zDL : List Bool := zd8 9
noncomputable def zDH : Code := zao [1, 1, 1, 0, 1, 0, 0] zfU
def zDF (K : Kt) : AExit → List AV → zaa → Prop := zap tP zd8 [1, 1, 1, 0, 1, 0] zfU (zaw tP zsX K)
def zsW (t3 t28 t29 t30 : AV) (H : zaa) (K : Kt) : Prop := ALoop tP zDH (zDF K) (zm6 t3 t28 t29 t30) H
def zsU (t3 t28 t29 t30 : AV) (H : zaa) (K : Kt) (Kb9 : Lt) : Prop :=
 zac .lss false t30 t29 fun t31 =>
 zag t31
 (zaj 7 t28 t30 fun t33 =>
 zad true 7 t33 H fun t34 =>
 zat [(.str []), .snil, .snil, (.int .i64 0), (.int .i64 0), .snil, (.int .i64 0)] H fun t7 H =>
 zak 7 t7 t34 H fun H =>
 zaf 0 t7 fun t35 =>
 zad false 1 t35 H fun t36 =>
 zac .eql false t36 (.str []) fun t37 =>
 zab t37 true H (fun K' => K' t3 H) fun t39 H =>
 zab t37 true H (fun K' => za5 t39 (K' · H)) fun t40 H =>
 zab t37 true H (fun K' => zaf 4 t40 (K' · H)) fun t41 H =>
 zab t37 true H (fun K' => zad false 1 t41 H (K' · H)) fun t42 H =>
 zab t37 true H (fun K' => K' t30 H) fun t43 H =>
 zab t37 true H (fun K' => zaj 1 t42 t43 (K' · H)) fun t44 H =>
 zab t37 true H (fun K' => zad false 1 t44 H (K' · H)) fun t45 H =>
 zab t37 true H (fun K' => zac .neq false t45 (.int .i64 1) (K' · H)) fun t46 H =>
 zai t37 t46 (.bool false) fun t47 =>
 zag t47
 (K (.bool false) H)
 (zac .add false t30 (.int .i64 1) fun t48 =>
 Kb9 (zm6 t3 t28 t29 t48) H))
 (K (.bool true) H)
def zsT (t1 t3 t16 t17 t18 : AV) (H : zaa) (K : Kt) (Kb3 : Lt) : Prop :=
 zac .lss false t18 t17 fun t19 =>
 zag t19
 (zaj 8 t16 t18 fun t20 =>
 zad true 8 t20 H fun t21 =>
 zat [(.int .i64 0), (.int .i64 0), .snil, .snil, .snil, (.int .i64 0), (.int .i64 0), .snil] H fun t5 H =>
 zak 8 t5 t21 H fun H =>
 zad true 8 t5 H fun t23 =>
 ACalls tP zuj [t3, t23] H fun t24 H =>
 aUn .not t24 fun t25 =>
 zag t25
 (K (.bool false) H)
 (zac .add false t18 (.int .i64 1) fun t26 =>
 Kb3 (zm5 t1 t3 t16 t17 t26) H))
 (zaf 1 t1 fun t27 =>
 zad false 1 t27 H fun t28 =>
 zah 1 t28 fun t29 =>
 zsW t3 t28 t29 (.int .i64 0) H K)
def zsS (t0 : AV) (H : zaa) (K : Kt) : Prop :=
 zaq t0 H fun t1 H =>
 zae H (fun K' => zam true 4 t1 H (K' · H)) fun t8 =>
 zae H (fun K' => zaf 1 t1 (K' · H)) fun t9 =>
 zae H (fun K' => zam false 1 t9 H (K' · H)) fun t10 =>
 zae H (fun K' => zah 1 t10 (K' · H)) fun t11 =>
 zbr 8 [(.int .i64 0)] t11 t11 H fun t12 H =>
 zae H (fun K' => zau [.snil, .snil, .snil, .snil, .snil] [(0, 4), (4, 1)] [(0, t8), (1, t12)] (K' · H)) fun t13 =>
 zaq t13 H fun t14 H =>
 zae H (fun K' => K' t14 H) fun t3 =>
 zaf 3 t1 fun t15 =>
 zad false 1 t15 H fun t16 =>
 zah 1 t16 fun t17 =>
 zsV t1 t3 t16 t17 (.int .i64 0) H K
theorem zDJ {t3 t28 t29 t30 : AV} {H : zaa} {K : Kt} (Inv : Nat → AV → zaa → Prop) (n : Nat) (h0 : HSc H → Inv n t30 H)
  (round : Rd1 (fun t30 => zm6 t3 t28 t29 t30) (fun t30 => fun H Kb9 => zsU t3 t28 t29 t30 H K Kb9) H Inv) : zsW t3 t28 t29 t30 H K :=
 lp1 (M := zd8) zDL t30 (by kernel_rfl) Inv n h0 round
theorem zDI {t1 t3 t16 t17 t18 : AV} {H : zaa} {K : Kt} (Inv : Nat → AV → zaa → Prop) (n : Nat) (h0 : HSc H → Inv n t18 H)
  (round : Rd1 (fun t18 => zm5 t1 t3 t16 t17 t18) (fun t18 => fun H Kb3 => zsT t1 t3 t16 t17 t18 H K Kb3) H Inv) : zsV t1 t3 t16 t17 t18 H K :=
 lp1 (M := zd8) zDK t18 (by kernel_rfl) Inv n h0 round
theorem zDM {t0 : AV} {H : zaa} {K : Kt} (h : HSc H → zsS t0 H K) : ACalls tP zkh [t0] H K :=
 zan (M := zd8) Tryz.func96 (c := zfU) (by kernel_rfl) (fun hs => Eq.mpr (by kernel_rfl) (h hs))
end Go.Proofs.YtacebbdfgbfgiaaGreat

namespace Go.Proofs.YtacebbdfgbfgiaaGreat
open Go Go.Abs
set_option maxRecDepth 8000
def d4 (data : List Dat) : AV := .agg [.sl (data.map Dat.cs) .none, .snil, .snil, .snil]
section
variable {H : zaa} {K : Kt} (data : List Dat)
theorem zv2 (hK : K (.bool true) H) : ACalls tP zkc [d4 data] H K := by
 refine ACalls.out (zCT fun hs => ?_)
 simp [zsm, d4]
 refine ⟨rfl, ACalls.wk (args' := [.sl (VT.css []) .none, .fn zoy [.ptr H.length 0]]) ?_ ⟨.atom .snil, .atom (.refl _), trivial⟩⟩
 refine zjm [] (by simp) _ _ _ (by simp [AV.sc, AV.scV, AV.scA, AV.scB]) (fun _ H' => H' = H ++ [.cells [.sl (data.map Dat.cs) .none, .snil, .snil, .snil]]) rfl (fun i h => by simp at h) ?_
 rintro H' rfl
 simp
 exact Out.bool rfl (Nat.le_refl _) hs hK
theorem ztF (hK : K (.bool true) H) : ACalls tP zkd [d4 data] H K := by
 refine ACalls.out (zDc fun hs => ?_)
 simp [zst, d4]
 refine zDa (Inv := fun _ _ t H' => t = .int .i64 0 ∧ H' = _) 0 (fun _ => ⟨rfl, rfl⟩) ?_
 rintro q t4 t H' ⟨rfl, rfl⟩ _ _ _ Kb hKb
 simp [zsu]
 exact Out.bool rfl (Nat.le_refl _) hs hK
theorem zvW (hK : K (.bool true) H) : ACalls tP zke [d4 data] H K := by
 refine ACalls.out (zDn fun hs => ?_)
 simp [zsx, d4, zbr]
 refine ⟨⟨rfl, rfl⟩, zDl (Inv := fun _ t H' => t = .int .i64 0 ∧ H' = _) 0 (fun _ => ⟨rfl, rfl⟩) ?_⟩
 rintro q t H' ⟨rfl, rfl⟩ _ _ _ Kb hKb
 simp [zsA]
 refine zDk (Inv := fun _ t H' => t = .int .i64 0 ∧ H' = _) 0 (fun _ => ⟨rfl, rfl⟩) ?_
 rintro q t H' ⟨rfl, rfl⟩ _ _ _ Kb2 hKb2
 simp [zsz, Nat.add_assoc]
 exact Out.bool rfl (Nat.le_refl _) hs hK
theorem ztv (hK : K (.bool true) H) : ACalls tP zkf [d4 data] H K := by
 refine ACalls.out (zDx fun hs => ?_)
 simp [zsG, d4, zbr]
 refine ⟨⟨rfl, rfl⟩, zDv (Inv := fun _ t H' => t = .int .i64 0 ∧ H' = _) 0 (fun _ => ⟨rfl, rfl⟩) ?_⟩
 rintro q t H' ⟨rfl, rfl⟩ _ _ _ Kb hKb
 simp [zsJ]
 refine zDu (Inv := fun _ t H' => t = .int .i64 0 ∧ H' = _) 0 (fun _ => ⟨rfl, rfl⟩) ?_
 rintro q t H' ⟨rfl, rfl⟩ _ _ _ Kb2 hKb2
 simp [zsI, Nat.add_assoc]
 exact Out.bool rfl (Nat.le_refl _) hs hK
theorem zu3 (hK : K (.bool true) H) : ACalls tP zkg [d4 data] H K := by
 refine ACalls.out (zDC fun hs => ?_)
 simp [zsP, d4, zbr]
 refine ⟨rfl, ⟨rfl, rfl, rfl, rfl⟩, zDA (Inv := fun _ t H' => t = .int .i64 0 ∧ H' = _) 0 (fun _ => ⟨rfl, rfl⟩) ?_⟩
 rintro q t H' ⟨rfl, rfl⟩ _ _ _ Kb hKb
 simp [zsQ]
 exact Out.bool rfl (Nat.le_refl _) hs hK
theorem ztR (hK : K (.bool true) H) : ACalls tP zkh [d4 data] H K := by
 refine ACalls.out (zDM fun hs => ?_)
 simp [zsS, d4, zbr, zau, zaX]
 refine zDI (Inv := fun _ t H' => t = .int .i64 0 ∧ H' = _) 0 (fun _ => ⟨rfl, rfl⟩) ?_
 rintro q t H' ⟨rfl, rfl⟩ _ _ _ Kb hKb
 simp [zsT]
 refine zDJ (Inv := fun _ t H' => t = .int .i64 0 ∧ H' = _) 0 (fun _ => ⟨rfl, rfl⟩) ?_
 rintro q t H' ⟨rfl, rfl⟩ _ _ _ Kb2 hKb2
 simp [zsU]
 exact Out.bool rfl (Nat.le_refl _) hs hK
theorem zBN (hB : zi9 data) (hl : data.length ≤ 1000000) (hK : K (.bool (zbb data)) H) : ACalls tP zj8 [d4 data] H K := by
 refine ACalls.out (zBO fun hs => ?_)
 simp [zrZ, d4]
 refine zCQ data hB hl _ _ ?_
 cases hd : zbb data with
 | false =>
  rw [hd] at hK
  simp
  exact Out.bool rfl (Nat.le_refl _) hs hK
 | true =>
  rw [hd] at hK
  simp
  refine zv2 data ?_
  simp
  refine ztF data ?_
  simp
  refine zvW data ?_
  simp
  refine ztv data ?_
  simp
  refine zu3 data ?_
  simp
  refine ztR data ?_
  exact Out.bool rfl (Nat.le_refl _) hs hK
def zbo (data : List Dat) (t : VT) : Bool := zbb data && za3 data 0 t
end
end Go.Proofs.YtacebbdfgbfgiaaGreat
namespace Go.Proofs.YtacebbdfgbfgiaaGreat
open Go Go.Abs
set_option maxRecDepth 8000
structure DOk (data : List Dat) : Prop where
 ok : zbb data = true
 k : zbf data
theorem zdl {data : List Dat} (h : zbf data) : data.length ≤ 1000000 ∧ (∀ d ∈ data, ∀ c ∈ d.cons, c.args.length ≤ 1000 ∧ ∀ x ∈ c.args, x.nodes ≤ 1000) ∧ ∀ d ∈ data, d.cons.length ≤ 1000000 := by
 obtain ⟨h1, h2⟩ := h
 refine ⟨by omega, fun D hD c hc => ?_, fun D hD => ?_⟩
 ·obtain ⟨_, h3, h4⟩ := h2 D hD
  obtain ⟨_, h5, h6⟩ := h4 c hc
  exact ⟨by omega, fun x hx => by have := h6 x hx; omega⟩
 ·obtain ⟨_, h3, h4⟩ := h2 D hD
  omega
section
variable {data : List Dat} (hD : DOk data)
theorem i0 (n : Nat) : ((n : Int) == 0) = (n == 0) := by
 rw [Bool.eq_iff_iff]; simp
end
theorem zoX : ∀ (a : List VT) (b : List Bool) (x : VT) (y : Bool), a.length = b.length → pick (a ++ [x]) (b ++ [y]) = pick a b ++ (if y then [] else [x])
 | [], [], x, y, _ => by cases y <;> rfl
 | [], _ :: _, _, _, h => by cases h
 | _ :: _, [], _, _, h => by cases h
 | c :: a, d :: b, x, y, h => by
  have := zoX a b x y (by simpa using h)
  cases d <;> simp [pick, this]
theorem zoY {l : List VT} {bs : List Bool} {i : Nat} (h : l.length = bs.length) (hi : i < l.length) : pick (l.take (i + 1)) (bs.take (i + 1)) = pick (l.take i) (bs.take i) ++ (if bs[i]'(by omega) then [] else [l[i]]) := by
 rw [List.take_succ_eq_append_getElem hi, List.take_succ_eq_append_getElem (by omega : i < bs.length)]
 exact zoX _ _ _ _ (by simp; omega)
theorem zoW : ∀ (a : List VT) (b : List Bool), (pick a b).length ≤ a.length
 | [], b => by simp [pick]
 | _ :: _, [] => by simp [pick]
 | c :: a, d :: b => by
  have := zoW a b
  cases d <;> simp [pick] <;> omega
theorem zeX {l : List Bool} {i : Nat} (h : i < (za6 l).length) : (za6 l)[i] = [.bool (l[i]'(by simpa [za6] using h))] := by simp [za6]
theorem zdb (l : List Bool) : (za6 l).length = l.length := by simp [za6]
theorem zkm {data : List Dat} {k n : Int} {ks : List VT} {c : Int} {l : List VT} (hk : zbf data) (hf : zaM data (.mk k n ks) c = some l) :
  ∃ bs, l.length = bs.length ∧ l.length ≤ 8 ∧ zbj data (.mk k n ks) c = some (pick l bs) ∧ (∀ x ∈ l, x.nodes ≤ 200) ∧ k = 5 ∧
   (∀ H K, K (.sl (za6 bs) .none) H → ACalls tP zcV [.sl (data.map Dat.cs) .none, .int .i64 n, .int .i64 c] H K) ∧
   (∀ H K, K (.sl (za6 bs) .none) H → ACalls tP zer [.sl (data.map Dat.cs) .none, .int .i64 n, .int .i64 c] H K) := by
 obtain ⟨k5, n0, c0, hn, hc, hv, rfl, h200⟩ := ze7 hf
 obtain ⟨f1, f2, f3⟩ := zdl hk
 have hd := List.getElem_mem hn
 have hcm := List.getElem_mem hc
 obtain ⟨g1, g2⟩ := f2 _ hd _ hcm
 have g3 := f3 _ hd
 have h8 := ((hk.2 _ hd).2.2 _ hcm).2.1
 refine ⟨zbL n.toNat data[n.toNat] (data[n.toNat]).cons[c.toNat], by simp [zbL], by simpa using h8, ?_, h200, k5, fun H K hK => ?_, fun H K hK => ?_⟩
 ·simp [zbj, hf, zku, hn, hc, List.getD_eq_getElem?_getD, VT.num]
 ·have := zmd data n.toNat c.toNat hn hc f1 g3 (by omega) (fun x hx => by have := g2 x hx; omega) H K (by simpa [za6, zbL, Function.comp_def] using hK)
  rwa [Int.toNat_of_nonneg n0, Int.toNat_of_nonneg c0] at this
 ·have := zsh data n.toNat c.toNat hn hc f1 g3 (by omega) (fun x hx => by have := g2 x hx; omega) H K hK
  rwa [Int.toNat_of_nonneg n0, Int.toNat_of_nonneg c0] at this
theorem zoV {data : List Dat} {t : VT} {c : Int} (hf : zaM data t c = none) : zbj data t c = none := by simp [zbj, hf]
theorem zCC (data : List Dat) (hk : zbf data) (t : VT) (ht : t.nodes ≤ 1000) (c : Int) (H : zaa) (K : Kt) (hK : K (zbE (zbj data t c)) H) :
  ACalls tP zka [.sl (data.map Dat.cs) .none, .agg t.cs, .int .i64 c] H K := by
 refine ACalls.out (zCA fun hs => ?_)
 obtain ⟨f1, f2, f3⟩ := zdl hk
 obtain ⟨k, n, ks⟩ := t
 simp [zse, VT.cs, Nat.add_assoc]
 refine zlB data f1 f2 f3 (.mk k n ks) ht c _ _ ?_
 cases hf : zaM data (.mk k n ks) c with
 | none =>
  rw [zoV hf] at hK
  simp [zbE]
  refine ⟨⟨rfl, rfl⟩, ?_⟩
  exact Out.tup (bs := [.sl [] .none, .bool false]) hs hK ⟨zdU, zaY rfl rfl, trivial⟩
 | some l =>
  obtain ⟨bs, hlb, hl8, hpay, h200, k5, hsc, _⟩ := zkm hk hf
  rw [hpay] at hK
  simp [zbE]
  refine hsc _ _ ?_
  simp [zdb]
  unfold ziT
  refine ALoop.own 10 zaK 3 rfl ?_
  have hl1 : (H ++ [AB.cells [AV.int IntKind.i64 k, AV.int IntKind.i64 n, AV.sl (VT.css ks) Tok.none]]).length = H.length + 1 := by simp
  rw [hl1]
  show ziT (.sl (VT.css l) .none) (.sl [] (.own (H.length + 1))) (.sl (za6 bs) .none) (.int .i64 bs.length) (.int .i64 0) (H ++ [.cells [.int .i64 k, .int .i64 n, .sl (VT.css ks) .none]] ++ [.perm zaK 3 0]) (Out H.length K)
  have hperm : ∀ m, HSc (H ++ [.cells [.int .i64 k, .int .i64 n, .sl (VT.css ks) .none], .perm zaK 3 m]) := fun m => hs.append (by simp [AB.sc, AV.scA, AV.scB])
  refine zCy (Inv := fun q t10 t28 H' => ∃ i : Nat, i ≤ bs.length ∧ q = bs.length - i ∧ t28 = .int .i64 i ∧ t10 = .sl (VT.css (pick (l.take i) (bs.take i))) (.own (H.length + 1)) ∧ H' = H ++ [.cells [.int .i64 k, .int .i64 n, .sl (VT.css ks) .none], .perm zaK 3 (pick (l.take i) (bs.take i)).length]) bs.length ?_ ?_
  ·intro _; exact ⟨0, by omega, by omega, rfl, by simp [pick, VT.css], by simp [pick]⟩
  ·rintro q t10 t28 H' ⟨i, hi, rfl, rfl, rfl, rfl⟩ hsc' hlen hsF Kb hKb
   by_cases hlt : i < bs.length
   ·have hps := zoY hlb (by omega : i < l.length)
    have hpl := zoW (l.take i) (bs.take i)
    rw [List.length_take] at hpl
    have hnext : ∀ J, ziS (.sl (VT.css l) .none) (.sl (VT.css (pick (l.take (i + 1)) (bs.take (i + 1)))) (.own (H.length + 1))) (.sl (za6 bs) .none) (.int .i64 bs.length) (.int .i64 i)
      (H ++ .cells [.int .i64 k, .int .i64 n, .sl (VT.css ks) .none] :: .perm zaK 3 (pick (l.take (i + 1)) (bs.take (i + 1))).length :: J) (Out H.length K) Kb := by
     intro J
     simp [ziS, zsf]
     rw [zal (by omega) (by omega)]
     refine hKb _ _ ⟨bs.length - (i + 1), by omega, Back.at (J := J) (H2 := H ++ [.cells [.int .i64 k, .int .i64 n, .sl (VT.css ks) .none], .perm zaK 3 (pick (l.take (i + 1)) (bs.take (i + 1))).length]) (by simp) (by simp) (hperm _) ?_ ⟨_, _, rfl, i + 1, by omega, rfl, by simp, rfl, rfl⟩⟩
     simp [ziR, AV.sc, AV.scV, AV.scA, AV.scB]
    simp [zmI, zdb, hlt, zeX]
    cases hbi : bs[i] with
    | true =>
     rw [hbi] at hps
     simp at hps
     simp
     have := hnext []
     rw [hps] at this
     exact this
    | false =>
     rw [hbi] at hps
     simp only [Bool.false_eq_true, if_false] at hps
     simp [show i < l.length by omega]
     rw [zdH]
     simp [zar, za0, zaI]
     have := hnext []
     rw [hps] at this
     rw [show VT.css (pick (l.take i) (bs.take i) ++ [l[i]]) = VT.css (pick (l.take i) (bs.take i)) ++ [l[i].cs] by simp [VT.css_map], show (pick (l.take i) (bs.take i) ++ [l[i]]).length = (pick (l.take i) (bs.take i)).length + 1 by simp] at this
     exact ⟨⟨by omega, by omega⟩, this⟩
   ·obtain rfl : i = bs.length := by omega
    rw [List.take_of_length_le (by omega), List.take_length] at *
    simp [zmI]
    refine ⟨⟨rfl, rfl⟩, ?_⟩
    exact Out.tup (bs := [.sl (VT.css (pick l bs)) .none, .bool true]) hs hK ⟨slV, zaY rfl rfl, trivial⟩
end Go.Proofs.YtacebbdfgbfgiaaGreat
