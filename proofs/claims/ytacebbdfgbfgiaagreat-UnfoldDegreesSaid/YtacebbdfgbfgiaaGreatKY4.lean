import Derived.Test.YtacebbdfgbfgiaaGreatKNum
import Derived.Test.YtacebbdfgbfgiaaGreatProg
import Derived.KernelRfl
import Derived.Test.YtacebbdfgbfgiaaGreatAbsQ1
set_option linter.unusedSimpArgs false
set_option linter.unusedVariables false
namespace Go.Proofs.YtacebbdfgbfgiaaGreat
open Go Go.Abs
set_option maxRecDepth 100000
def zh6 : Nat → List Bool
 | 5 => rl false [1,2,2,1,24]
 | _ => []
noncomputable def zlX : Code := Tryz.f48.body.getD .skip
noncomputable def zAd : List ResultVar := Tryz.f48.results.toList
def zh7 (t1 t2 t5 : AV) : List AV := ux 1 (t1 :: t2 :: ux 2 (t5 :: ux 24 []))
def zAb : List Bool := zh6 5
noncomputable def zz9 : Code := zao [1, 1, 1, 0, 1, 0, 0] zlX
def zz8 (K : Kt) : AExit → List AV → zaa → Prop := zap tP zh6 [1, 1, 1, 0, 1, 0] zlX (zaw tP zAd K)
def zrv (t1 t2 t5 : AV) (H : zaa) (K : Kt) : Prop := ALoop tP zz9 (zz8 K) (zh7 t1 t2 t5) H
def zlW (t1 t2 t5 : AV) (H : zaa) (K : Kt) (Kb5 : Lt) : Prop :=
 zaf 2 t2 fun t16 =>
 zad false 1 t16 H fun t17 =>
 zah 1 t17 fun t18 =>
 zac .lss false t5 t18 fun t19 =>
 zag t19
 (zaf 2 t2 fun t22 =>
 zad false 1 t22 H fun t23 =>
 zaj 3 t23 t5 fun t25 =>
 zad true 3 t25 H fun t26 =>
 ACalls tP zfn [t26, t1] H fun t28 H =>
 aUn .not t28 fun t29 =>
 zag t29
 (K (.bool false) H)
 (zac .add false t5 (.int .i64 1) fun t21 =>
 Kb5 (zh7 t1 t2 t21) H))
 (K (.bool true) H)
def zru (t0 t1 : AV) (H : zaa) (K : Kt) : Prop :=
 zaq t0 H fun t2 H =>
 za5 t1 fun t7 =>
 zad false 1 t7 H fun t8 =>
 zac .sub false t8 (.int .i64 1) fun t9 =>
 za5 t1 fun t10 =>
 zak 1 t10 t9 H fun H =>
 za5 t1 fun t12 =>
 zad false 1 t12 H fun t13 =>
 zac .lss false t13 (.int .i64 0) fun t14 =>
 zag t14
 (K (.bool false) H)
 (zrv t1 t2 (.int .i64 0) H K)
theorem zAa {t1 t2 t5 : AV} {H : zaa} {K : Kt} (Inv : Nat → AV → zaa → Prop) (n : Nat) (h0 : HSc H → Inv n t5 H)
  (round : Rd1 (fun t5 => zh7 t1 t2 t5) (fun t5 => fun H Kb5 => zlW t1 t2 t5 H K Kb5) H Inv) : zrv t1 t2 t5 H K :=
 lp1 (M := zh6) zAb t5 (by kernel_rfl) Inv n h0 round
theorem zAc {t0 t1 : AV} {H : zaa} {K : Kt} (h : HSc H → zru t0 t1 H K) : ACalls tP zfn [t0, t1] H K :=
 zan (M := zh6) Tryz.func48 (c := zlX) (by kernel_rfl) (fun hs => Eq.mpr (by kernel_rfl) (h hs))
def zys (_ : Nat) : List Bool := []
noncomputable def zyt : Code := Tryz.f25.body.getD .skip
def zqU (t0 : AV) (H : zaa) (K : Kt) : Prop :=
 zaq t0 H fun t1 H =>
 zat [(.int .i64 0)] H fun t3 H =>
 zak 1 t3 (.int .i64 250) H fun H =>
 zad true 3 t1 H fun t4 =>
 ACalls tP zfn [t4, t3] H fun t5 H =>
 K t5 H
theorem zyu {t0 : AV} {H : zaa} {K : Kt} (h : HSc H → zqU t0 H K) : ACalls tP zjW [t0] H K :=
 zan (M := zys) Tryz.func25 (c := zyt) (by kernel_rfl) (fun hs => Eq.mpr (by kernel_rfl) (h hs))
def zcN : Nat → List Bool
 | 4 => rl false [13,3,43]
 | 9 => rl false [13,3,14,3,26]
 | 15 => rl false [7,1,5,3,14,3,14,3,9]
 | _ => []
noncomputable def zls : Code := Tryz.f24.body.getD .skip
noncomputable def zyq : List ResultVar := Tryz.f24.results.toList
def zfK (t13 t14 t15 : AV) : List AV := ux 13 (t13 :: t14 :: t15 :: ux 43 [])
def zqS : List Bool := zcN 4
noncomputable def zlt : Code := zao [1, 1, 0, 1, 0, 0] zls
def zqN (K : Kt) : AExit → List AV → zaa → Prop := zap tP zcN [1, 1, 0, 1, 0] zls (zaw tP zyq K)
def zqQ (t13 t14 t15 : AV) (H : zaa) (K : Kt) : Prop := ALoop tP zlt (zqN K) (zfK t13 t14 t15) H
def zhD (t13 t14 t15 t30 t31 t32 : AV) : List AV := ux 13 (t13 :: t14 :: t15 :: ux 14 (t30 :: t31 :: t32 :: ux 26 []))
def zqT : List Bool := zcN 9
noncomputable def zlu : Code := zao [1, 1, 0, 0, 1, 1, 1, 0, 0] zlt
def zqO (K : Kt) (Kb4 : Lt) : AExit → List AV → zaa → Prop := zap tP zcN [1, 1, 0, 0, 1, 1, 1, 0] zlt (zbz zqS Kb4 (zqN K))
def zqR (t13 t14 t15 t30 t31 t32 : AV) (H : zaa) (K : Kt) (Kb4 : Lt) : Prop := ALoop tP zlu (zqO K Kb4) (zhD t13 t14 t15 t30 t31 t32) H
def zhC (t7 t13 t14 t15 t30 t31 t32 t47 t48 t49 : AV) : List AV := ux 7 (t7 :: ux 5 (t13 :: t14 :: t15 :: ux 14 (t30 :: t31 :: t32 :: ux 14 (t47 :: t48 :: t49 :: ux 9 []))))
def zyo : List Bool := zcN 15
noncomputable def zyk : Code := zao [1, 1, 0, 0, 1, 1, 1, 1, 0, 0] zlu
def zyj (K : Kt) (Kb4 : Lt) (Kb9 : Lt) : AExit → List AV → zaa → Prop := zap tP zcN [1, 1, 0, 0, 1, 1, 1, 1, 0] zlu (zbz zqT Kb9 (zqO K Kb4))
def zqP (t7 t13 t14 t15 t30 t31 t32 t47 t48 t49 : AV) (H : zaa) (K : Kt) (Kb4 : Lt) (Kb9 : Lt) : Prop := ALoop tP zyk (zyj K Kb4 Kb9) (zhC t7 t13 t14 t15 t30 t31 t32 t47 t48 t49) H
def zlp (t7 t13 t14 t15 t30 t31 t32 t47 t48 t49 : AV) (H : zaa) (K : Kt) (Kb4 : Lt) (Kb9 : Lt) (Kb15 : Lt) : Prop :=
 zac .lss false t49 t48 fun t50 =>
 zag t50
 (zaj 3 t47 t49 fun t51 =>
 zad true 3 t51 H fun t52 =>
 zat [(.int .i64 0), (.int .i64 0), .snil] H fun t9 H =>
 zak 3 t9 t52 H fun H =>
 zad true 3 t9 H fun t53 =>
 ACalls tP zfn [t53, t7] H fun t54 H =>
 aUn .not t54 fun t55 =>
 zag t55
 (K (.bool false) H)
 (zac .add false t49 (.int .i64 1) fun t56 =>
 Kb15 (zhC t7 t13 t14 t15 t30 t31 t32 t47 t48 t56) H))
 (zac .add false t32 (.int .i64 1) fun t57 =>
 Kb9 (zhD t13 t14 t15 t30 t31 t57) H)
def zlr (t13 t14 t15 t30 t31 t32 : AV) (H : zaa) (K : Kt) (Kb4 : Lt) (Kb9 : Lt) : Prop :=
 zac .lss false t32 t31 fun t33 =>
 zag t33
 (zaj 2 t30 t32 fun t34 =>
 zad true 2 t34 H fun t35 =>
 zat [(.str []), .snil] H fun t6 H =>
 zak 2 t6 t35 H fun H =>
 zaf 0 t6 fun t36 =>
 zad false 1 t36 H fun t37 =>
 zah 0 t37 fun t38 =>
 zac .gtr false t38 (.int .i64 40) fun t39 =>
 zab t39 false H (fun K' => zaf 1 t6 (K' · H)) fun t41 H =>
 zab t39 false H (fun K' => zad false 1 t41 H (K' · H)) fun t42 H =>
 zab t39 false H (fun K' => zah 1 t42 (K' · H)) fun t43 H =>
 zab t39 false H (fun K' => zac .gtr false t43 (.int .i64 8) (K' · H)) fun t44 H =>
 zai t39 (.bool true) t44 fun t45 =>
 zag t45
 (K (.bool false) H)
 (zat [(.int .i64 0)] H fun t7 H =>
 zak 1 t7 (.int .i64 20) H fun H =>
 zaf 1 t6 fun t46 =>
 zad false 1 t46 H fun t47 =>
 zah 1 t47 fun t48 =>
 zqP t7 t13 t14 t15 t30 t31 t32 t47 t48 (.int .i64 0) H K Kb4 Kb9))
 (zac .add false t15 (.int .i64 1) fun t58 =>
 Kb4 (zfK t13 t14 t58) H)
def zlq (t13 t14 t15 : AV) (H : zaa) (K : Kt) (Kb4 : Lt) : Prop :=
 zac .lss false t15 t14 fun t16 =>
 zag t16
 (zaj 3 t13 t15 fun t17 =>
 zad true 3 t17 H fun t18 =>
 zat [(.str []), (.int .i64 0), .snil] H fun t4 H =>
 zak 3 t4 t18 H fun H =>
 zaf 0 t4 fun t19 =>
 zad false 1 t19 H fun t20 =>
 zah 0 t20 fun t21 =>
 zac .gtr false t21 (.int .i64 40) fun t22 =>
 zab t22 false H (fun K' => zaf 2 t4 (K' · H)) fun t24 H =>
 zab t22 false H (fun K' => zad false 1 t24 H (K' · H)) fun t25 H =>
 zab t22 false H (fun K' => zah 1 t25 (K' · H)) fun t26 H =>
 zab t22 false H (fun K' => zac .gtr false t26 (.int .i64 10) (K' · H)) fun t27 H =>
 zai t22 (.bool true) t27 fun t28 =>
 zag t28
 (K (.bool false) H)
 (zaf 2 t4 fun t29 =>
 zad false 1 t29 H fun t30 =>
 zah 1 t30 fun t31 =>
 zqR t13 t14 t15 t30 t31 (.int .i64 0) H K Kb4))
 (K (.bool true) H)
def zlo (t0 : AV) (H : zaa) (K : Kt) : Prop :=
 zah 1 t0 fun t11 =>
 zac .gtr false t11 (.int .i64 14) fun t12 =>
 zag t12
 (K (.bool false) H)
 (zah 1 t0 fun t14 =>
 zqQ t0 t14 (.int .i64 0) H K)
theorem zyl {t7 t13 t14 t15 t30 t31 t32 t47 t48 t49 : AV} {H : zaa} {K : Kt} {Kb4 : Lt} {Kb9 : Lt} (Inv : Nat → AV → zaa → Prop) (n : Nat) (h0 : HSc H → Inv n t49 H)
  (round : Rd1 (fun t49 => zhC t7 t13 t14 t15 t30 t31 t32 t47 t48 t49) (fun t49 => fun H Kb15 => zlp t7 t13 t14 t15 t30 t31 t32 t47 t48 t49 H K Kb4 Kb9 Kb15) H Inv) : zqP t7 t13 t14 t15 t30 t31 t32 t47 t48 t49 H K Kb4 Kb9 :=
 lp1 (M := zcN) zyo t49 (by kernel_rfl) Inv n h0 round
theorem zyn {t13 t14 t15 t30 t31 t32 : AV} {H : zaa} {K : Kt} {Kb4 : Lt} (Inv : Nat → AV → zaa → Prop) (n : Nat) (h0 : HSc H → Inv n t32 H)
  (round : Rd1 (fun t32 => zhD t13 t14 t15 t30 t31 t32) (fun t32 => fun H Kb9 => zlr t13 t14 t15 t30 t31 t32 H K Kb4 Kb9) H Inv) : zqR t13 t14 t15 t30 t31 t32 H K Kb4 :=
 lp1 (M := zcN) zqT t32 (by kernel_rfl) Inv n h0 round
theorem zym {t13 t14 t15 : AV} {H : zaa} {K : Kt} (Inv : Nat → AV → zaa → Prop) (n : Nat) (h0 : HSc H → Inv n t15 H)
  (round : Rd1 (fun t15 => zfK t13 t14 t15) (fun t15 => fun H Kb4 => zlq t13 t14 t15 H K Kb4) H Inv) : zqQ t13 t14 t15 H K :=
 lp1 (M := zcN) zqS t15 (by kernel_rfl) Inv n h0 round
theorem zyp {t0 : AV} {H : zaa} {K : Kt} (h : HSc H → zlo t0 H K) : ACalls tP zjV [t0] H K :=
 zan (M := zcN) Tryz.func24 (c := zls) (by kernel_rfl) (fun hs => Eq.mpr (by kernel_rfl) (h hs))
def zBP (_ : Nat) : List Bool := []
noncomputable def zBQ : Code := Tryz.f71.body.getD .skip
def zr0 (t0 t1 t2 : AV) (H : zaa) (K : Kt) : Prop :=
 zaq t1 H fun t4 H =>
 zau [.snil, (.int .i64 0), (.int .i64 0)] [(0, 1), (1, 1), (2, 1)] [(0, t0), (1, t2), (2, (.int .i64 200))] fun t10 =>
 zaq t10 H fun t11 H =>
 zad true 3 t4 H fun t13 =>
 ACalls tP zgH [t11, t13] H fun t14 H =>
 K t14 H
theorem zBR {t0 t1 t2 : AV} {H : zaa} {K : Kt} (h : HSc H → zr0 t0 t1 t2 H K) : ACalls tP zfq [t0, t1, t2] H K :=
 zan (M := zBP) Tryz.func71 (c := zBQ) (by kernel_rfl) (fun hs => Eq.mpr (by kernel_rfl) (h hs))
def zc3 : Nat → List Bool
 | 171022 => rl false [2,2,16,1,53,1,34]
 | 150010 => rl false [2,2,1,2,13,2,87]
 | 100007 => rl false [2,2,1,2,13,1,88]
 | 100002 => rl false [2,2,105]
 | _ => []
noncomputable def zc4 : Code := Tryz.f97.body.getD .skip
noncomputable def zi7 : List ResultVar := Tryz.f97.results.toList
def zeP (t2 t3 t5 t6 : AV) (H : zaa) (K : Kt) : Prop :=
 zaf 0 t3 fun t79 =>
 zad false 1 t79 H fun t80 =>
 zac .neq false t80 (.int .i64 4) fun t81 =>
 zab t81 true H (fun K' => zaf 0 t3 (K' · H)) fun t83 H =>
 zab t81 true H (fun K' => zad false 1 t83 H (K' · H)) fun t84 H =>
 zab t81 true H (fun K' => zac .neq false t84 (.int .i64 5) (K' · H)) fun t85 H =>
 zai t81 t85 (.bool false) fun t86 =>
 zab t86 true H (fun K' => zaf 1 t3 (K' · H)) fun t88 H =>
 zab t86 true H (fun K' => zad false 1 t88 H (K' · H)) fun t89 H =>
 zab t86 true H (fun K' => zac .neq false t89 (.int .i64 0) (K' · H)) fun t90 H =>
 zai t86 t90 (.bool false) fun t91 =>
 zag t91
 (K (.bool false) H)
 (zaf 2 t3 fun t92 =>
 zad false 1 t92 H fun t93 =>
 zah 1 t93 fun t94 =>
 zac .lss false t94 t5 fun t96 =>
 zab t96 false H (fun K' => zaf 2 t3 (K' · H)) fun t98 H =>
 zab t96 false H (fun K' => zad false 1 t98 H (K' · H)) fun t99 H =>
 zab t96 false H (fun K' => zah 1 t99 (K' · H)) fun t100 H =>
 zab t96 false H (fun K' => K' t6 H) fun t101 H =>
 zab t96 false H (fun K' => zac .gtr false t100 t101 (K' · H)) fun t102 H =>
 zai t96 (.bool true) t102 fun t103 =>
 zag t103
 (K (.bool false) H)
 (zaf 2 t3 fun t104 =>
 zad false 1 t104 H fun t105 =>
 zbU zgf [t2] fun t106 =>
 ACalls tP zdP [t105, t106] H fun t107 H =>
 aUn .not t107 fun t108 =>
 K t108 H))
def zcv (t2 t3 t5 t6 : AV) (H : zaa) (K : Kt) : Prop :=
 zeP t2 t3 t5 t6 H K
noncomputable def zDW : Code := zao [1, 1, 1, 1, 0, 1, 0, 1, 1, 1, 1, 1, 1, 1, 1, 1] zc4
def zDV (K : Kt) : AExit → List AV → zaa → Prop := zap tP zc3 [1, 1, 1, 1, 0, 1, 0, 1, 1, 1, 1, 1, 1, 1, 1, 1] zc4 (zaw tP zi7 K)
def zna (t2 t3 t20 t74 : AV) (H : zaa) (K : Kt) : Prop := AWp tP zDW (zDV K) (ux 2 (t2 :: t3 :: ux 16 (t20 :: ux 53 (t74 :: ux 34 [])))) H
def zi6 (t2 t3 t20 t74 : AV) (H : zaa) (K : Kt) : Prop :=
 zag t74
 (zcv t2 t3 (.int .i64 1) (.int .i64 1) H K)
 (zac .eql false t20 (.int .i64 9) fun t78 =>
 zag t78
 (zcv t2 t3 (.int .i64 1) (.int .i64 7) H K)
 (K (.bool false) H))
noncomputable def zDU : Code := zao [1, 1, 1, 1, 0, 1, 0, 1] zc4
def zDT (K : Kt) : AExit → List AV → zaa → Prop := zap tP zc3 [1, 1, 1, 1, 0, 1, 0, 1] zc4 (zaw tP zi7 K)
def zi5 (t2 t3 t5 t6 t20 t21 : AV) (H : zaa) (K : Kt) : Prop := AWp tP zDU (zDT K) (ux 2 (t2 :: t3 :: ux 1 (t5 :: t6 :: ux 13 (t20 :: t21 :: ux 87 [])))) H
def zcC (t2 t3 t5 t6 t20 t21 : AV) (H : zaa) (K : Kt) : Prop :=
 zag t21
 (zcv t2 t3 t5 t6 H K)
 (zac .eql false t20 (.int .i64 4) fun t26 =>
 zag t26
 (zae H (fun K' => zaf 1 t3 (K' · H)) fun t27 =>
 zae H (fun K' => zam false 1 t27 H (K' · H)) fun t28 =>
 zae H (fun K' => zac .lss false t28 (.int .i64 0) (K' · H)) fun t29 =>
 zae H (fun K' => K' t29 H) fun t30 =>
 zab t30 false H (fun K' => zae H (fun K'' => zaf 1 t3 (K'' · H)) (K' · H)) fun t31 H =>
 zab t30 false H (fun K' => zae H (fun K'' => zam false 1 t31 H (K'' · H)) (K' · H)) fun t32 H =>
 zab t30 false H (fun K' => zae H (fun K'' => zam false 1 t2 H (K'' · H)) (K' · H)) fun t33 H =>
 zab t30 false H (fun K' => zae H (fun K'' => za5 t33 (K'' · H)) (K' · H)) fun t34 H =>
 zab t30 false H (fun K' => zae H (fun K'' => zaf 1 t34 (K'' · H)) (K' · H)) fun t35 H =>
 zab t30 false H (fun K' => zae H (fun K'' => zam false 1 t35 H (K'' · H)) (K' · H)) fun t36 H =>
 zab t30 false H (fun K' => zae H (fun K'' => zac .geq false t32 t36 (K'' · H)) (K' · H)) fun t37 H =>
 zae H (fun K' => zai t30 (.bool true) t37 (K' · H)) fun t38 =>
 zag t38
 (K (.bool false) H)
 (zcv t2 t3 t5 t6 H K))
 (zac .eql false t20 (.int .i64 5) fun t40 =>
 zag t40
 (zae H (fun K' => zaf 1 t3 (K' · H)) fun t41 =>
 zae H (fun K' => zam false 1 t41 H (K' · H)) fun t42 =>
 zae H (fun K' => zac .lss false t42 (.int .i64 0) (K' · H)) fun t43 =>
 zae H (fun K' => K' t43 H) fun t44 =>
 zab t44 false H (fun K' => zae H (fun K'' => zaf 1 t3 (K'' · H)) (K' · H)) fun t45 H =>
 zab t44 false H (fun K' => zae H (fun K'' => zam false 1 t45 H (K'' · H)) (K' · H)) fun t46 H =>
 zab t44 false H (fun K' => zae H (fun K'' => zam false 1 t2 H (K'' · H)) (K' · H)) fun t47 H =>
 zab t44 false H (fun K' => zae H (fun K'' => za5 t47 (K'' · H)) (K' · H)) fun t48 H =>
 zab t44 false H (fun K' => zae H (fun K'' => zaf 0 t48 (K'' · H)) (K' · H)) fun t49 H =>
 zab t44 false H (fun K' => zae H (fun K'' => zam false 1 t49 H (K'' · H)) (K' · H)) fun t50 H =>
 zab t44 false H (fun K' => zae H (fun K'' => zah 1 t50 (K'' · H)) (K' · H)) fun t51 H =>
 zab t44 false H (fun K' => zae H (fun K'' => zac .geq false t46 t51 (K'' · H)) (K' · H)) fun t52 H =>
 zae H (fun K' => zai t44 (.bool true) t52 (K' · H)) fun t53 =>
 zag t53
 (K (.bool false) H)
 (zae H (fun K' => zam false 1 t2 H (K' · H)) fun t54 =>
 zae H (fun K' => za5 t54 (K' · H)) fun t55 =>
 zae H (fun K' => zaf 0 t55 (K' · H)) fun t56 =>
 zae H (fun K' => zam false 1 t56 H (K' · H)) fun t57 =>
 zae H (fun K' => zaf 1 t3 (K' · H)) fun t58 =>
 zae H (fun K' => zam false 1 t58 H (K' · H)) fun t59 =>
 zae H (fun K' => zaj 3 t57 t59 (K' · H)) fun t60 =>
 zae H (fun K' => zaf 1 t60 (K' · H)) fun t61 =>
 zae H (fun K' => zam false 1 t61 H (K' · H)) fun t62 =>
 zae H (fun K' => zam false 1 t2 H (K' · H)) fun t63 =>
 zae H (fun K' => za5 t63 (K' · H)) fun t64 =>
 zae H (fun K' => zaf 0 t64 (K' · H)) fun t65 =>
 zae H (fun K' => zam false 1 t65 H (K' · H)) fun t66 =>
 zae H (fun K' => zaf 1 t3 (K' · H)) fun t67 =>
 zae H (fun K' => zam false 1 t67 H (K' · H)) fun t68 =>
 zae H (fun K' => zaj 3 t66 t68 (K' · H)) fun t69 =>
 zae H (fun K' => zaf 1 t69 (K' · H)) fun t70 =>
 zae H (fun K' => zam false 1 t70 H (K' · H)) fun t71 =>
 zae H (fun K' => K' t62 H) fun t5 =>
 zae H (fun K' => K' t71 H) fun t6 =>
 zcv t2 t3 t5 t6 H K))
 (zac .eql false t20 (.int .i64 6) fun t73 =>
 zag t73
 (zcv t2 t3 (.int .i64 2) (.int .i64 6) H K)
 (zac .eql false t20 (.int .i64 7) fun t75 =>
 zag t75
 (zna t2 t3 t20 t75 H K)
 (zac .eql false t20 (.int .i64 8) fun t76 =>
 zna t2 t3 t20 t76 H K)))))
noncomputable def zDR : Code := zao [1, 1, 1, 1, 0, 1] zc4
def zDQ (K : Kt) : AExit → List AV → zaa → Prop := zap tP zc3 [1, 1, 1, 1, 0, 1] zc4 (zaw tP zi7 K)
def zsZ (t2 t3 t5 t6 t20 : AV) (H : zaa) (K : Kt) : Prop := AWp tP zDR (zDQ K) (ux 2 (t2 :: t3 :: ux 1 (t5 :: t6 :: ux 13 (t20 :: ux 88 [])))) H
def zm9 (t2 t3 t5 t6 t20 : AV) (H : zaa) (K : Kt) : Prop :=
 zac .eql false t20 (.int .i64 1) fun t22 =>
 zag t22
 (zi5 t2 t3 t5 t6 t20 t22 H K)
 (zac .eql false t20 (.int .i64 2) fun t23 =>
 zag t23
 (zi5 t2 t3 t5 t6 t20 t23 H K)
 (zac .eql false t20 (.int .i64 3) fun t24 =>
 zi5 t2 t3 t5 t6 t20 t24 H K))
noncomputable def zDO : Code := zao [1, 1] zc4
def zDN (K : Kt) : AExit → List AV → zaa → Prop := zap tP zc3 [1, 1] zc4 (zaw tP zi7 K)
def zm7 (t2 t3 : AV) (H : zaa) (K : Kt) : Prop := AWp tP zDO (zDN K) (ux 2 (t2 :: t3 :: ux 105 [])) H
def zm8 (t2 t3 : AV) (H : zaa) (K : Kt) : Prop :=
 zad false 1 t2 H fun t14 =>
 za5 t14 fun t15 =>
 zaf 2 t15 fun t16 =>
 zad false 1 t16 H fun t17 =>
 zac .lss false t17 (.int .i64 0) fun t18 =>
 zag t18
 (K (.bool false) H)
 (zaf 0 t3 fun t19 =>
 zad false 1 t19 H fun t20 =>
 zsZ t2 t3 (.int .i64 0) (.int .i64 0) t20 H K)
def zsY (t0 t1 : AV) (H : zaa) (K : Kt) : Prop :=
 zaq t0 H fun t2 H =>
 zaq t1 H fun t3 H =>
 zad false 1 t2 H fun t7 =>
 za5 t7 fun t8 =>
 zaf 2 t8 fun t9 =>
 zad false 1 t9 H fun t10 =>
 zac .sub false t10 (.int .i64 1) fun t11 =>
 za5 t7 fun t12 =>
 zaf 2 t12 fun t13 =>
 zak 1 t13 t11 H fun H =>
 zm7 t2 t3 H K
theorem zs1 {t2 t3 t20 t74 : AV} {H : zaa} {K : Kt} (h : HSc H → zi6 t2 t3 t20 t74 H K) : zna t2 t3 t20 t74 H K :=
 fun B w G a hH hF hd => zdG (M := zc3) _ _ _ _ (Eq.mpr (by kernel_rfl) (h hH.sc)) B w G a hH hF hd
theorem zs0 {t2 t3 t5 t6 t20 t21 : AV} {H : zaa} {K : Kt} (h : HSc H → zcC t2 t3 t5 t6 t20 t21 H K) : zi5 t2 t3 t5 t6 t20 t21 H K :=
 fun B w G a hH hF hd => zdG (M := zc3) _ _ _ _ (Eq.mpr (by kernel_rfl) (h hH.sc)) B w G a hH hF hd
theorem zDS {t2 t3 t5 t6 t20 : AV} {H : zaa} {K : Kt} (h : HSc H → zm9 t2 t3 t5 t6 t20 H K) : zsZ t2 t3 t5 t6 t20 H K :=
 fun B w G a hH hF hd => zdG (M := zc3) _ _ _ _ (Eq.mpr (by kernel_rfl) (h hH.sc)) B w G a hH hF hd
theorem zDP {t2 t3 : AV} {H : zaa} {K : Kt} (h : HSc H → zm8 t2 t3 H K) : zm7 t2 t3 H K :=
 fun B w G a hH hF hd => zdG (M := zc3) _ _ _ _ (Eq.mpr (by kernel_rfl) (h hH.sc)) B w G a hH hF hd
theorem zDX {t0 t1 : AV} {H : zaa} {K : Kt} (h : HSc H → zsY t0 t1 H K) : ACalls tP zgH [t0, t1] H K :=
 zan (M := zc3) Tryz.func97 (c := zc4) (by kernel_rfl) (fun hs => Eq.mpr (by kernel_rfl) (h hs))
def zwD (_ : Nat) : List Bool := []
noncomputable def zwE : Code := Tryz.f114.body.getD .skip
def zqk (t0 t1 : AV) (H : zaa) (K : Kt) : Prop :=
 zaq t0 H fun t2 H =>
 zad false 1 t1 H fun t4 =>
 zad true 3 t2 H fun t5 =>
 ACalls tP zgH [t4, t5] H fun t6 H =>
 aUn .not t6 fun t7 =>
 K t7 H
theorem zwF {t0 t1 : AV} {H : zaa} {K : Kt} (h : HSc H → zqk t0 t1 H K) : ACalls tP zgf [t0, t1] H K :=
 zan (M := zwD) Tryz.func114 (c := zwE) (by kernel_rfl) (fun hs => Eq.mpr (by kernel_rfl) (h hs))
def zwA (_ : Nat) : List Bool := []
noncomputable def zwB : Code := Tryz.f106.body.getD .skip
def zqi (t0 t1 : AV) (H : zaa) (K : Kt) : Prop :=
 ACalls tP zjP [t0, t1] H fun t7 H =>
 zac .geq false t7 (.int .i64 0) fun t8 =>
 K t8 H
theorem zwC {t0 t1 : AV} {H : zaa} {K : Kt} (h : HSc H → zqi t0 t1 H K) : ACalls tP zdP [t0, t1] H K :=
 zan (M := zwA) Tryz.func106 (c := zwB) (by kernel_rfl) (fun hs => Eq.mpr (by kernel_rfl) (h hs))
def zho : Nat → List Bool
 | 2 => rl false [0,2,5,2,10]
 | _ => []
noncomputable def zlc : Code := Tryz.f124.body.getD .skip
noncomputable def zxq : List ResultVar := Tryz.f124.results.toList
def zhp (t0 t1 t7 t8 : AV) : List AV := t0 :: t1 :: ux 5 (t7 :: t8 :: ux 10 [])
def zxo : List Bool := zho 2
noncomputable def zxm : Code := zao [1, 0, 1, 0, 0] zlc
def zxl (K : Kt) : AExit → List AV → zaa → Prop := zap tP zho [1, 0, 1, 0] zlc (zaw tP zxq K)
def zqy (t0 t1 t7 t8 : AV) (H : zaa) (K : Kt) : Prop := ALoop tP zxm (zxl K) (zhp t0 t1 t7 t8) H
def zlb (t0 t1 t7 t8 : AV) (H : zaa) (K : Kt) (Kb2 : Lt) : Prop :=
 zac .lss false t8 t7 fun t9 =>
 zag t9
 (zaj 3 t0 t8 fun t14 =>
 zad true 3 t14 H fun t15 =>
 aCallV tP t1 [t15] H fun t16 H =>
 zag t16
 (K t8 H)
 (zac .add false t8 (.int .i64 1) fun t18 =>
 Kb2 (zhp t0 t1 t7 t18) H))
 (K (.int .i64 (-1)) H)
def zqx (t0 t1 : AV) (H : zaa) (K : Kt) : Prop :=
 zah 1 t0 fun t7 =>
 zqy t0 t1 t7 (.int .i64 0) H K
theorem zxn {t0 t1 t7 t8 : AV} {H : zaa} {K : Kt} (Inv : Nat → AV → zaa → Prop) (n : Nat) (h0 : HSc H → Inv n t8 H)
  (round : Rd1 (fun t8 => zhp t0 t1 t7 t8) (fun t8 => fun H Kb2 => zlb t0 t1 t7 t8 H K Kb2) H Inv) : zqy t0 t1 t7 t8 H K :=
 lp1 (M := zho) zxo t8 (by kernel_rfl) Inv n h0 round
theorem zxp {t0 t1 : AV} {H : zaa} {K : Kt} (h : HSc H → zqx t0 t1 H K) : ACalls tP zjP [t0, t1] H K :=
 zan (M := zho) Tryz.func124 (c := zlc) (by kernel_rfl) (fun hs => Eq.mpr (by kernel_rfl) (h hs))
def zcO : Nat → List Bool
 | 8 => rl false [2,1,1,1,3,2,49,3,46]
 | 13 => rl false [2,1,1,1,3,2,67,3,28]
 | 20 => rl false [4,1,9,1,78,3,12]
 | _ => []
noncomputable def zd0 : Code := Tryz.f28.body.getD .skip
noncomputable def zlA : List ResultVar := Tryz.f28.results.toList
def zhI (t2 t4 t8 t9 t59 t60 t61 : AV) : List AV := ux 2 (t2 :: ux 1 (t4 :: ux 3 (t8 :: t9 :: ux 49 (t59 :: t60 :: t61 :: ux 46 []))))
def zyS : List Bool := zcO 8
noncomputable def zyM : Code := zao [1, 1, 1, 1, 1, 0, 1, 0, 0] zd0
def zyJ (K : Kt) : AExit → List AV → zaa → Prop := zap tP zcO [1, 1, 1, 1, 1, 0, 1, 0] zd0 (zaw tP zlA K)
def zq0 (t2 t4 t8 t9 t59 t60 t61 : AV) (H : zaa) (K : Kt) : Prop := ALoop tP zyM (zyJ K) (zhI t2 t4 t8 t9 t59 t60 t61) H
def zhG (t2 t4 t8 t9 t77 t78 t79 : AV) : List AV := ux 2 (t2 :: ux 1 (t4 :: ux 3 (t8 :: t9 :: ux 67 (t77 :: t78 :: t79 :: ux 28 []))))
def zyQ : List Bool := zcO 13
noncomputable def zyK : Code := zao [1, 1, 1, 1, 1, 1, 0, 1, 0, 0] zd0
def zyH (K : Kt) : AExit → List AV → zaa → Prop := zap tP zcO [1, 1, 1, 1, 1, 1, 0, 1, 0] zd0 (zaw tP zlA K)
def zqZ (t2 t4 t8 t9 t77 t78 t79 : AV) (H : zaa) (K : Kt) : Prop := ALoop tP zyK (zyH K) (zhG t2 t4 t8 t9 t77 t78 t79) H
def zhH (t4 t14 t93 t94 t95 : AV) : List AV := ux 4 (t4 :: ux 9 (t14 :: ux 78 (t93 :: t94 :: t95 :: ux 12 [])))
def zyR : List Bool := zcO 20
noncomputable def zyL : Code := zao [1, 1, 1, 1, 1, 1, 1, 1, 0, 1, 0, 0] zd0
def zyI (K : Kt) : AExit → List AV → zaa → Prop := zap tP zcO [1, 1, 1, 1, 1, 1, 1, 1, 0, 1, 0] zd0 (zaw tP zlA K)
def zhJ (t4 t14 t93 t94 t95 : AV) (H : zaa) (K : Kt) : Prop := ALoop tP zyL (zyI K) (zhH t4 t14 t93 t94 t95) H
def zly (t4 t14 t93 t94 t95 : AV) (H : zaa) (K : Kt) (Kb20 : Lt) : Prop :=
 zac .lss false t95 t94 fun t96 =>
 zag t96
 (zaj 3 t93 t95 fun t97 =>
 zad true 3 t97 H fun t98 =>
 zat [(.int .i64 0), (.int .i64 0), .snil] H fun t16 H =>
 zak 3 t16 t98 H fun H =>
 zad true 3 t16 H fun t100 =>
 zaf 2 t4 fun t101 =>
 zad false 1 t101 H fun t102 =>
 ACalls tP zfo [t100, t102] H fun t103 H =>
 zax 3 [(.int .i64 0), (.int .i64 0), .snil] 1 [(0, t103)] fun t104 =>
 zar zaK 3 40 t14 t104 H fun t105 H =>
 zac .add false t95 (.int .i64 1) fun t106 =>
 Kb20 (zhH t4 t105 t93 t94 t106) H)
 (zav [t14, (.bool true)] (K · H))
def zlx (t2 t4 t8 t9 t77 t78 t79 : AV) (H : zaa) (K : Kt) (Kb13 : Lt) : Prop :=
 zac .lss false t79 t78 fun t80 =>
 zag t80
 (zaj 3 t77 t79 fun t81 =>
 zad true 3 t81 H fun t82 =>
 zat [(.int .i64 0), (.int .i64 0), .snil] H fun t13 H =>
 zak 3 t13 t82 H fun H =>
 zad true 3 t13 H fun t83 =>
 ACalls tP zgu [t83, t9] H fun t85 H =>
 zac .gtr false t85 (.int .i64 200) fun t86 =>
 zag t86
 (zav [.snil, (.bool false)] (K · H))
 (zac .add false t79 (.int .i64 1) fun t87 =>
 Kb13 (zhG t2 t4 t8 t9 t77 t78 t87) H))
 (zaf 2 t8 fun t88 =>
 zad false 1 t88 H fun t89 =>
 zaj 2 t89 t2 fun t91 =>
 zaf 1 t91 fun t92 =>
 zad false 1 t92 H fun t93 =>
 zah 1 t93 fun t94 =>
 zhJ t4 .snil t93 t94 (.int .i64 0) H K)
def zlz (t2 t4 t8 t9 t59 t60 t61 : AV) (H : zaa) (K : Kt) (Kb8 : Lt) : Prop :=
 zac .lss false t61 t60 fun t62 =>
 zag t62
 (zaj 3 t59 t61 fun t64 =>
 zad true 3 t64 H fun t65 =>
 zat [(.int .i64 0), (.int .i64 0), .snil] H fun t11 H =>
 zak 3 t11 t65 H fun H =>
 zad true 3 t11 H fun t68 =>
 ACalls tP zgt [t68] H fun t69 H =>
 zaj 1 t9 t61 fun t70 =>
 zak 1 t70 t69 H fun H =>
 zac .add false t61 (.int .i64 1) fun t71 =>
 Kb8 (zhI t2 t4 t8 t9 t59 t60 t71) H)
 (zaf 2 t8 fun t72 =>
 zad false 1 t72 H fun t73 =>
 zaj 2 t73 t2 fun t75 =>
 zaf 1 t75 fun t76 =>
 zad false 1 t76 H fun t77 =>
 zah 1 t77 fun t78 =>
 zqZ t2 t4 t8 t9 t77 t78 (.int .i64 0) H K)
def zqY (t0 t1 t2 : AV) (H : zaa) (K : Kt) : Prop :=
 zaq t1 H fun t4 H =>
 zaf 0 t4 fun t17 =>
 zad false 1 t17 H fun t18 =>
 zac .neq false t18 (.int .i64 5) fun t19 =>
 zab t19 false H (fun K' => zaf 1 t4 (K' · H)) fun t21 H =>
 zab t19 false H (fun K' => zad false 1 t21 H (K' · H)) fun t22 H =>
 zab t19 false H (fun K' => zac .lss false t22 (.int .i64 0) (K' · H)) fun t23 H =>
 zai t19 (.bool true) t23 fun t24 =>
 zab t24 false H (fun K' => zaf 1 t4 (K' · H)) fun t26 H =>
 zab t24 false H (fun K' => zad false 1 t26 H (K' · H)) fun t27 H =>
 zab t24 false H (fun K' => K' t0 H) fun t28 H =>
 zab t24 false H (fun K' => zah 1 t28 (K' · H)) fun t29 H =>
 zab t24 false H (fun K' => zac .geq false t27 t29 (K' · H)) fun t30 H =>
 zai t24 (.bool true) t30 fun t31 =>
 zag t31
 (zav [.snil, (.bool false)] (K · H))
 (zaf 1 t4 fun t33 =>
 zad false 1 t33 H fun t34 =>
 zaj 3 t0 t34 fun t35 =>
 zad true 3 t35 H fun t36 =>
 zat [(.str []), (.int .i64 0), .snil] H fun t8 H =>
 zak 3 t8 t36 H fun H =>
 zaf 2 t4 fun t37 =>
 zad false 1 t37 H fun t38 =>
 zah 1 t38 fun t39 =>
 zaf 1 t8 fun t40 =>
 zad false 1 t40 H fun t41 =>
 zac .neq false t39 t41 fun t42 =>
 zab t42 false H (fun K' => K' t2 H) fun t44 H =>
 zab t42 false H (fun K' => zac .lss false t44 (.int .i64 0) (K' · H)) fun t45 H =>
 zai t42 (.bool true) t45 fun t46 =>
 zab t46 false H (fun K' => K' t2 H) fun t48 H =>
 zab t46 false H (fun K' => zaf 2 t8 (K' · H)) fun t49 H =>
 zab t46 false H (fun K' => zad false 1 t49 H (K' · H)) fun t50 H =>
 zab t46 false H (fun K' => zah 1 t50 (K' · H)) fun t51 H =>
 zab t46 false H (fun K' => zac .geq false t48 t51 (K' · H)) fun t52 H =>
 zai t46 (.bool true) t52 fun t53 =>
 zag t53
 (zav [.snil, (.bool false)] (K · H))
 (zaf 2 t4 fun t54 =>
 zad false 1 t54 H fun t55 =>
 zah 1 t55 fun t56 =>
 zbr 8 [(.int .i64 0)] t56 t56 H fun t57 H =>
 zaf 2 t4 fun t58 =>
 zad false 1 t58 H fun t59 =>
 zah 1 t59 fun t60 =>
 zq0 t2 t4 t8 t57 t59 t60 (.int .i64 0) H K))
theorem zyO {t4 t14 t93 t94 t95 : AV} {H : zaa} {K : Kt} (Inv : Nat → AV → AV → zaa → Prop) (n : Nat) (h0 : HSc H → Inv n t14 t95 H)
  (round : Rd2 (fun t14 => fun t95 => zhH t4 t14 t93 t94 t95) (fun t14 => fun t95 => fun H Kb20 => zly t4 t14 t93 t94 t95 H K Kb20) H Inv) : zhJ t4 t14 t93 t94 t95 H K :=
 lp2 (M := zcO) zyR t14 t95 (by kernel_rfl) Inv n h0 round
theorem zyN {t2 t4 t8 t9 t77 t78 t79 : AV} {H : zaa} {K : Kt} (Inv : Nat → AV → zaa → Prop) (n : Nat) (h0 : HSc H → Inv n t79 H)
  (round : Rd1 (fun t79 => zhG t2 t4 t8 t9 t77 t78 t79) (fun t79 => fun H Kb13 => zlx t2 t4 t8 t9 t77 t78 t79 H K Kb13) H Inv) : zqZ t2 t4 t8 t9 t77 t78 t79 H K :=
 lp1 (M := zcO) zyQ t79 (by kernel_rfl) Inv n h0 round
theorem zyP {t2 t4 t8 t9 t59 t60 t61 : AV} {H : zaa} {K : Kt} (Inv : Nat → AV → zaa → Prop) (n : Nat) (h0 : HSc H → Inv n t61 H)
  (round : Rd1 (fun t61 => zhI t2 t4 t8 t9 t59 t60 t61) (fun t61 => fun H Kb8 => zlz t2 t4 t8 t9 t59 t60 t61 H K Kb8) H Inv) : zq0 t2 t4 t8 t9 t59 t60 t61 H K :=
 lp1 (M := zcO) zyS t61 (by kernel_rfl) Inv n h0 round
theorem zyT {t0 t1 t2 : AV} {H : zaa} {K : Kt} (h : HSc H → zqY t0 t1 t2 H K) : ACalls tP zfl [t0, t1, t2] H K :=
 zan (M := zcO) Tryz.func28 (c := zd0) (by kernel_rfl) (fun hs => Eq.mpr (by kernel_rfl) (h hs))
def zh8 : Nat → List Bool
 | 3 => rl false [3,1,3,3,9]
 | _ => []
noncomputable def zlZ : Code := Tryz.f49.body.getD .skip
noncomputable def zAj : List ResultVar := Tryz.f49.results.toList
def zh9 (t3 t7 t8 t9 : AV) : List AV := ux 3 (t3 :: ux 3 (t7 :: t8 :: t9 :: ux 9 []))
def zAh : List Bool := zh8 3
noncomputable def zAf : Code := zao [1, 1, 0, 1, 0, 0] zlZ
def zAe (K : Kt) : AExit → List AV → zaa → Prop := zap tP zh8 [1, 1, 0, 1, 0] zlZ (zaw tP zAj K)
def zry (t3 t7 t8 t9 : AV) (H : zaa) (K : Kt) : Prop := ALoop tP zAf (zAe K) (zh9 t3 t7 t8 t9) H
def zlY (t3 t7 t8 t9 : AV) (H : zaa) (K : Kt) (Kb3 : Lt) : Prop :=
 zac .lss false t9 t8 fun t10 =>
 zag t10
 (zaj 3 t7 t9 fun t11 =>
 zad true 3 t11 H fun t12 =>
 zat [(.int .i64 0), (.int .i64 0), .snil] H fun t5 H =>
 zak 3 t5 t12 H fun H =>
 zad true 3 t5 H fun t14 =>
 ACalls tP zgt [t14] H fun t15 H =>
 zac .add false t3 t15 fun t16 =>
 zac .add false t9 (.int .i64 1) fun t17 =>
 Kb3 (zh9 t16 t7 t8 t17) H)
 (K t3 H)
def zrx (t0 : AV) (H : zaa) (K : Kt) : Prop :=
 zaq t0 H fun t1 H =>
 zaf 2 t1 fun t6 =>
 zad false 1 t6 H fun t7 =>
 zah 1 t7 fun t8 =>
 zry (.int .i64 1) t7 t8 (.int .i64 0) H K
theorem zAg {t3 t7 t8 t9 : AV} {H : zaa} {K : Kt} (Inv : Nat → AV → AV → zaa → Prop) (n : Nat) (h0 : HSc H → Inv n t3 t9 H)
  (round : Rd2 (fun t3 => fun t9 => zh9 t3 t7 t8 t9) (fun t3 => fun t9 => fun H Kb3 => zlY t3 t7 t8 t9 H K Kb3) H Inv) : zry t3 t7 t8 t9 H K :=
 lp2 (M := zh8) zAh t3 t9 (by kernel_rfl) Inv n h0 round
theorem zAi {t0 : AV} {H : zaa} {K : Kt} (h : HSc H → zrx t0 H K) : ACalls tP zgt [t0] H K :=
 zan (M := zh8) Tryz.func49 (c := zlZ) (by kernel_rfl) (fun hs => Eq.mpr (by kernel_rfl) (h hs))
def zia : Nat → List Bool
 | 5 => rl false [1,1,3,1,23,3,12]
 | _ => []
noncomputable def zl2 : Code := Tryz.f50.body.getD .skip
noncomputable def zAq : List ResultVar := Tryz.f50.results.toList
def zib (t1 t5 t29 t30 t31 : AV) : List AV := ux 1 (t1 :: ux 3 (t5 :: ux 23 (t29 :: t30 :: t31 :: ux 12 [])))
def zAo : List Bool := zia 5
noncomputable def zAm : Code := zao [1, 1, 1, 0, 1, 0, 0] zl2
def zAl (K : Kt) : AExit → List AV → zaa → Prop := zap tP zia [1, 1, 1, 0, 1, 0] zl2 (zaw tP zAq K)
def zl4 (t1 t5 t29 t30 t31 : AV) (H : zaa) (K : Kt) : Prop := ALoop tP zAm (zAl K) (zib t1 t5 t29 t30 t31) H
def zl3 (t5 : AV) (H : zaa) (K : Kt) : Prop :=
 K t5 H
def zic (t5 : AV) (H : zaa) (K : Kt) : Prop :=
 zl3 t5 H K
def zl1 (t1 t5 t29 t30 t31 : AV) (H : zaa) (K : Kt) (Kb5 : Lt) : Prop :=
 zac .lss false t31 t30 fun t32 =>
 zag t32
 (zaj 3 t29 t31 fun t33 =>
 zad true 3 t33 H fun t34 =>
 zat [(.int .i64 0), (.int .i64 0), .snil] H fun t7 H =>
 zak 3 t7 t34 H fun H =>
 zad true 3 t7 H fun t36 =>
 ACalls tP zgu [t36, t1] H fun t38 H =>
 zac .add false t5 t38 fun t39 =>
 zac .gtr false t39 (.int .i64 200) fun t41 =>
 zag t41
 (zic t39 H K)
 (zac .add false t31 (.int .i64 1) fun t42 =>
 Kb5 (zib t1 t39 t29 t30 t42) H))
 (zic t5 H K)
def zl0 (t0 t1 : AV) (H : zaa) (K : Kt) : Prop :=
 zaq t0 H fun t2 H =>
 zaf 0 t2 fun t8 =>
 zad false 1 t8 H fun t9 =>
 zac .eql false t9 (.int .i64 4) fun t10 =>
 zab t10 true H (fun K' => zaf 1 t2 (K' · H)) fun t12 H =>
 zab t10 true H (fun K' => zad false 1 t12 H (K' · H)) fun t13 H =>
 zab t10 true H (fun K' => zac .geq false t13 (.int .i64 0) (K' · H)) fun t14 H =>
 zai t10 t14 (.bool false) fun t15 =>
 zab t15 true H (fun K' => zaf 1 t2 (K' · H)) fun t17 H =>
 zab t15 true H (fun K' => zad false 1 t17 H (K' · H)) fun t18 H =>
 zab t15 true H (fun K' => K' t1 H) fun t19 H =>
 zab t15 true H (fun K' => zah 1 t19 (K' · H)) fun t20 H =>
 zab t15 true H (fun K' => zac .lss false t18 t20 (K' · H)) fun t21 H =>
 zai t15 t21 (.bool false) fun t22 =>
 zag t22
 (zaf 1 t2 fun t24 =>
 zad false 1 t24 H fun t25 =>
 zaj 1 t1 t25 fun t26 =>
 zad false 1 t26 H fun t27 =>
 K t27 H)
 (zaf 2 t2 fun t28 =>
 zad false 1 t28 H fun t29 =>
 zah 1 t29 fun t30 =>
 zl4 t1 (.int .i64 1) t29 t30 (.int .i64 0) H K)
theorem zAn {t1 t5 t29 t30 t31 : AV} {H : zaa} {K : Kt} (Inv : Nat → AV → AV → zaa → Prop) (n : Nat) (h0 : HSc H → Inv n t5 t31 H)
  (round : Rd2 (fun t5 => fun t31 => zib t1 t5 t29 t30 t31) (fun t5 => fun t31 => fun H Kb5 => zl1 t1 t5 t29 t30 t31 H K Kb5) H Inv) : zl4 t1 t5 t29 t30 t31 H K :=
 lp2 (M := zia) zAo t5 t31 (by kernel_rfl) Inv n h0 round
theorem zAp {t0 t1 : AV} {H : zaa} {K : Kt} (h : HSc H → zl0 t0 t1 H K) : ACalls tP zgu [t0, t1] H K :=
 zan (M := zia) Tryz.func50 (c := zl2) (by kernel_rfl) (fun hs => Eq.mpr (by kernel_rfl) (h hs))
def zid : Nat → List Bool
 | 5 => rl false [1,1,2,2,29,3,13]
 | _ => []
noncomputable def zl7 : Code := Tryz.f51.body.getD .skip
noncomputable def zAx : List ResultVar := Tryz.f51.results.toList
def zie (t1 t4 t5 t35 t36 t37 : AV) : List AV := ux 1 (t1 :: ux 2 (t4 :: t5 :: ux 29 (t35 :: t36 :: t37 :: ux 13 [])))
def zAv : List Bool := zid 5
noncomputable def zAt : Code := zao [1, 1, 1, 0, 1, 0, 0] zl7
def zAs (K : Kt) : AExit → List AV → zaa → Prop := zap tP zid [1, 1, 1, 0, 1, 0] zl7 (zaw tP zAx K)
def zfN (t1 t4 t5 t35 t36 t37 : AV) (H : zaa) (K : Kt) : Prop := ALoop tP zAt (zAs K) (zie t1 t4 t5 t35 t36 t37) H
def zl6 (t1 t4 t5 t35 t36 t37 : AV) (H : zaa) (K : Kt) (Kb5 : Lt) : Prop :=
 zac .lss false t37 t36 fun t38 =>
 zag t38
 (zaj 3 t35 t37 fun t39 =>
 zad true 3 t39 H fun t40 =>
 zat [(.int .i64 0), (.int .i64 0), .snil] H fun t7 H =>
 zak 3 t7 t40 H fun H =>
 zae H (fun K' => zaf 2 t5 (K' · H)) fun t41 =>
 zae H (fun K' => zam false 1 t41 H (K' · H)) fun t42 =>
 zae H (fun K' => zam true 3 t7 H (K' · H)) fun t43 =>
 zae H (fun K' => K' t1 H) fun t44 =>
 zbs H (fun H K' => ACalls tP zfo [t43, t44] H K') fun t45 =>
 zae H (fun K' => zax 3 [(.int .i64 0), (.int .i64 0), .snil] 1 [(0, t45)] (K' · H)) fun t46 =>
 zar zaK 3 40 t42 t46 H fun t47 H =>
 zae H (fun K' => zaf 2 t5 (K' · H)) fun t48 =>
 zak 1 t48 t47 H fun H =>
 zac .add false t37 (.int .i64 1) fun t49 =>
 Kb5 (zie t1 t4 t5 t35 t36 t49) H)
 (zad true 3 t5 H fun t50 =>
 zak 3 t4 t50 H fun H =>
 zad true 3 t4 H fun r0 =>
 K r0 H)
def zl5 (t0 t1 : AV) (H : zaa) (K : Kt) : Prop :=
 zaq t0 H fun t2 H =>
 zat [(.int .i64 0), (.int .i64 0), .snil] H fun t4 H =>
 zaf 0 t2 fun t8 =>
 zad false 1 t8 H fun t9 =>
 zac .eql false t9 (.int .i64 4) fun t10 =>
 zab t10 true H (fun K' => zaf 1 t2 (K' · H)) fun t12 H =>
 zab t10 true H (fun K' => zad false 1 t12 H (K' · H)) fun t13 H =>
 zab t10 true H (fun K' => zac .geq false t13 (.int .i64 0) (K' · H)) fun t14 H =>
 zai t10 t14 (.bool false) fun t15 =>
 zab t15 true H (fun K' => zaf 1 t2 (K' · H)) fun t17 H =>
 zab t15 true H (fun K' => zad false 1 t17 H (K' · H)) fun t18 H =>
 zab t15 true H (fun K' => K' t1 H) fun t19 H =>
 zab t15 true H (fun K' => zah 1 t19 (K' · H)) fun t20 H =>
 zab t15 true H (fun K' => zac .lss false t18 t20 (K' · H)) fun t21 H =>
 zai t15 t21 (.bool false) fun t22 =>
 zag t22
 (zaf 1 t2 fun t24 =>
 zad false 1 t24 H fun t25 =>
 zaj 3 t1 t25 fun t26 =>
 zad true 3 t26 H fun t27 =>
 ACalls tP zfo [t27, .snil] H fun t28 H =>
 zak 3 t4 t28 H fun H =>
 zad true 3 t4 H fun r0 =>
 K r0 H)
 (zaf 0 t2 fun t29 =>
 zad false 1 t29 H fun t30 =>
 zaf 1 t2 fun t31 =>
 zad false 1 t31 H fun t32 =>
 zau [(.int .i64 0), (.int .i64 0), .snil] [(0, 1), (1, 1), (2, 1)] [(0, t30), (1, t32)] fun t33 =>
 zat [(.int .i64 0), (.int .i64 0), .snil] H fun t5 H =>
 zak 3 t5 t33 H fun H =>
 zaf 2 t2 fun t34 =>
 zad false 1 t34 H fun t35 =>
 zah 1 t35 fun t36 =>
 zfN t1 t4 t5 t35 t36 (.int .i64 0) H K)
theorem zAu {t1 t4 t5 t35 t36 t37 : AV} {H : zaa} {K : Kt} (Inv : Nat → AV → zaa → Prop) (n : Nat) (h0 : HSc H → Inv n t37 H)
  (round : Rd1 (fun t37 => zie t1 t4 t5 t35 t36 t37) (fun t37 => fun H Kb5 => zl6 t1 t4 t5 t35 t36 t37 H K Kb5) H Inv) : zfN t1 t4 t5 t35 t36 t37 H K :=
 lp1 (M := zid) zAv t37 (by kernel_rfl) Inv n h0 round
theorem zAw {t0 t1 : AV} {H : zaa} {K : Kt} (h : HSc H → zl5 t0 t1 H K) : ACalls tP zfo [t0, t1] H K :=
 zan (M := zid) Tryz.func51 (c := zl7) (by kernel_rfl) (fun hs => Eq.mpr (by kernel_rfl) (h hs))
def zBb (_ : Nat) : List Bool := []
noncomputable def zBc : Code := Tryz.f64.body.getD .skip
def zrP (t0 t1 t2 : AV) (H : zaa) (K : Kt) : Prop :=
 zaq t1 H fun t4 H =>
 zad true 3 t4 H fun t7 =>
 ACalls tP zfm [t7] H fun t8 H =>
 zac .leq false t8 (.int .i64 200) fun t9 =>
 zab t9 true H (fun K' => K' t0 H) fun t11 H =>
 zab t9 true H (fun K' => zad true 3 t4 H (K' · H)) fun t12 H =>
 zab t9 true H (fun K' => K' t2 H) fun t13 H =>
 zab t9 true H (fun K' => ACalls tP zgF [t11, t12, t13] H K') fun t14 H =>
 zai t9 t14 (.bool false) fun t15 =>
 K t15 H
theorem zBd {t0 t1 t2 : AV} {H : zaa} {K : Kt} (h : HSc H → zrP t0 t1 t2 H K) : ACalls tP zgy [t0, t1, t2] H K :=
 zan (M := zBb) Tryz.func64 (c := zBc) (by kernel_rfl) (fun hs => Eq.mpr (by kernel_rfl) (h hs))
def zh4 : Nat → List Bool
 | 3 => rl false [1,1,1,2,16]
 | _ => []
noncomputable def zlU : Code := Tryz.f42.body.getD .skip
noncomputable def zzX : List ResultVar := Tryz.f42.results.toList
def zh5 (t1 t3 t4 : AV) : List AV := ux 1 (t1 :: ux 1 (t3 :: t4 :: ux 16 []))
def zzV : List Bool := zh4 3
noncomputable def zzT : Code := zao [1, 1, 0, 1, 0, 0] zlU
def zzS (K : Kt) : AExit → List AV → zaa → Prop := zap tP zh4 [1, 1, 0, 1, 0] zlU (zaw tP zzX K)
def zrq (t1 t3 t4 : AV) (H : zaa) (K : Kt) : Prop := ALoop tP zzT (zzS K) (zh5 t1 t3 t4) H
def zlT (t1 t3 t4 : AV) (H : zaa) (K : Kt) (Kb3 : Lt) : Prop :=
 zaf 2 t1 fun t6 =>
 zad false 1 t6 H fun t7 =>
 zah 1 t7 fun t8 =>
 zac .lss false t4 t8 fun t9 =>
 zag t9
 (zaf 2 t1 fun t13 =>
 zad false 1 t13 H fun t14 =>
 zaj 3 t14 t4 fun t16 =>
 zad true 3 t16 H fun t17 =>
 ACalls tP zfm [t17] H fun t18 H =>
 zac .add false t3 t18 fun t19 =>
 zac .add false t4 (.int .i64 1) fun t11 =>
 Kb3 (zh5 t1 t19 t11) H)
 (K t3 H)
def zrp (t0 : AV) (H : zaa) (K : Kt) : Prop :=
 zaq t0 H fun t1 H =>
 zrq t1 (.int .i64 1) (.int .i64 0) H K
theorem zzU {t1 t3 t4 : AV} {H : zaa} {K : Kt} (Inv : Nat → AV → AV → zaa → Prop) (n : Nat) (h0 : HSc H → Inv n t3 t4 H)
  (round : Rd2 (fun t3 => fun t4 => zh5 t1 t3 t4) (fun t3 => fun t4 => fun H Kb3 => zlT t1 t3 t4 H K Kb3) H Inv) : zrq t1 t3 t4 H K :=
 lp2 (M := zh4) zzV t3 t4 (by kernel_rfl) Inv n h0 round
theorem zzW {t0 : AV} {H : zaa} {K : Kt} (h : HSc H → zrp t0 H K) : ACalls tP zfm [t0] H K :=
 zan (M := zh4) Tryz.func42 (c := zlU) (by kernel_rfl) (fun hs => Eq.mpr (by kernel_rfl) (h hs))
def ziM : Nat → List Bool
 | 24 => rl false [0,1,1,1,1,1,2,2,103]
 | _ => []
noncomputable def zmD : Code := Tryz.f86.body.getD .skip
noncomputable def zCo : List ResultVar := Tryz.f86.results.toList
def ziN (t0 t2 t4 t7 t8 : AV) : List AV := t0 :: ux 1 (t2 :: ux 1 (t4 :: ux 2 (t7 :: t8 :: ux 103 [])))
def zCm : List Bool := ziM 24
noncomputable def zCk : Code := zao [1, 1, 1, 0, 1, 0, 0] zmD
def zCj (K : Kt) : AExit → List AV → zaa → Prop := zap tP ziM [1, 1, 1, 0, 1, 0] zmD (zaw tP zCo K)
def zmE (t0 t2 t4 t7 t8 : AV) (H : zaa) (K : Kt) : Prop := ALoop tP zCk (zCj K) (ziN t0 t2 t4 t7 t8) H
def zmC (t0 t2 t4 t7 t8 : AV) (H : zaa) (K : Kt) (Kb24 : Lt) : Prop :=
 zac .lss false t8 t7 fun t100 =>
 zag t100
 (zaf 2 t4 fun t104 =>
 zad false 1 t104 H fun t105 =>
 zaj 3 t105 t8 fun t107 =>
 zad true 3 t107 H fun t108 =>
 ACalls tP zgF [t0, t108, t2] H fun t110 H =>
 aUn .not t110 fun t111 =>
 zag t111
 (K (.bool false) H)
 (zac .add false t8 (.int .i64 1) fun t102 =>
 Kb24 (ziN t0 t2 t4 t7 t102) H))
 (K (.bool true) H)
def zfP (t0 t2 t4 t7 : AV) (H : zaa) (K : Kt) : Prop :=
 zmE t0 t2 t4 t7 (.int .i64 0) H K
def zdA (t0 t2 t4 t7 : AV) (H : zaa) (K : Kt) : Prop :=
 zfP t0 t2 t4 t7 H K
def zcQ (t0 t2 t4 t7 t13 t75 : AV) (H : zaa) (K : Kt) : Prop :=
 zag t75
 (zaf 1 t4 fun t78 =>
 zad false 1 t78 H fun t79 =>
 zac .neq false t79 (.int .i64 0) fun t80 =>
 zab t80 false H (fun K' => K' t7 H) fun t82 H =>
 zab t80 false H (fun K' => zac .neq false t82 (.int .i64 1) (K' · H)) fun t83 H =>
 zai t80 (.bool true) t83 fun t84 =>
 zag t84
 (K (.bool false) H)
 (zdA t0 t2 t4 t7 H K))
 (zac .eql false t13 (.int .i64 9) fun t86 =>
 zag t86
 (zaf 1 t4 fun t87 =>
 zad false 1 t87 H fun t88 =>
 zac .neq false t88 (.int .i64 0) fun t89 =>
 zab t89 false H (fun K' => K' t7 H) fun t91 H =>
 zab t89 false H (fun K' => zac .lss false t91 (.int .i64 1) (K' · H)) fun t92 H =>
 zai t89 (.bool true) t92 fun t93 =>
 zab t93 false H (fun K' => K' t7 H) fun t95 H =>
 zab t93 false H (fun K' => zac .gtr false t95 (.int .i64 7) (K' · H)) fun t96 H =>
 zai t93 (.bool true) t96 fun t97 =>
 zag t97
 (K (.bool false) H)
 (zdA t0 t2 t4 t7 H K))
 (K (.bool false) H))
def zbe (t0 t2 t4 t7 t13 t14 : AV) (H : zaa) (K : Kt) : Prop :=
 zag t14
 (zaf 1 t4 fun t18 =>
 zad false 1 t18 H fun t19 =>
 zac .eql false t19 (.int .i64 0) fun t20 =>
 zab t20 true H (fun K' => K' t7 H) fun t22 H =>
 zab t20 true H (fun K' => zac .eql false t22 (.int .i64 0) (K' · H)) fun t23 H =>
 zai t20 t23 (.bool false) fun t24 =>
 K t24 H)
 (zac .eql false t13 (.int .i64 4) fun t26 =>
 zag t26
 (zaf 1 t4 fun t27 =>
 zad false 1 t27 H fun t28 =>
 zac .geq false t28 (.int .i64 0) fun t29 =>
 zab t29 true H (fun K' => zaf 1 t4 (K' · H)) fun t31 H =>
 zab t29 true H (fun K' => zad false 1 t31 H (K' · H)) fun t32 H =>
 zab t29 true H (fun K' => K' t2 H) fun t33 H =>
 zab t29 true H (fun K' => zac .lss false t32 t33 (K' · H)) fun t34 H =>
 zai t29 t34 (.bool false) fun t35 =>
 zab t35 true H (fun K' => K' t7 H) fun t37 H =>
 zab t35 true H (fun K' => zac .eql false t37 (.int .i64 0) (K' · H)) fun t38 H =>
 zai t35 t38 (.bool false) fun t39 =>
 K t39 H)
 (zac .eql false t13 (.int .i64 5) fun t41 =>
 zag t41
 (zaf 1 t4 fun t42 =>
 zad false 1 t42 H fun t43 =>
 zac .lss false t43 (.int .i64 0) fun t44 =>
 zab t44 false H (fun K' => zaf 1 t4 (K' · H)) fun t46 H =>
 zab t44 false H (fun K' => zad false 1 t46 H (K' · H)) fun t47 H =>
 zab t44 false H (fun K' => K' t0 H) fun t48 H =>
 zab t44 false H (fun K' => zah 1 t48 (K' · H)) fun t49 H =>
 zab t44 false H (fun K' => zac .geq false t47 t49 (K' · H)) fun t50 H =>
 zai t44 (.bool true) t50 fun t51 =>
 zab t51 false H (fun K' => K' t7 H) fun t53 H =>
 zab t51 false H (fun K' => K' t0 H) fun t54 H =>
 zab t51 false H (fun K' => zaf 1 t4 (K' · H)) fun t55 H =>
 zab t51 false H (fun K' => zad false 1 t55 H (K' · H)) fun t56 H =>
 zab t51 false H (fun K' => zaj 3 t54 t56 (K' · H)) fun t57 H =>
 zab t51 false H (fun K' => zaf 1 t57 (K' · H)) fun t58 H =>
 zab t51 false H (fun K' => zad false 1 t58 H (K' · H)) fun t59 H =>
 zab t51 false H (fun K' => zac .neq false t53 t59 (K' · H)) fun t60 H =>
 zai t51 (.bool true) t60 fun t61 =>
 zag t61
 (K (.bool false) H)
 (zdA t0 t2 t4 t7 H K))
 (zac .eql false t13 (.int .i64 6) fun t63 =>
 zag t63
 (zaf 1 t4 fun t64 =>
 zad false 1 t64 H fun t65 =>
 zac .neq false t65 (.int .i64 0) fun t66 =>
 zab t66 false H (fun K' => K' t7 H) fun t68 H =>
 zab t66 false H (fun K' => zac .lss false t68 (.int .i64 2) (K' · H)) fun t69 H =>
 zai t66 (.bool true) t69 fun t70 =>
 zab t70 false H (fun K' => K' t7 H) fun t72 H =>
 zab t70 false H (fun K' => zac .gtr false t72 (.int .i64 6) (K' · H)) fun t73 H =>
 zai t70 (.bool true) t73 fun t74 =>
 zag t74
 (K (.bool false) H)
 (zdA t0 t2 t4 t7 H K))
 (zac .eql false t13 (.int .i64 7) fun t76 =>
 zag t76
 (zcQ t0 t2 t4 t7 t13 t76 H K)
 (zac .eql false t13 (.int .i64 8) fun t77 =>
 zcQ t0 t2 t4 t7 t13 t77 H K)))))
def zbT (t0 t1 t2 : AV) (H : zaa) (K : Kt) : Prop :=
 zaq t1 H fun t4 H =>
 zaf 2 t4 fun t9 =>
 zad false 1 t9 H fun t10 =>
 zah 1 t10 fun t11 =>
 zaf 0 t4 fun t12 =>
 zad false 1 t12 H fun t13 =>
 zac .eql false t13 (.int .i64 1) fun t15 =>
 zag t15
 (zbe t0 t2 t4 t11 t13 t15 H K)
 (zac .eql false t13 (.int .i64 2) fun t16 =>
 zag t16
 (zbe t0 t2 t4 t11 t13 t16 H K)
 (zac .eql false t13 (.int .i64 3) fun t17 =>
 zbe t0 t2 t4 t11 t13 t17 H K))
theorem zCl {t0 t2 t4 t7 t8 : AV} {H : zaa} {K : Kt} (Inv : Nat → AV → zaa → Prop) (n : Nat) (h0 : HSc H → Inv n t8 H)
  (round : Rd1 (fun t8 => ziN t0 t2 t4 t7 t8) (fun t8 => fun H Kb24 => zmC t0 t2 t4 t7 t8 H K Kb24) H Inv) : zmE t0 t2 t4 t7 t8 H K :=
 lp1 (M := ziM) zCm t8 (by kernel_rfl) Inv n h0 round
theorem zCn {t0 t1 t2 : AV} {H : zaa} {K : Kt} (h : HSc H → zbT t0 t1 t2 H K) : ACalls tP zgF [t0, t1, t2] H K :=
 zan (M := ziM) Tryz.func86 (c := zmD) (by kernel_rfl) (fun hs => Eq.mpr (by kernel_rfl) (h hs))
def zhr : Nat → List Bool
 | 5 => rl false [4,1,3,1,54,3,16]
 | _ => []
noncomputable def zlg : Code := Tryz.f15.body.getD .skip
noncomputable def zxL : List ResultVar := Tryz.f15.results.toList
def zhs (t4 t8 t63 t64 t65 : AV) : List AV := ux 4 (t4 :: ux 3 (t8 :: ux 54 (t63 :: t64 :: t65 :: ux 16 [])))
def zxJ : List Bool := zhr 5
noncomputable def zxH : Code := zao [1, 1, 1, 0, 1, 0, 0] zlg
def zxG (K : Kt) : AExit → List AV → zaa → Prop := zap tP zhr [1, 1, 1, 0, 1, 0] zlg (zaw tP zxL K)
def zht (t4 t8 t63 t64 t65 : AV) (H : zaa) (K : Kt) : Prop := ALoop tP zxH (zxG K) (zhs t4 t8 t63 t64 t65) H
def zlf (t4 t8 t63 t64 t65 : AV) (H : zaa) (K : Kt) (Kb5 : Lt) : Prop :=
 zac .lss false t65 t64 fun t66 =>
 zag t66
 (zaj 3 t63 t65 fun t67 =>
 zad true 3 t67 H fun t68 =>
 zat [(.int .i64 0), (.int .i64 0), .snil] H fun t10 H =>
 zak 3 t10 t68 H fun H =>
 zad true 3 t10 H fun t69 =>
 zaf 2 t4 fun t70 =>
 zad false 1 t70 H fun t71 =>
 ACalls tP zgq [t69, t71] H fun t72 H =>
 zat [(.int .i64 0), (.int .i64 0), .snil] H fun t11 H =>
 zak 3 t11 t72 H fun H =>
 zad true 3 t11 H fun t73 =>
 ACalls tP zfm [t73] H fun t74 H =>
 zac .gtr false t74 (.int .i64 200) fun t75 =>
 zag t75
 (zav [.snil, (.bool false)] (K · H))
 (zad true 3 t11 H fun t77 =>
 zax 3 [(.int .i64 0), (.int .i64 0), .snil] 1 [(0, t77)] fun t78 =>
 zar zaK 3 40 t8 t78 H fun t79 H =>
 zac .add false t65 (.int .i64 1) fun t80 =>
 Kb5 (zhs t4 t79 t63 t64 t80) H))
 (zav [t8, (.bool true)] (K · H))
def zqz (t0 t1 t2 : AV) (H : zaa) (K : Kt) : Prop :=
 zaq t1 H fun t4 H =>
 zae H (fun K' => zaf 0 t4 (K' · H)) fun t12 =>
 zae H (fun K' => zam false 1 t12 H (K' · H)) fun t13 =>
 zae H (fun K' => zac .neq false t13 (.int .i64 5) (K' · H)) fun t14 =>
 zae H (fun K' => K' t14 H) fun t15 =>
 zab t15 false H (fun K' => zae H (fun K'' => zaf 1 t4 (K'' · H)) (K' · H)) fun t16 H =>
 zab t15 false H (fun K' => zae H (fun K'' => zam false 1 t16 H (K'' · H)) (K' · H)) fun t17 H =>
 zab t15 false H (fun K' => zae H (fun K'' => zac .lss false t17 (.int .i64 0) (K'' · H)) (K' · H)) fun t18 H =>
 zae H (fun K' => zai t15 (.bool true) t18 (K' · H)) fun t19 =>
 zae H (fun K' => K' t19 H) fun t20 =>
 zab t20 false H (fun K' => zae H (fun K'' => zaf 1 t4 (K'' · H)) (K' · H)) fun t21 H =>
 zab t20 false H (fun K' => zae H (fun K'' => zam false 1 t21 H (K'' · H)) (K' · H)) fun t22 H =>
 zab t20 false H (fun K' => zae H (fun K'' => K'' t0 H) (K' · H)) fun t23 H =>
 zab t20 false H (fun K' => zae H (fun K'' => zah 1 t23 (K'' · H)) (K' · H)) fun t24 H =>
 zab t20 false H (fun K' => zae H (fun K'' => zac .geq false t22 t24 (K'' · H)) (K' · H)) fun t25 H =>
 zae H (fun K' => zai t20 (.bool true) t25 (K' · H)) fun t26 =>
 zae H (fun K' => K' t26 H) fun t27 =>
 zab t27 false H (fun K' => zae H (fun K'' => zaf 2 t4 (K'' · H)) (K' · H)) fun t28 H =>
 zab t27 false H (fun K' => zae H (fun K'' => zam false 1 t28 H (K'' · H)) (K' · H)) fun t29 H =>
 zab t27 false H (fun K' => zae H (fun K'' => zah 1 t29 (K'' · H)) (K' · H)) fun t30 H =>
 zab t27 false H (fun K' => zae H (fun K'' => K'' t0 H) (K' · H)) fun t31 H =>
 zab t27 false H (fun K' => zae H (fun K'' => zaf 1 t4 (K'' · H)) (K' · H)) fun t32 H =>
 zab t27 false H (fun K' => zae H (fun K'' => zam false 1 t32 H (K'' · H)) (K' · H)) fun t33 H =>
 zab t27 false H (fun K' => zae H (fun K'' => zaj 3 t31 t33 (K'' · H)) (K' · H)) fun t34 H =>
 zab t27 false H (fun K' => zae H (fun K'' => zaf 1 t34 (K'' · H)) (K' · H)) fun t35 H =>
 zab t27 false H (fun K' => zae H (fun K'' => zam false 1 t35 H (K'' · H)) (K' · H)) fun t36 H =>
 zab t27 false H (fun K' => zae H (fun K'' => zac .neq false t30 t36 (K'' · H)) (K' · H)) fun t37 H =>
 zae H (fun K' => zai t27 (.bool true) t37 (K' · H)) fun t38 =>
 zae H (fun K' => K' t38 H) fun t39 =>
 zab t39 false H (fun K' => zae H (fun K'' => K'' t2 H) (K' · H)) fun t40 H =>
 zab t39 false H (fun K' => zae H (fun K'' => zac .lss false t40 (.int .i64 0) (K'' · H)) (K' · H)) fun t41 H =>
 zae H (fun K' => zai t39 (.bool true) t41 (K' · H)) fun t42 =>
 zae H (fun K' => K' t42 H) fun t43 =>
 zab t43 false H (fun K' => zae H (fun K'' => K'' t2 H) (K' · H)) fun t44 H =>
 zab t43 false H (fun K' => zae H (fun K'' => K'' t0 H) (K' · H)) fun t45 H =>
 zab t43 false H (fun K' => zae H (fun K'' => zaf 1 t4 (K'' · H)) (K' · H)) fun t46 H =>
 zab t43 false H (fun K' => zae H (fun K'' => zam false 1 t46 H (K'' · H)) (K' · H)) fun t47 H =>
 zab t43 false H (fun K' => zae H (fun K'' => zaj 3 t45 t47 (K'' · H)) (K' · H)) fun t48 H =>
 zab t43 false H (fun K' => zae H (fun K'' => zaf 2 t48 (K'' · H)) (K' · H)) fun t49 H =>
 zab t43 false H (fun K' => zae H (fun K'' => zam false 1 t49 H (K'' · H)) (K' · H)) fun t50 H =>
 zab t43 false H (fun K' => zae H (fun K'' => zah 1 t50 (K'' · H)) (K' · H)) fun t51 H =>
 zab t43 false H (fun K' => zae H (fun K'' => zac .geq false t44 t51 (K'' · H)) (K' · H)) fun t52 H =>
 zae H (fun K' => zai t43 (.bool true) t52 (K' · H)) fun t53 =>
 zag t53
 (zav [.snil, (.bool false)] (K · H))
 (zaf 1 t4 fun t55 =>
 zad false 1 t55 H fun t56 =>
 zaj 3 t0 t56 fun t57 =>
 zaf 2 t57 fun t58 =>
 zad false 1 t58 H fun t59 =>
 zaj 2 t59 t2 fun t61 =>
 zaf 1 t61 fun t62 =>
 zad false 1 t62 H fun t63 =>
 zah 1 t63 fun t64 =>
 zht t4 .snil t63 t64 (.int .i64 0) H K)
theorem zxI {t4 t8 t63 t64 t65 : AV} {H : zaa} {K : Kt} (Inv : Nat → AV → AV → zaa → Prop) (n : Nat) (h0 : HSc H → Inv n t8 t65 H)
  (round : Rd2 (fun t8 => fun t65 => zhs t4 t8 t63 t64 t65) (fun t8 => fun t65 => fun H Kb5 => zlf t4 t8 t63 t64 t65 H K Kb5) H Inv) : zht t4 t8 t63 t64 t65 H K :=
 lp2 (M := zhr) zxJ t8 t65 (by kernel_rfl) Inv n h0 round
theorem zxK {t0 t1 t2 : AV} {H : zaa} {K : Kt} (h : HSc H → zqz t0 t1 t2 H K) : ACalls tP zfh [t0, t1, t2] H K :=
 zan (M := zhr) Tryz.func15 (c := zlg) (by kernel_rfl) (fun hs => Eq.mpr (by kernel_rfl) (h hs))
def zh2 : Nat → List Bool
 | 5 => rl false [1,2,1,3,46]
 | _ => []
noncomputable def zlR : Code := Tryz.f41.body.getD .skip
noncomputable def zzQ : List ResultVar := Tryz.f41.results.toList
def zh3 (t1 t2 t4 t5 t6 : AV) : List AV := ux 1 (t1 :: t2 :: ux 1 (t4 :: t5 :: t6 :: ux 46 []))
def zzO : List Bool := zh2 5
noncomputable def zzM : Code := zao [1, 1, 1, 0, 1, 0, 0] zlR
def zzL (K : Kt) : AExit → List AV → zaa → Prop := zap tP zh2 [1, 1, 1, 0, 1, 0] zlR (zaw tP zzQ K)
def zlS (t1 t2 t4 t5 t6 : AV) (H : zaa) (K : Kt) : Prop := ALoop tP zzM (zzL K) (zh3 t1 t2 t4 t5 t6) H
def zlQ (t1 t2 t4 t5 t6 : AV) (H : zaa) (K : Kt) (Kb5 : Lt) : Prop :=
 zaf 2 t2 fun t34 =>
 zad false 1 t34 H fun t35 =>
 zah 1 t35 fun t36 =>
 zac .lss false t6 t36 fun t37 =>
 zag t37
 (zae H (fun K' => zaf 2 t5 (K' · H)) fun t40 =>
 zae H (fun K' => zam false 1 t40 H (K' · H)) fun t41 =>
 zae H (fun K' => zaf 2 t2 (K' · H)) fun t42 =>
 zae H (fun K' => zam false 1 t42 H (K' · H)) fun t43 =>
 zae H (fun K' => K' t6 H) fun t44 =>
 zae H (fun K' => zaj 3 t43 t44 (K' · H)) fun t45 =>
 zae H (fun K' => zam true 3 t45 H (K' · H)) fun t46 =>
 zae H (fun K' => K' t1 H) fun t47 =>
 zbs H (fun H K' => ACalls tP zgq [t46, t47] H K') fun t48 =>
 zae H (fun K' => zax 3 [(.int .i64 0), (.int .i64 0), .snil] 1 [(0, t48)] (K' · H)) fun t49 =>
 zar zaK 3 40 t41 t49 H fun t50 H =>
 zae H (fun K' => zaf 2 t5 (K' · H)) fun t51 =>
 zak 1 t51 t50 H fun H =>
 zac .add false t6 (.int .i64 1) fun t39 =>
 Kb5 (zh3 t1 t2 t4 t5 t39) H)
 (zad true 3 t5 H fun t52 =>
 zak 3 t4 t52 H fun H =>
 zad true 3 t4 H fun r0 =>
 K r0 H)
def zlP (t0 t1 : AV) (H : zaa) (K : Kt) : Prop :=
 zaq t0 H fun t2 H =>
 zat [(.int .i64 0), (.int .i64 0), .snil] H fun t4 H =>
 zaf 0 t2 fun t7 =>
 zad false 1 t7 H fun t8 =>
 zac .eql false t8 (.int .i64 4) fun t9 =>
 zab t9 true H (fun K' => zaf 1 t2 (K' · H)) fun t11 H =>
 zab t9 true H (fun K' => zad false 1 t11 H (K' · H)) fun t12 H =>
 zab t9 true H (fun K' => zac .geq false t12 (.int .i64 0) (K' · H)) fun t13 H =>
 zai t9 t13 (.bool false) fun t14 =>
 zab t14 true H (fun K' => zaf 1 t2 (K' · H)) fun t16 H =>
 zab t14 true H (fun K' => zad false 1 t16 H (K' · H)) fun t17 H =>
 zab t14 true H (fun K' => K' t1 H) fun t18 H =>
 zab t14 true H (fun K' => zah 1 t18 (K' · H)) fun t19 H =>
 zab t14 true H (fun K' => zac .lss false t17 t19 (K' · H)) fun t20 H =>
 zai t14 t20 (.bool false) fun t21 =>
 zag t21
 (zaf 1 t2 fun t23 =>
 zad false 1 t23 H fun t24 =>
 zaj 3 t1 t24 fun t25 =>
 zad true 3 t25 H fun t26 =>
 ACalls tP zgA [t26] H fun t27 H =>
 zak 3 t4 t27 H fun H =>
 zad true 3 t4 H fun r0 =>
 K r0 H)
 (zaf 0 t2 fun t28 =>
 zad false 1 t28 H fun t29 =>
 zaf 1 t2 fun t30 =>
 zad false 1 t30 H fun t31 =>
 zau [(.int .i64 0), (.int .i64 0), .snil] [(0, 1), (1, 1), (2, 1)] [(0, t29), (1, t31)] fun t32 =>
 zat [(.int .i64 0), (.int .i64 0), .snil] H fun t5 H =>
 zak 3 t5 t32 H fun H =>
 zlS t1 t2 t4 t5 (.int .i64 0) H K)
theorem zzN {t1 t2 t4 t5 t6 : AV} {H : zaa} {K : Kt} (Inv : Nat → AV → zaa → Prop) (n : Nat) (h0 : HSc H → Inv n t6 H)
  (round : Rd1 (fun t6 => zh3 t1 t2 t4 t5 t6) (fun t6 => fun H Kb5 => zlQ t1 t2 t4 t5 t6 H K Kb5) H Inv) : zlS t1 t2 t4 t5 t6 H K :=
 lp1 (M := zh2) zzO t6 (by kernel_rfl) Inv n h0 round
theorem zzP {t0 t1 : AV} {H : zaa} {K : Kt} (h : HSc H → zlP t0 t1 H K) : ACalls tP zgq [t0, t1] H K :=
 zan (M := zh2) Tryz.func41 (c := zlR) (by kernel_rfl) (fun hs => Eq.mpr (by kernel_rfl) (h hs))
def ziz : Nat → List Bool
 | 3 => rl false [1,4,24]
 | _ => []
noncomputable def zmt : Code := Tryz.f67.body.getD .skip
noncomputable def zBw : List ResultVar := Tryz.f67.results.toList
def ziA (t1 t2 t3 t4 : AV) : List AV := ux 1 (t1 :: t2 :: t3 :: t4 :: ux 24 [])
def zBu : List Bool := ziz 3
noncomputable def zBs : Code := zao [1, 1, 0, 1, 0, 0] zmt
def zBr (K : Kt) : AExit → List AV → zaa → Prop := zap tP ziz [1, 1, 0, 1, 0] zmt (zaw tP zBw K)
def zrV (t1 t2 t3 t4 : AV) (H : zaa) (K : Kt) : Prop := ALoop tP zBs (zBr K) (ziA t1 t2 t3 t4) H
def zms (t1 t2 t3 t4 : AV) (H : zaa) (K : Kt) (Kb3 : Lt) : Prop :=
 zaf 2 t1 fun t11 =>
 zad false 1 t11 H fun t12 =>
 zah 1 t12 fun t13 =>
 zac .lss false t4 t13 fun t14 =>
 zag t14
 (zae H (fun K' => zaf 2 t3 (K' · H)) fun t17 =>
 zae H (fun K' => zam false 1 t17 H (K' · H)) fun t18 =>
 zae H (fun K' => zaf 2 t1 (K' · H)) fun t19 =>
 zae H (fun K' => zam false 1 t19 H (K' · H)) fun t20 =>
 zae H (fun K' => K' t4 H) fun t21 =>
 zae H (fun K' => zaj 3 t20 t21 (K' · H)) fun t22 =>
 zae H (fun K' => zam true 3 t22 H (K' · H)) fun t23 =>
 zbs H (fun H K' => ACalls tP zgA [t23] H K') fun t24 =>
 zae H (fun K' => zax 3 [(.int .i64 0), (.int .i64 0), .snil] 1 [(0, t24)] (K' · H)) fun t25 =>
 zar zaK 3 40 t18 t25 H fun t26 H =>
 zae H (fun K' => zaf 2 t3 (K' · H)) fun t27 =>
 zak 1 t27 t26 H fun H =>
 zac .add false t4 (.int .i64 1) fun t16 =>
 Kb3 (ziA t1 t2 t3 t16) H)
 (zad true 3 t3 H fun t28 =>
 zak 3 t2 t28 H fun H =>
 zad true 3 t2 H fun r0 =>
 K r0 H)
def zrU (t0 : AV) (H : zaa) (K : Kt) : Prop :=
 zaq t0 H fun t1 H =>
 zat [(.int .i64 0), (.int .i64 0), .snil] H fun t2 H =>
 zaf 0 t1 fun t5 =>
 zad false 1 t5 H fun t6 =>
 zaf 1 t1 fun t7 =>
 zad false 1 t7 H fun t8 =>
 zau [(.int .i64 0), (.int .i64 0), .snil] [(0, 1), (1, 1), (2, 1)] [(0, t6), (1, t8)] fun t9 =>
 zat [(.int .i64 0), (.int .i64 0), .snil] H fun t3 H =>
 zak 3 t3 t9 H fun H =>
 zrV t1 t2 t3 (.int .i64 0) H K
theorem zBt {t1 t2 t3 t4 : AV} {H : zaa} {K : Kt} (Inv : Nat → AV → zaa → Prop) (n : Nat) (h0 : HSc H → Inv n t4 H)
  (round : Rd1 (fun t4 => ziA t1 t2 t3 t4) (fun t4 => fun H Kb3 => zms t1 t2 t3 t4 H K Kb3) H Inv) : zrV t1 t2 t3 t4 H K :=
 lp1 (M := ziz) zBu t4 (by kernel_rfl) Inv n h0 round
theorem zBv {t0 : AV} {H : zaa} {K : Kt} (h : HSc H → zrU t0 H K) : ACalls tP zgA [t0] H K :=
 zan (M := ziz) Tryz.func67 (c := zmt) (by kernel_rfl) (fun hs => Eq.mpr (by kernel_rfl) (h hs))
def zd3 : Nat → List Bool
 | 6 => rl false [0,2,6,1,38,3,56]
 | 10 => rl false [0,2,6,2,37,3,28,3,25]
 | _ => []
noncomputable def zl9 : Code := Tryz.f53.body.getD .skip
noncomputable def zAI : List ResultVar := Tryz.f53.results.toList
def zig (t0 t1 t8 t47 t48 t49 : AV) : List AV := t0 :: t1 :: ux 6 (t8 :: ux 38 (t47 :: t48 :: t49 :: ux 56 []))
def zrD : List Bool := zd3 6
noncomputable def zma : Code := zao [1, 1, 1, 1, 0, 1, 0, 0] zl9
def zrB (K : Kt) : AExit → List AV → zaa → Prop := zap tP zd3 [1, 1, 1, 1, 0, 1, 0] zl9 (zaw tP zAI K)
def zrC (t0 t1 t8 t47 t48 t49 : AV) (H : zaa) (K : Kt) : Prop := ALoop tP zma (zrB K) (zig t0 t1 t8 t47 t48 t49) H
def zif (t0 t1 t8 t9 t47 t48 t49 t78 t79 t80 : AV) : List AV := t0 :: t1 :: ux 6 (t8 :: t9 :: ux 37 (t47 :: t48 :: t49 :: ux 28 (t78 :: t79 :: t80 :: ux 25 [])))
def zAG : List Bool := zd3 10
noncomputable def zAD : Code := zao [1, 1, 0, 0, 1, 1, 1, 0, 0] zma
def zAC (K : Kt) (Kb6 : Lt) : AExit → List AV → zaa → Prop := zap tP zd3 [1, 1, 0, 0, 1, 1, 1, 0] zma (zbz zrD Kb6 (zrB K))
def zmc (t0 t1 t8 t9 t47 t48 t49 t78 t79 t80 : AV) (H : zaa) (K : Kt) (Kb6 : Lt) : Prop := ALoop tP zAD (zAC K Kb6) (zif t0 t1 t8 t9 t47 t48 t49 t78 t79 t80) H
def zmb (t0 t1 t8 t9 t47 t48 t49 t78 t79 t80 : AV) (H : zaa) (K : Kt) (Kb6 : Lt) (Kb10 : Lt) : Prop :=
 zac .add false t80 (.int .i64 1) fun t103 =>
 Kb10 (zif t0 t1 t8 t9 t47 t48 t49 t78 t79 t103) H
def zeN (t0 t1 t8 t9 t47 t48 t49 t78 t79 t80 : AV) (H : zaa) (K : Kt) (Kb6 : Lt) (Kb10 : Lt) : Prop :=
 zmb t0 t1 t8 t9 t47 t48 t49 t78 t79 t80 H K Kb6 Kb10
def zeM (t0 t1 t8 t9 t47 t48 t49 t78 t79 t80 : AV) (H : zaa) (K : Kt) (Kb6 : Lt) (Kb10 : Lt) : Prop :=
 zac .lss false t80 t79 fun t81 =>
 zag t81
 (zaj 3 t78 t80 fun t83 =>
 zad true 3 t83 H fun t84 =>
 zat [(.int .i64 0), (.int .i64 0), .snil] H fun t12 H =>
 zak 3 t12 t84 H fun H =>
 zaf 0 t12 fun t85 =>
 zad false 1 t85 H fun t86 =>
 zac .neq false t86 (.int .i64 4) fun t87 =>
 zab t87 false H (fun K' => zaf 1 t12 (K' · H)) fun t89 H =>
 zab t87 false H (fun K' => zad false 1 t89 H (K' · H)) fun t90 H =>
 zab t87 false H (fun K' => K' t80 H) fun t91 H =>
 zab t87 false H (fun K' => zac .neq false t90 t91 (K' · H)) fun t92 H =>
 zai t87 (.bool true) t92 fun t93 =>
 zab t93 false H (fun K' => zaf 2 t12 (K' · H)) fun t95 H =>
 zab t93 false H (fun K' => zad false 1 t95 H (K' · H)) fun t96 H =>
 zab t93 false H (fun K' => zah 1 t96 (K' · H)) fun t97 H =>
 zab t93 false H (fun K' => zac .gtr false t97 (.int .i64 0) (K' · H)) fun t98 H =>
 zai t93 (.bool true) t98 fun t99 =>
 zag t99
 (zaj 1 t8 t9 fun t102 =>
 zak 1 t102 (.bool false) H fun H =>
 zeN t0 t1 t8 t9 t47 t48 t49 t78 t79 t80 H K Kb6 Kb10)
 (zeN t0 t1 t8 t9 t47 t48 t49 t78 t79 t80 H K Kb6 Kb10))
 (zac .add false t49 (.int .i64 1) fun t104 =>
 Kb6 (zig t0 t1 t8 t47 t48 t104) H)
def zfO (t0 t1 t8 t47 t48 t49 : AV) (H : zaa) (K : Kt) (Kb6 : Lt) : Prop :=
 zac .lss false t49 t48 fun t50 =>
 zag t50
 (zaj 3 t47 t49 fun t52 =>
 zad true 3 t52 H fun t53 =>
 zat [(.int .i64 0), (.int .i64 0), .snil] H fun t10 H =>
 zak 3 t10 t53 H fun H =>
 zae H (fun K' => K' t8 H) fun t54 =>
 zae H (fun K' => K' t49 H) fun t55 =>
 zae H (fun K' => zaf 0 t10 (K' · H)) fun t56 =>
 zae H (fun K' => zam false 1 t56 H (K' · H)) fun t57 =>
 zae H (fun K' => zac .eql false t57 (.int .i64 5) (K' · H)) fun t58 =>
 zae H (fun K' => K' t58 H) fun t59 =>
 zab t59 true H (fun K' => zae H (fun K'' => zaf 1 t10 (K'' · H)) (K' · H)) fun t60 H =>
 zab t59 true H (fun K' => zae H (fun K'' => zam false 1 t60 H (K'' · H)) (K' · H)) fun t61 H =>
 zab t59 true H (fun K' => zae H (fun K'' => K'' t1 H) (K' · H)) fun t62 H =>
 zab t59 true H (fun K' => zae H (fun K'' => zac .eql false t61 t62 (K'' · H)) (K' · H)) fun t63 H =>
 zae H (fun K' => zai t59 t63 (.bool false) (K' · H)) fun t64 =>
 zae H (fun K' => K' t64 H) fun t65 =>
 zab t65 true H (fun K' => zae H (fun K'' => zaf 2 t10 (K'' · H)) (K' · H)) fun t66 H =>
 zab t65 true H (fun K' => zae H (fun K'' => zam false 1 t66 H (K'' · H)) (K' · H)) fun t67 H =>
 zab t65 true H (fun K' => zae H (fun K'' => zah 1 t67 (K'' · H)) (K' · H)) fun t68 H =>
 zab t65 true H (fun K' => zae H (fun K'' => K'' t0 H) (K' · H)) fun t69 H =>
 zab t65 true H (fun K' => zae H (fun K'' => K'' t1 H) (K' · H)) fun t70 H =>
 zab t65 true H (fun K' => zae H (fun K'' => zaj 3 t69 t70 (K'' · H)) (K' · H)) fun t71 H =>
 zab t65 true H (fun K' => zae H (fun K'' => zaf 1 t71 (K'' · H)) (K' · H)) fun t72 H =>
 zab t65 true H (fun K' => zae H (fun K'' => zam false 1 t72 H (K'' · H)) (K' · H)) fun t73 H =>
 zab t65 true H (fun K' => zae H (fun K'' => zac .eql false t68 t73 (K'' · H)) (K' · H)) fun t74 H =>
 zae H (fun K' => zai t65 t74 (.bool false) (K' · H)) fun t75 =>
 zae H (fun K' => zaj 1 t54 t55 (K' · H)) fun t76 =>
 zak 1 t76 t75 H fun H =>
 zaf 2 t10 fun t77 =>
 zad false 1 t77 H fun t78 =>
 zah 1 t78 fun t79 =>
 zmc t0 t1 t8 t49 t47 t48 t49 t78 t79 (.int .i64 0) H K Kb6)
 (K t8 H)
def zrA (t0 t1 t2 : AV) (H : zaa) (K : Kt) : Prop :=
 zac .lss false t1 (.int .i64 0) fun t14 =>
 zab t14 false H (fun K' => K' t1 H) fun t16 H =>
 zab t14 false H (fun K' => K' t0 H) fun t17 H =>
 zab t14 false H (fun K' => zah 1 t17 (K' · H)) fun t18 H =>
 zab t14 false H (fun K' => zac .geq false t16 t18 (K' · H)) fun t19 H =>
 zai t14 (.bool true) t19 fun t20 =>
 zab t20 false H (fun K' => K' t2 H) fun t22 H =>
 zab t20 false H (fun K' => zac .lss false t22 (.int .i64 0) (K' · H)) fun t23 H =>
 zai t20 (.bool true) t23 fun t24 =>
 zab t24 false H (fun K' => K' t2 H) fun t26 H =>
 zab t24 false H (fun K' => K' t0 H) fun t27 H =>
 zab t24 false H (fun K' => K' t1 H) fun t28 H =>
 zab t24 false H (fun K' => zaj 3 t27 t28 (K' · H)) fun t29 H =>
 zab t24 false H (fun K' => zaf 2 t29 (K' · H)) fun t30 H =>
 zab t24 false H (fun K' => zad false 1 t30 H (K' · H)) fun t31 H =>
 zab t24 false H (fun K' => zah 1 t31 (K' · H)) fun t32 H =>
 zab t24 false H (fun K' => zac .geq false t26 t32 (K' · H)) fun t33 H =>
 zai t24 (.bool true) t33 fun t34 =>
 zag t34
 (K .snil H)
 (zaj 3 t0 t1 fun t37 =>
 zaf 2 t37 fun t38 =>
 zad false 1 t38 H fun t39 =>
 zaj 2 t39 t2 fun t41 =>
 zaf 1 t41 fun t42 =>
 zad false 1 t42 H fun t43 =>
 zah 1 t43 fun t45 =>
 zbr 1 [(.bool false)] t45 t45 H fun t46 H =>
 zah 1 t43 fun t48 =>
 zrC t0 t1 t46 t43 t48 (.int .i64 0) H K)
theorem zAE {t0 t1 t8 t9 t47 t48 t49 t78 t79 t80 : AV} {H : zaa} {K : Kt} {Kb6 : Lt} (Inv : Nat → AV → zaa → Prop) (n : Nat) (h0 : HSc H → Inv n t80 H)
  (round : Rd1 (fun t80 => zif t0 t1 t8 t9 t47 t48 t49 t78 t79 t80) (fun t80 => fun H Kb10 => zeM t0 t1 t8 t9 t47 t48 t49 t78 t79 t80 H K Kb6 Kb10) H Inv) : zmc t0 t1 t8 t9 t47 t48 t49 t78 t79 t80 H K Kb6 :=
 lp1 (M := zd3) zAG t80 (by kernel_rfl) Inv n h0 round
theorem zAF {t0 t1 t8 t47 t48 t49 : AV} {H : zaa} {K : Kt} (Inv : Nat → AV → zaa → Prop) (n : Nat) (h0 : HSc H → Inv n t49 H)
  (round : Rd1 (fun t49 => zig t0 t1 t8 t47 t48 t49) (fun t49 => fun H Kb6 => zfO t0 t1 t8 t47 t48 t49 H K Kb6) H Inv) : zrC t0 t1 t8 t47 t48 t49 H K :=
 lp1 (M := zd3) zrD t49 (by kernel_rfl) Inv n h0 round
theorem zAH {t0 t1 t2 : AV} {H : zaa} {K : Kt} (h : HSc H → zrA t0 t1 t2 H K) : ACalls tP zcV [t0, t1, t2] H K :=
 zan (M := zd3) Tryz.func53 (c := zl9) (by kernel_rfl) (fun hs => Eq.mpr (by kernel_rfl) (h hs))
def zxh (_ : Nat) : List Bool := []
noncomputable def zxi : Code := Tryz.f123.body.getD .skip
def zqw (t0 t1 : AV) (H : zaa) (K : Kt) : Prop :=
 zaq t0 H fun t2 H =>
 zaq t1 H fun t3 H =>
 zaf 0 t2 fun t5 =>
 zad false 1 t5 H fun t6 =>
 zac .eql false t6 (.int .i64 5) fun t7 =>
 zab t7 true H (fun K' => zaf 1 t2 (K' · H)) fun t9 H =>
 zab t7 true H (fun K' => zad false 1 t9 H (K' · H)) fun t10 H =>
 zab t7 true H (fun K' => zad false 1 t3 H (K' · H)) fun t11 H =>
 zab t7 true H (fun K' => zac .eql false t10 t11 (K' · H)) fun t12 H =>
 zai t7 t12 (.bool false) fun t13 =>
 zab t13 false H (fun K' => zaf 2 t2 (K' · H)) fun t15 H =>
 zab t13 false H (fun K' => zad false 1 t15 H (K' · H)) fun t16 H =>
 zab t13 false H (fun K' => zbU zgj [t3] (K' · H)) fun t17 H =>
 zab t13 false H (fun K' => ACalls tP zdP [t16, t17] H K') fun t18 H =>
 zai t13 (.bool true) t18 fun t19 =>
 K t19 H
theorem zxj {t0 t1 : AV} {H : zaa} {K : Kt} (h : HSc H → zqw t0 t1 H K) : ACalls tP zgi [t0, t1] H K :=
 zan (M := zxh) Tryz.func123 (c := zxi) (by kernel_rfl) (fun hs => Eq.mpr (by kernel_rfl) (h hs))
def zxA (_ : Nat) : List Bool := []
noncomputable def zxB : Code := Tryz.f137.body.getD .skip
def zqC (t0 t1 : AV) (H : zaa) (K : Kt) : Prop :=
 zaq t0 H fun t2 H =>
 zad true 3 t2 H fun t4 =>
 zad false 1 t1 H fun t5 =>
 ACalls tP zgi [t4, t5] H fun t6 H =>
 K t6 H
theorem zxC {t0 t1 : AV} {H : zaa} {K : Kt} (h : HSc H → zqC t0 t1 H K) : ACalls tP zgj [t0, t1] H K :=
 zan (M := zxA) Tryz.func137 (c := zxB) (by kernel_rfl) (fun hs => Eq.mpr (by kernel_rfl) (h hs))
def ziI : Nat → List Bool
 | 4 => rl false [3,1,3,1,50]
 | _ => []
noncomputable def zmx : Code := Tryz.f84.body.getD .skip
noncomputable def zCa : List ResultVar := Tryz.f84.results.toList
def ziJ (t3 t7 : AV) : List AV := ux 3 (t3 :: ux 3 (t7 :: ux 50 []))
def zB8 : List Bool := ziI 4
noncomputable def zB6 : Code := zao [1, 1, 0, 1, 0, 0] zmx
def zB5 (K : Kt) : AExit → List AV → zaa → Prop := zap tP ziI [1, 1, 0, 1, 0] zmx (zaw tP zCa K)
def zr6 (t3 t7 : AV) (H : zaa) (K : Kt) : Prop := ALoop tP zB6 (zB5 K) (ziJ t3 t7) H
def zeO (t3 t7 : AV) (H : zaa) (K : Kt) (Kb4 : Lt) : Prop :=
 zaf 2 t3 fun t25 =>
 zad false 1 t25 H fun t26 =>
 zah 1 t26 fun t27 =>
 zac .lss false t7 t27 fun t28 =>
 zag t28
 (zaf 2 t3 fun t31 =>
 zad false 1 t31 H fun t32 =>
 zaj 3 t32 t7 fun t34 =>
 zaf 0 t34 fun t35 =>
 zad false 1 t35 H fun t36 =>
 zac .neq false t36 (.int .i64 4) fun t37 =>
 zab t37 false H (fun K' => zaf 2 t3 (K' · H)) fun t39 H =>
 zab t37 false H (fun K' => zad false 1 t39 H (K' · H)) fun t40 H =>
 zab t37 false H (fun K' => K' t7 H) fun t41 H =>
 zab t37 false H (fun K' => zaj 3 t40 t41 (K' · H)) fun t42 H =>
 zab t37 false H (fun K' => zaf 1 t42 (K' · H)) fun t43 H =>
 zab t37 false H (fun K' => zad false 1 t43 H (K' · H)) fun t44 H =>
 zab t37 false H (fun K' => K' t7 H) fun t45 H =>
 zab t37 false H (fun K' => zac .neq false t44 t45 (K' · H)) fun t46 H =>
 zai t37 (.bool true) t46 fun t47 =>
 zab t47 false H (fun K' => zaf 2 t3 (K' · H)) fun t49 H =>
 zab t47 false H (fun K' => zad false 1 t49 H (K' · H)) fun t50 H =>
 zab t47 false H (fun K' => K' t7 H) fun t51 H =>
 zab t47 false H (fun K' => zaj 3 t50 t51 (K' · H)) fun t52 H =>
 zab t47 false H (fun K' => zaf 2 t52 (K' · H)) fun t53 H =>
 zab t47 false H (fun K' => zad false 1 t53 H (K' · H)) fun t54 H =>
 zab t47 false H (fun K' => zah 1 t54 (K' · H)) fun t55 H =>
 zab t47 false H (fun K' => zac .gtr false t55 (.int .i64 0) (K' · H)) fun t56 H =>
 zai t47 (.bool true) t56 fun t57 =>
 zag t57
 (K (.bool false) H)
 (zac .add false t7 (.int .i64 1) fun t30 =>
 Kb4 (ziJ t3 t30) H))
 (K (.bool true) H)
def zr5 (t0 t1 t2 : AV) (H : zaa) (K : Kt) : Prop :=
 zaq t0 H fun t3 H =>
 zaf 0 t3 fun t8 =>
 zad false 1 t8 H fun t9 =>
 zac .neq false t9 (.int .i64 5) fun t10 =>
 zab t10 false H (fun K' => zaf 1 t3 (K' · H)) fun t12 H =>
 zab t10 false H (fun K' => zad false 1 t12 H (K' · H)) fun t13 H =>
 zab t10 false H (fun K' => K' t1 H) fun t14 H =>
 zab t10 false H (fun K' => zac .neq false t13 t14 (K' · H)) fun t15 H =>
 zai t10 (.bool true) t15 fun t16 =>
 zab t16 false H (fun K' => zaf 2 t3 (K' · H)) fun t18 H =>
 zab t16 false H (fun K' => zad false 1 t18 H (K' · H)) fun t19 H =>
 zab t16 false H (fun K' => zah 1 t19 (K' · H)) fun t20 H =>
 zab t16 false H (fun K' => K' t2 H) fun t21 H =>
 zab t16 false H (fun K' => zac .neq false t20 t21 (K' · H)) fun t22 H =>
 zai t16 (.bool true) t22 fun t23 =>
 zag t23
 (K (.bool false) H)
 (zr6 t3 (.int .i64 0) H K)
theorem zB7 {t3 t7 : AV} {H : zaa} {K : Kt} (Inv : Nat → AV → zaa → Prop) (n : Nat) (h0 : HSc H → Inv n t7 H)
  (round : Rd1 (fun t7 => ziJ t3 t7) (fun t7 => fun H Kb4 => zeO t3 t7 H K Kb4) H Inv) : zr6 t3 t7 H K :=
 lp1 (M := ziI) zB8 t7 (by kernel_rfl) Inv n h0 round
theorem zB9 {t0 t1 t2 : AV} {H : zaa} {K : Kt} (h : HSc H → zr5 t0 t1 t2 H K) : ACalls tP zgE [t0, t1, t2] H K :=
 zan (M := ziI) Tryz.func84 (c := zmx) (by kernel_rfl) (fun hs => Eq.mpr (by kernel_rfl) (h hs))
end Go.Proofs.YtacebbdfgbfgiaaGreat

namespace Go.Proofs.YtacebbdfgbfgiaaGreat
open Go Go.Abs
set_option maxRecDepth 8000
theorem zrw : ∀ (m : Nat) (v : VT), v.nodes ≤ m → ∀ (left : Int), left ≤ 1000000 → -1 ≤ left → ∀ (H : zaa) (id : Nat), H[id]? = some (.cells [.int .i64 left]) → ∀ (K : AV → zaa → Prop),
  ((v.nodes : Int) ≤ left → K (.bool true) (H.set id (.cells [.int .i64 (left - v.nodes)]))) → (¬ (v.nodes : Int) ≤ left → ∀ l', K (.bool false) (H.set id (.cells [.int .i64 l']))) →
  ACalls tP zfn [.agg v.cs, .ptr id 0] H K := by
 intro m
 induction m with
 | zero => intro v h; have := v.nodes_pos; omega
 | succ m ih =>
  intro v hv left hl1 hl0 H id hid K hK hF
  obtain ⟨k, n, ks⟩ := v
  have hlt := zel hid
  have hnn : (VT.mk k n ks).nodes = VT.nodesL ks + 1 := by simp [VT.nodes]
  refine ACalls.out (zAc fun hs => ?_)
  have hget : (H ++ [AB.cells [.int .i64 k, .int .i64 n, .sl (VT.css ks) .none]])[id]? = some (.cells [.int .i64 left]) := zcw hid
  have bad : (¬ ((VT.mk k n ks).nodes : Int) ≤ left) → ∀ l' H', H' = H.set id (.cells [.int .i64 l']) ++ [.cells [.int .i64 k, .int .i64 n, .sl (VT.css ks) .none]] → Out H.length K (.bool false) H' := by
   intro h l' H' he
   exact Out.bool he (by simp) (hs.set rfl) (hF h l')
  simp [zru, VT.cs, hget, AV.known]
  rw [zal (by omega) (by omega), zcS _ hid, zcw (zcs _ hid)]
  by_cases h0 : left - 1 < 0
  ·simp [h0]
   exact bad (by omega) _ _ rfl
  ·simp [h0]
   refine zAa (Inv := fun q t5 H' => ∃ i : Nat, i ≤ ks.length ∧ q = ks.length - i ∧ t5 = .int .i64 i ∧ ((VT.nodesL (ks.take i) : Int) + 1 ≤ left) ∧ H' = H.set id (.cells [.int .i64 (left - 1 - VT.nodesL (ks.take i))]) ++ [.cells [.int .i64 k, .int .i64 n, .sl (VT.css ks) .none]]) ks.length ?_ ?_
   ·intro _; exact ⟨0, by omega, by omega, rfl, by simp [VT.nodesL]; omega, by simp [VT.nodesL]⟩
   ·rintro q t5 H' ⟨i, hi, rfl, rfl, hb, rfl⟩ hsc hlen hsF Kb hKb
    by_cases hil : i < ks.length
    ·have hki := VT.kid_lt (k := k) (n := n) hil
     have h1 := VT.nodesL_take hil
     have h2 := VT.nodesL_take_le ks (i + 1)
     have hll := VT.len_le (ks.take i)
     simp only [List.length_take] at hll
     have hge : (H.set id (.cells [.int .i64 (left - 1 - VT.nodesL (ks.take i))]) ++ [AB.cells [.int .i64 k, .int .i64 n, .sl (VT.css ks) .none]])[id]? = some (.cells [.int .i64 (left - 1 - VT.nodesL (ks.take i))]) := zcw (zcs _ hid)
     simp [zlW, hil]
     refine ih ks[i] (by omega) (left - 1 - VT.nodesL (ks.take i)) (by omega) (by omega) _ id hge _ ?_ ?_
     ·intro hle
      rw [zcS _ (zcs _ hid), List.set_set]
      simp
      rw [zal (by omega) (by omega)]
      refine hKb _ _ ⟨ks.length - (i + 1), by omega, Back.here (by simp) ((hs.set rfl).snoc rfl) ?_ ⟨_, rfl, i + 1, by omega, rfl, by simp, by omega, ?_⟩⟩
      ·simp [zh7, AV.sc, AV.scV, AV.scA, AV.scB]; omega
      ·rw [h1]; congr 5; omega
     ·intro hle l'
      rw [zcS _ (zcs _ hid), List.set_set]
      simp
      exact bad (by omega) _ _ rfl
    ·obtain rfl : i = ks.length := by omega
     rw [List.take_length] at hb ⊢
     simp [zlW]
     refine Out.bool rfl (by simp) (hs.set rfl) ?_
     have := hK (by omega)
     rw [hnn] at this
     rw [show left - 1 - (VT.nodesL ks : Int) = left - ((VT.nodesL ks + 1 : Nat) : Int) by omega]
     exact this
theorem zyv (v : VT) (H : zaa) (K : AV → zaa → Prop) (hK : ∀ b, (b = true → v.nodes ≤ 250) → K (.bool b) H) : ACalls tP zjW [.agg v.cs] H K := by
 refine ACalls.out (zyu fun hs => ?_)
 simp [zqU, AV.known]
 refine zrw _ v (Nat.le_refl _) 250 (by omega) (by omega) _ (H.length + 1) (by simp) _ ?_ ?_
 ·intro h
  exact Out.bool (J := [_, _]) (by simp; exact ⟨rfl, rfl⟩) (Nat.le_refl _) hs (hK true fun _ => by omega)
 ·intro h l'
  exact Out.bool (J := [_, _]) (by simp; exact ⟨rfl, rfl⟩) (Nat.le_refl _) hs (hK false fun h => by cases h)
end Go.Proofs.YtacebbdfgbfgiaaGreat
namespace Go.Proofs.YtacebbdfgbfgiaaGreat
open Go Go.Abs
set_option maxRecDepth 8000
theorem zrr : ∀ (m : Nat) (v : VT), v.nodes ≤ m → v.nodes ≤ 1000000000 → ∀ (H : zaa) (K : AV → zaa → Prop), K (.int .i64 v.nodes) H → ACalls tP zfm [.agg v.cs] H K := by
 intro m
 induction m with
 | zero => intro v h; have := v.nodes_pos; omega
 | succ m ih =>
  intro v hv hb H K hK
  obtain ⟨k, n, ks⟩ := v
  have hnl : VT.nodesL ks + 1 ≤ 1000000000 := by simpa [VT.nodes] using hb
  have hll := VT.len_le ks
  refine ACalls.out (zzW fun hs => ?_)
  simp [VT.cs, zrp]
  refine zzU (Inv := fun q t3 t4 H' => ∃ i : Nat, i ≤ ks.length ∧ q = ks.length - i ∧ t4 = .int .i64 i ∧ t3 = .int .i64 (1 + VT.nodesL (ks.take i) : Nat) ∧ H' = H ++ [.cells [.int .i64 k, .int .i64 n, .sl (VT.css ks) .none]]) ks.length ?_ ?_
  ·intro _; exact ⟨0, by omega, by omega, rfl, by simp [VT.nodesL], rfl⟩
  ·rintro q t3 t4 H' ⟨i, hi, rfl, rfl, rfl, rfl⟩ hsc hlen hsF Kb hKb
   by_cases hlt : i < ks.length
   ·have hki := VT.kid_lt (k := k) (n := n) hlt
    have h1 := VT.nodesL_take hlt
    have h2 := VT.nodesL_take_le ks (i + 1)
    simp [zlT, hlt]
    refine ih ks[i] (by omega) (by omega) _ _ ?_
    simp
    rw [zal (by omega) (by omega), zal (by omega) (by omega)]
    refine hKb _ _ ⟨ks.length - (i + 1), by omega, Back.here (by simp) hsc ?_ ⟨_, _, rfl, i + 1, by omega, rfl, by simp, ?_, rfl⟩⟩
    ·simp [zh5, AV.sc, AV.scV, AV.scA, AV.scB]
    ·rw [h1]; congr 1; omega
   ·obtain rfl : i = ks.length := by omega
    simp [zlT]
    refine Out.int rfl (Nat.le_refl _) hs ?_
    simpa [VT.nodes, Int.add_comm] using hK
end Go.Proofs.YtacebbdfgbfgiaaGreat
