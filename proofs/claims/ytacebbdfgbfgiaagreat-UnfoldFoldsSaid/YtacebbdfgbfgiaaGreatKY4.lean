import Derived.Test.YtacebbdfgbfgiaaGreatKNum
import Derived.Test.YtacebbdfgbfgiaaGreatProg
import Derived.KernelRfl
import Derived.Test.YtacebbdfgbfgiaaGreatAbsQ1
set_option linter.unusedSimpArgs false
set_option linter.unusedVariables false
namespace Go.Proofs.YtacebbdfgbfgiaaGreat
open Go Go.Abs
set_option maxRecDepth 100000
def ziL : Nat → List Bool
 | 5 => rl false [1,2,2,1,24]
 | _ => []
noncomputable def zmI : Code := Tryz.f48.body.getD .skip
noncomputable def zBG : List ResultVar := Tryz.f48.results.toList
def ziM (t1 t2 t5 : AV) : List AV := ux 1 (t1 :: t2 :: ux 2 (t5 :: ux 24 []))
def zBE : List Bool := ziL 5
noncomputable def zBC : Code := zap [1, 1, 1, 0, 1, 0, 0] zmI
def zBB (K : Kt) : AExit → List AV → zaa → Prop := zaq tP ziL [1, 1, 1, 0, 1, 0] zmI (zax tP zBG K)
def zso (t1 t2 t5 : AV) (H : zaa) (K : Kt) : Prop := ALoop tP zBC (zBB K) (ziM t1 t2 t5) H
def zmH (t1 t2 t5 : AV) (H : zaa) (K : Kt) (Kb5 : Lt) : Prop :=
 zaf 2 t2 fun t16 =>
 zad false 1 t16 H fun t17 =>
 zah 1 t17 fun t18 =>
 zac .lss false t5 t18 fun t19 =>
 zag t19
 (zaf 2 t2 fun t22 =>
 zad false 1 t22 H fun t23 =>
 zai 3 t23 t5 fun t25 =>
 zad true 3 t25 H fun t26 =>
 ACalls tP zfF [t26, t1] H fun t28 H =>
 aUn .not t28 fun t29 =>
 zag t29
 (K (.bool false) H)
 (zac .add false t5 (.int .i64 1) fun t21 =>
 Kb5 (ziM t1 t2 t21) H))
 (K (.bool true) H)
def zsn (t0 t1 : AV) (H : zaa) (K : Kt) : Prop :=
 zas t0 H fun t2 H =>
 za9 t1 fun t7 =>
 zad false 1 t7 H fun t8 =>
 zac .sub false t8 (.int .i64 1) fun t9 =>
 za9 t1 fun t10 =>
 zak 1 t10 t9 H fun H =>
 za9 t1 fun t12 =>
 zad false 1 t12 H fun t13 =>
 zac .lss false t13 (.int .i64 0) fun t14 =>
 zag t14
 (K (.bool false) H)
 (zso t1 t2 (.int .i64 0) H K)
theorem zBD {t1 t2 t5 : AV} {H : zaa} {K : Kt} (Inv : Nat → AV → zaa → Prop) (n : Nat) (h0 : HSc H → Inv n t5 H)
  (round : Rd1 (fun t5 => ziM t1 t2 t5) (fun t5 => fun H Kb5 => zmH t1 t2 t5 H K Kb5) H Inv) : zso t1 t2 t5 H K :=
 lp1 (M := ziL) zBE t5 (by kernel_rfl) Inv n h0 round
theorem zBF {t0 t1 : AV} {H : zaa} {K : Kt} (h : HSc H → zsn t0 t1 H K) : ACalls tP zfF [t0, t1] H K :=
 zao (M := ziL) Tryz.func48 (c := zmI) (by kernel_rfl) (fun hs => Eq.mpr (by kernel_rfl) (h hs))
def zzZ (_ : Nat) : List Bool := []
noncomputable def zz0 : Code := Tryz.f25.body.getD .skip
def zrP (t0 : AV) (H : zaa) (K : Kt) : Prop :=
 zas t0 H fun t1 H =>
 zav [(.int .i64 0)] H fun t3 H =>
 zak 1 t3 (.int .i64 250) H fun H =>
 zad true 3 t1 H fun t4 =>
 ACalls tP zfF [t4, t3] H fun t5 H =>
 K t5 H
theorem zz1 {t0 : AV} {H : zaa} {K : Kt} (h : HSc H → zrP t0 H K) : ACalls tP zkD [t0] H K :=
 zao (M := zzZ) Tryz.func25 (c := zz0) (by kernel_rfl) (fun hs => Eq.mpr (by kernel_rfl) (h hs))
def zc0 : Nat → List Bool
 | 4 => rl false [13,3,43]
 | 9 => rl false [13,3,14,3,26]
 | 15 => rl false [7,1,5,3,14,3,14,3,9]
 | _ => []
noncomputable def zmd : Code := Tryz.f24.body.getD .skip
noncomputable def zzX : List ResultVar := Tryz.f24.results.toList
def zf3 (t13 t14 t15 : AV) : List AV := ux 13 (t13 :: t14 :: t15 :: ux 43 [])
def zrN : List Bool := zc0 4
noncomputable def zme : Code := zap [1, 1, 0, 1, 0, 0] zmd
def zrI (K : Kt) : AExit → List AV → zaa → Prop := zaq tP zc0 [1, 1, 0, 1, 0] zmd (zax tP zzX K)
def zrL (t13 t14 t15 : AV) (H : zaa) (K : Kt) : Prop := ALoop tP zme (zrI K) (zf3 t13 t14 t15) H
def zig (t13 t14 t15 t30 t31 t32 : AV) : List AV := ux 13 (t13 :: t14 :: t15 :: ux 14 (t30 :: t31 :: t32 :: ux 26 []))
def zrO : List Bool := zc0 9
noncomputable def zmf : Code := zap [1, 1, 0, 0, 1, 1, 1, 0, 0] zme
def zrJ (K : Kt) (Kb4 : Lt) : AExit → List AV → zaa → Prop := zaq tP zc0 [1, 1, 0, 0, 1, 1, 1, 0] zme (zbH zrN Kb4 (zrI K))
def zrM (t13 t14 t15 t30 t31 t32 : AV) (H : zaa) (K : Kt) (Kb4 : Lt) : Prop := ALoop tP zmf (zrJ K Kb4) (zig t13 t14 t15 t30 t31 t32) H
def zif (t7 t13 t14 t15 t30 t31 t32 t47 t48 t49 : AV) : List AV := ux 7 (t7 :: ux 5 (t13 :: t14 :: t15 :: ux 14 (t30 :: t31 :: t32 :: ux 14 (t47 :: t48 :: t49 :: ux 9 []))))
def zzV : List Bool := zc0 15
noncomputable def zzR : Code := zap [1, 1, 0, 0, 1, 1, 1, 1, 0, 0] zmf
def zzQ (K : Kt) (Kb4 : Lt) (Kb9 : Lt) : AExit → List AV → zaa → Prop := zaq tP zc0 [1, 1, 0, 0, 1, 1, 1, 1, 0] zmf (zbH zrO Kb9 (zrJ K Kb4))
def zrK (t7 t13 t14 t15 t30 t31 t32 t47 t48 t49 : AV) (H : zaa) (K : Kt) (Kb4 : Lt) (Kb9 : Lt) : Prop := ALoop tP zzR (zzQ K Kb4 Kb9) (zif t7 t13 t14 t15 t30 t31 t32 t47 t48 t49) H
def zma (t7 t13 t14 t15 t30 t31 t32 t47 t48 t49 : AV) (H : zaa) (K : Kt) (Kb4 : Lt) (Kb9 : Lt) (Kb15 : Lt) : Prop :=
 zac .lss false t49 t48 fun t50 =>
 zag t50
 (zai 3 t47 t49 fun t51 =>
 zad true 3 t51 H fun t52 =>
 zav [(.int .i64 0), (.int .i64 0), .snil] H fun t9 H =>
 zak 3 t9 t52 H fun H =>
 zad true 3 t9 H fun t53 =>
 ACalls tP zfF [t53, t7] H fun t54 H =>
 aUn .not t54 fun t55 =>
 zag t55
 (K (.bool false) H)
 (zac .add false t49 (.int .i64 1) fun t56 =>
 Kb15 (zif t7 t13 t14 t15 t30 t31 t32 t47 t48 t56) H))
 (zac .add false t32 (.int .i64 1) fun t57 =>
 Kb9 (zig t13 t14 t15 t30 t31 t57) H)
def zmc (t13 t14 t15 t30 t31 t32 : AV) (H : zaa) (K : Kt) (Kb4 : Lt) (Kb9 : Lt) : Prop :=
 zac .lss false t32 t31 fun t33 =>
 zag t33
 (zai 2 t30 t32 fun t34 =>
 zad true 2 t34 H fun t35 =>
 zav [(.str []), .snil] H fun t6 H =>
 zak 2 t6 t35 H fun H =>
 zaf 0 t6 fun t36 =>
 zad false 1 t36 H fun t37 =>
 zah 0 t37 fun t38 =>
 zac .gtr false t38 (.int .i64 40) fun t39 =>
 zab t39 false H (fun K' => zaf 1 t6 (K' · H)) fun t41 H =>
 zab t39 false H (fun K' => zad false 1 t41 H (K' · H)) fun t42 H =>
 zab t39 false H (fun K' => zah 1 t42 (K' · H)) fun t43 H =>
 zab t39 false H (fun K' => zac .gtr false t43 (.int .i64 8) (K' · H)) fun t44 H =>
 zaj t39 (.bool true) t44 fun t45 =>
 zag t45
 (K (.bool false) H)
 (zav [(.int .i64 0)] H fun t7 H =>
 zak 1 t7 (.int .i64 20) H fun H =>
 zaf 1 t6 fun t46 =>
 zad false 1 t46 H fun t47 =>
 zah 1 t47 fun t48 =>
 zrK t7 t13 t14 t15 t30 t31 t32 t47 t48 (.int .i64 0) H K Kb4 Kb9))
 (zac .add false t15 (.int .i64 1) fun t58 =>
 Kb4 (zf3 t13 t14 t58) H)
def zmb (t13 t14 t15 : AV) (H : zaa) (K : Kt) (Kb4 : Lt) : Prop :=
 zac .lss false t15 t14 fun t16 =>
 zag t16
 (zai 3 t13 t15 fun t17 =>
 zad true 3 t17 H fun t18 =>
 zav [(.str []), (.int .i64 0), .snil] H fun t4 H =>
 zak 3 t4 t18 H fun H =>
 zaf 0 t4 fun t19 =>
 zad false 1 t19 H fun t20 =>
 zah 0 t20 fun t21 =>
 zac .gtr false t21 (.int .i64 40) fun t22 =>
 zab t22 false H (fun K' => zaf 2 t4 (K' · H)) fun t24 H =>
 zab t22 false H (fun K' => zad false 1 t24 H (K' · H)) fun t25 H =>
 zab t22 false H (fun K' => zah 1 t25 (K' · H)) fun t26 H =>
 zab t22 false H (fun K' => zac .gtr false t26 (.int .i64 10) (K' · H)) fun t27 H =>
 zaj t22 (.bool true) t27 fun t28 =>
 zag t28
 (K (.bool false) H)
 (zaf 2 t4 fun t29 =>
 zad false 1 t29 H fun t30 =>
 zah 1 t30 fun t31 =>
 zrM t13 t14 t15 t30 t31 (.int .i64 0) H K Kb4))
 (K (.bool true) H)
def zl9 (t0 : AV) (H : zaa) (K : Kt) : Prop :=
 zah 1 t0 fun t11 =>
 zac .gtr false t11 (.int .i64 14) fun t12 =>
 zag t12
 (K (.bool false) H)
 (zah 1 t0 fun t14 =>
 zrL t0 t14 (.int .i64 0) H K)
theorem zzS {t7 t13 t14 t15 t30 t31 t32 t47 t48 t49 : AV} {H : zaa} {K : Kt} {Kb4 : Lt} {Kb9 : Lt} (Inv : Nat → AV → zaa → Prop) (n : Nat) (h0 : HSc H → Inv n t49 H)
  (round : Rd1 (fun t49 => zif t7 t13 t14 t15 t30 t31 t32 t47 t48 t49) (fun t49 => fun H Kb15 => zma t7 t13 t14 t15 t30 t31 t32 t47 t48 t49 H K Kb4 Kb9 Kb15) H Inv) : zrK t7 t13 t14 t15 t30 t31 t32 t47 t48 t49 H K Kb4 Kb9 :=
 lp1 (M := zc0) zzV t49 (by kernel_rfl) Inv n h0 round
theorem zzU {t13 t14 t15 t30 t31 t32 : AV} {H : zaa} {K : Kt} {Kb4 : Lt} (Inv : Nat → AV → zaa → Prop) (n : Nat) (h0 : HSc H → Inv n t32 H)
  (round : Rd1 (fun t32 => zig t13 t14 t15 t30 t31 t32) (fun t32 => fun H Kb9 => zmc t13 t14 t15 t30 t31 t32 H K Kb4 Kb9) H Inv) : zrM t13 t14 t15 t30 t31 t32 H K Kb4 :=
 lp1 (M := zc0) zrO t32 (by kernel_rfl) Inv n h0 round
theorem zzT {t13 t14 t15 : AV} {H : zaa} {K : Kt} (Inv : Nat → AV → zaa → Prop) (n : Nat) (h0 : HSc H → Inv n t15 H)
  (round : Rd1 (fun t15 => zf3 t13 t14 t15) (fun t15 => fun H Kb4 => zmb t13 t14 t15 H K Kb4) H Inv) : zrL t13 t14 t15 H K :=
 lp1 (M := zc0) zrN t15 (by kernel_rfl) Inv n h0 round
theorem zzW {t0 : AV} {H : zaa} {K : Kt} (h : HSc H → zl9 t0 H K) : ACalls tP zkC [t0] H K :=
 zao (M := zc0) Tryz.func24 (c := zmd) (by kernel_rfl) (fun hs => Eq.mpr (by kernel_rfl) (h hs))
def zDq (_ : Nat) : List Bool := []
noncomputable def zDr : Code := Tryz.f71.body.getD .skip
def zsV (t0 t1 t2 : AV) (H : zaa) (K : Kt) : Prop :=
 zas t1 H fun t4 H =>
 zal [.snil, (.int .i64 0), (.int .i64 0)] [(0, 1), (1, 1), (2, 1)] [(0, t0), (1, t2), (2, (.int .i64 200))] fun t10 =>
 zas t10 H fun t11 H =>
 zad true 3 t4 H fun t13 =>
 ACalls tP zg4 [t11, t13] H fun t14 H =>
 K t14 H
theorem zDs {t0 t1 t2 : AV} {H : zaa} {K : Kt} (h : HSc H → zsV t0 t1 t2 H K) : ACalls tP zfI [t0, t1, t2] H K :=
 zao (M := zDq) Tryz.func71 (c := zDr) (by kernel_rfl) (fun hs => Eq.mpr (by kernel_rfl) (h hs))
def zdg : Nat → List Bool
 | 171022 => rl false [2,2,16,1,53,1,34]
 | 150010 => rl false [2,2,1,2,13,2,87]
 | 100007 => rl false [2,2,1,2,13,1,88]
 | 100002 => rl false [2,2,105]
 | _ => []
noncomputable def zdh : Code := Tryz.f97.body.getD .skip
noncomputable def zjP : List ResultVar := Tryz.f97.results.toList
def ze3 (t2 t3 t5 t6 : AV) (H : zaa) (K : Kt) : Prop :=
 zaf 0 t3 fun t79 =>
 zad false 1 t79 H fun t80 =>
 zac .neq false t80 (.int .i64 4) fun t81 =>
 zab t81 true H (fun K' => zaf 0 t3 (K' · H)) fun t83 H =>
 zab t81 true H (fun K' => zad false 1 t83 H (K' · H)) fun t84 H =>
 zab t81 true H (fun K' => zac .neq false t84 (.int .i64 5) (K' · H)) fun t85 H =>
 zaj t81 t85 (.bool false) fun t86 =>
 zab t86 true H (fun K' => zaf 1 t3 (K' · H)) fun t88 H =>
 zab t86 true H (fun K' => zad false 1 t88 H (K' · H)) fun t89 H =>
 zab t86 true H (fun K' => zac .neq false t89 (.int .i64 0) (K' · H)) fun t90 H =>
 zaj t86 t90 (.bool false) fun t91 =>
 zag t91
 (K (.bool false) H)
 (zaf 2 t3 fun t92 =>
 zad false 1 t92 H fun t93 =>
 zah 1 t93 fun t94 =>
 zac .lss false t94 t5 fun t96 =>
 zab t96 false H (fun K' => zaf 2 t3 (K' · H)) fun t98 H =>
 zab t96 false H (fun K' => zad false 1 t98 H (K' · H)) fun t99 H =>
 zab t96 false H (fun K' => zah 1 t99 (K' · H)) fun t100 H =>
 zab t96 false H (fun K' => K' t6 H) fun t101 H =>
 zab t96 false H (fun K' => zac .gtr false t100 t101 (K' · H)) fun t102 H =>
 zaj t96 (.bool true) t102 fun t103 =>
 zag t103
 (K (.bool false) H)
 (zaf 2 t3 fun t104 =>
 zad false 1 t104 H fun t105 =>
 zbZ zgx [t2] fun t106 =>
 ACalls tP zd0 [t105, t106] H fun t107 H =>
 aUn .not t107 fun t108 =>
 K t108 H))
def zcz (t2 t3 t5 t6 : AV) (H : zaa) (K : Kt) : Prop :=
 ze3 t2 t3 t5 t6 H K
noncomputable def zFx : Code := zap [1, 1, 1, 1, 0, 1, 0, 1, 1, 1, 1, 1, 1, 1, 1, 1] zdh
def zFw (K : Kt) : AExit → List AV → zaa → Prop := zaq tP zdg [1, 1, 1, 1, 0, 1, 0, 1, 1, 1, 1, 1, 1, 1, 1, 1] zdh (zax tP zjP K)
def znV (t2 t3 t20 t74 : AV) (H : zaa) (K : Kt) : Prop := AWp tP zFx (zFw K) (ux 2 (t2 :: t3 :: ux 16 (t20 :: ux 53 (t74 :: ux 34 [])))) H
def zjO (t2 t3 t20 t74 : AV) (H : zaa) (K : Kt) : Prop :=
 zag t74
 (zcz t2 t3 (.int .i64 1) (.int .i64 1) H K)
 (zac .eql false t20 (.int .i64 9) fun t78 =>
 zag t78
 (zcz t2 t3 (.int .i64 1) (.int .i64 7) H K)
 (K (.bool false) H))
noncomputable def zFv : Code := zap [1, 1, 1, 1, 0, 1, 0, 1] zdh
def zFu (K : Kt) : AExit → List AV → zaa → Prop := zaq tP zdg [1, 1, 1, 1, 0, 1, 0, 1] zdh (zax tP zjP K)
def zjN (t2 t3 t5 t6 t20 t21 : AV) (H : zaa) (K : Kt) : Prop := AWp tP zFv (zFu K) (ux 2 (t2 :: t3 :: ux 1 (t5 :: t6 :: ux 13 (t20 :: t21 :: ux 87 [])))) H
def zcK (t2 t3 t5 t6 t20 t21 : AV) (H : zaa) (K : Kt) : Prop :=
 zag t21
 (zcz t2 t3 t5 t6 H K)
 (zac .eql false t20 (.int .i64 4) fun t26 =>
 zag t26
 (zae H (fun K' => zaf 1 t3 (K' · H)) fun t27 =>
 zae H (fun K' => zam false 1 t27 H (K' · H)) fun t28 =>
 zae H (fun K' => zac .lss false t28 (.int .i64 0) (K' · H)) fun t29 =>
 zae H (fun K' => K' t29 H) fun t30 =>
 zab t30 false H (fun K' => zae H (fun K'' => zaf 1 t3 (K'' · H)) (K' · H)) fun t31 H =>
 zab t30 false H (fun K' => zae H (fun K'' => zam false 1 t31 H (K'' · H)) (K' · H)) fun t32 H =>
 zab t30 false H (fun K' => zae H (fun K'' => zam false 1 t2 H (K'' · H)) (K' · H)) fun t33 H =>
 zab t30 false H (fun K' => zae H (fun K'' => za9 t33 (K'' · H)) (K' · H)) fun t34 H =>
 zab t30 false H (fun K' => zae H (fun K'' => zaf 1 t34 (K'' · H)) (K' · H)) fun t35 H =>
 zab t30 false H (fun K' => zae H (fun K'' => zam false 1 t35 H (K'' · H)) (K' · H)) fun t36 H =>
 zab t30 false H (fun K' => zae H (fun K'' => zac .geq false t32 t36 (K'' · H)) (K' · H)) fun t37 H =>
 zae H (fun K' => zaj t30 (.bool true) t37 (K' · H)) fun t38 =>
 zag t38
 (K (.bool false) H)
 (zcz t2 t3 t5 t6 H K))
 (zac .eql false t20 (.int .i64 5) fun t40 =>
 zag t40
 (zae H (fun K' => zaf 1 t3 (K' · H)) fun t41 =>
 zae H (fun K' => zam false 1 t41 H (K' · H)) fun t42 =>
 zae H (fun K' => zac .lss false t42 (.int .i64 0) (K' · H)) fun t43 =>
 zae H (fun K' => K' t43 H) fun t44 =>
 zab t44 false H (fun K' => zae H (fun K'' => zaf 1 t3 (K'' · H)) (K' · H)) fun t45 H =>
 zab t44 false H (fun K' => zae H (fun K'' => zam false 1 t45 H (K'' · H)) (K' · H)) fun t46 H =>
 zab t44 false H (fun K' => zae H (fun K'' => zam false 1 t2 H (K'' · H)) (K' · H)) fun t47 H =>
 zab t44 false H (fun K' => zae H (fun K'' => za9 t47 (K'' · H)) (K' · H)) fun t48 H =>
 zab t44 false H (fun K' => zae H (fun K'' => zaf 0 t48 (K'' · H)) (K' · H)) fun t49 H =>
 zab t44 false H (fun K' => zae H (fun K'' => zam false 1 t49 H (K'' · H)) (K' · H)) fun t50 H =>
 zab t44 false H (fun K' => zae H (fun K'' => zah 1 t50 (K'' · H)) (K' · H)) fun t51 H =>
 zab t44 false H (fun K' => zae H (fun K'' => zac .geq false t46 t51 (K'' · H)) (K' · H)) fun t52 H =>
 zae H (fun K' => zaj t44 (.bool true) t52 (K' · H)) fun t53 =>
 zag t53
 (K (.bool false) H)
 (zae H (fun K' => zam false 1 t2 H (K' · H)) fun t54 =>
 zae H (fun K' => za9 t54 (K' · H)) fun t55 =>
 zae H (fun K' => zaf 0 t55 (K' · H)) fun t56 =>
 zae H (fun K' => zam false 1 t56 H (K' · H)) fun t57 =>
 zae H (fun K' => zaf 1 t3 (K' · H)) fun t58 =>
 zae H (fun K' => zam false 1 t58 H (K' · H)) fun t59 =>
 zae H (fun K' => zai 3 t57 t59 (K' · H)) fun t60 =>
 zae H (fun K' => zaf 1 t60 (K' · H)) fun t61 =>
 zae H (fun K' => zam false 1 t61 H (K' · H)) fun t62 =>
 zae H (fun K' => zam false 1 t2 H (K' · H)) fun t63 =>
 zae H (fun K' => za9 t63 (K' · H)) fun t64 =>
 zae H (fun K' => zaf 0 t64 (K' · H)) fun t65 =>
 zae H (fun K' => zam false 1 t65 H (K' · H)) fun t66 =>
 zae H (fun K' => zaf 1 t3 (K' · H)) fun t67 =>
 zae H (fun K' => zam false 1 t67 H (K' · H)) fun t68 =>
 zae H (fun K' => zai 3 t66 t68 (K' · H)) fun t69 =>
 zae H (fun K' => zaf 1 t69 (K' · H)) fun t70 =>
 zae H (fun K' => zam false 1 t70 H (K' · H)) fun t71 =>
 zae H (fun K' => K' t62 H) fun t5 =>
 zae H (fun K' => K' t71 H) fun t6 =>
 zcz t2 t3 t5 t6 H K))
 (zac .eql false t20 (.int .i64 6) fun t73 =>
 zag t73
 (zcz t2 t3 (.int .i64 2) (.int .i64 6) H K)
 (zac .eql false t20 (.int .i64 7) fun t75 =>
 zag t75
 (znV t2 t3 t20 t75 H K)
 (zac .eql false t20 (.int .i64 8) fun t76 =>
 znV t2 t3 t20 t76 H K)))))
noncomputable def zFs : Code := zap [1, 1, 1, 1, 0, 1] zdh
def zFr (K : Kt) : AExit → List AV → zaa → Prop := zaq tP zdg [1, 1, 1, 1, 0, 1] zdh (zax tP zjP K)
def ztU (t2 t3 t5 t6 t20 : AV) (H : zaa) (K : Kt) : Prop := AWp tP zFs (zFr K) (ux 2 (t2 :: t3 :: ux 1 (t5 :: t6 :: ux 13 (t20 :: ux 88 [])))) H
def znU (t2 t3 t5 t6 t20 : AV) (H : zaa) (K : Kt) : Prop :=
 zac .eql false t20 (.int .i64 1) fun t22 =>
 zag t22
 (zjN t2 t3 t5 t6 t20 t22 H K)
 (zac .eql false t20 (.int .i64 2) fun t23 =>
 zag t23
 (zjN t2 t3 t5 t6 t20 t23 H K)
 (zac .eql false t20 (.int .i64 3) fun t24 =>
 zjN t2 t3 t5 t6 t20 t24 H K))
noncomputable def zFp : Code := zap [1, 1] zdh
def zFo (K : Kt) : AExit → List AV → zaa → Prop := zaq tP zdg [1, 1] zdh (zax tP zjP K)
def znS (t2 t3 : AV) (H : zaa) (K : Kt) : Prop := AWp tP zFp (zFo K) (ux 2 (t2 :: t3 :: ux 105 [])) H
def znT (t2 t3 : AV) (H : zaa) (K : Kt) : Prop :=
 zad false 1 t2 H fun t14 =>
 za9 t14 fun t15 =>
 zaf 2 t15 fun t16 =>
 zad false 1 t16 H fun t17 =>
 zac .lss false t17 (.int .i64 0) fun t18 =>
 zag t18
 (K (.bool false) H)
 (zaf 0 t3 fun t19 =>
 zad false 1 t19 H fun t20 =>
 ztU t2 t3 (.int .i64 0) (.int .i64 0) t20 H K)
def ztT (t0 t1 : AV) (H : zaa) (K : Kt) : Prop :=
 zas t0 H fun t2 H =>
 zas t1 H fun t3 H =>
 zad false 1 t2 H fun t7 =>
 za9 t7 fun t8 =>
 zaf 2 t8 fun t9 =>
 zad false 1 t9 H fun t10 =>
 zac .sub false t10 (.int .i64 1) fun t11 =>
 za9 t7 fun t12 =>
 zaf 2 t12 fun t13 =>
 zak 1 t13 t11 H fun H =>
 znS t2 t3 H K
theorem ztW {t2 t3 t20 t74 : AV} {H : zaa} {K : Kt} (h : HSc H → zjO t2 t3 t20 t74 H K) : znV t2 t3 t20 t74 H K :=
 fun B w G a hH hF hd => zdR (M := zdg) _ _ _ _ (Eq.mpr (by kernel_rfl) (h hH.sc)) B w G a hH hF hd
theorem ztV {t2 t3 t5 t6 t20 t21 : AV} {H : zaa} {K : Kt} (h : HSc H → zcK t2 t3 t5 t6 t20 t21 H K) : zjN t2 t3 t5 t6 t20 t21 H K :=
 fun B w G a hH hF hd => zdR (M := zdg) _ _ _ _ (Eq.mpr (by kernel_rfl) (h hH.sc)) B w G a hH hF hd
theorem zFt {t2 t3 t5 t6 t20 : AV} {H : zaa} {K : Kt} (h : HSc H → znU t2 t3 t5 t6 t20 H K) : ztU t2 t3 t5 t6 t20 H K :=
 fun B w G a hH hF hd => zdR (M := zdg) _ _ _ _ (Eq.mpr (by kernel_rfl) (h hH.sc)) B w G a hH hF hd
theorem zFq {t2 t3 : AV} {H : zaa} {K : Kt} (h : HSc H → znT t2 t3 H K) : znS t2 t3 H K :=
 fun B w G a hH hF hd => zdR (M := zdg) _ _ _ _ (Eq.mpr (by kernel_rfl) (h hH.sc)) B w G a hH hF hd
theorem zFy {t0 t1 : AV} {H : zaa} {K : Kt} (h : HSc H → ztT t0 t1 H K) : ACalls tP zg4 [t0, t1] H K :=
 zao (M := zdg) Tryz.func97 (c := zdh) (by kernel_rfl) (fun hs => Eq.mpr (by kernel_rfl) (h hs))
def zxB (_ : Nat) : List Bool := []
noncomputable def zxC : Code := Tryz.f114.body.getD .skip
def zqY (t0 t1 : AV) (H : zaa) (K : Kt) : Prop :=
 zas t0 H fun t2 H =>
 zad false 1 t1 H fun t4 =>
 zad true 3 t2 H fun t5 =>
 ACalls tP zg4 [t4, t5] H fun t6 H =>
 aUn .not t6 fun t7 =>
 K t7 H
theorem zxD {t0 t1 : AV} {H : zaa} {K : Kt} (h : HSc H → zqY t0 t1 H K) : ACalls tP zgx [t0, t1] H K :=
 zao (M := zxB) Tryz.func114 (c := zxC) (by kernel_rfl) (fun hs => Eq.mpr (by kernel_rfl) (h hs))
def zxy (_ : Nat) : List Bool := []
noncomputable def zxz : Code := Tryz.f106.body.getD .skip
def zqW (t0 t1 : AV) (H : zaa) (K : Kt) : Prop :=
 ACalls tP zkx [t0, t1] H fun t7 H =>
 zac .geq false t7 (.int .i64 0) fun t8 =>
 K t8 H
theorem zxA {t0 t1 : AV} {H : zaa} {K : Kt} (h : HSc H → zqW t0 t1 H K) : ACalls tP zd0 [t0, t1] H K :=
 zao (M := zxy) Tryz.func106 (c := zxz) (by kernel_rfl) (fun hs => Eq.mpr (by kernel_rfl) (h hs))
def zhR : Nat → List Bool
 | 2 => rl false [0,2,5,2,10]
 | _ => []
noncomputable def zlP : Code := Tryz.f124.body.getD .skip
noncomputable def zyo : List ResultVar := Tryz.f124.results.toList
def zhS (t0 t1 t7 t8 : AV) : List AV := t0 :: t1 :: ux 5 (t7 :: t8 :: ux 10 [])
def zym : List Bool := zhR 2
noncomputable def zyk : Code := zap [1, 0, 1, 0, 0] zlP
def zyj (K : Kt) : AExit → List AV → zaa → Prop := zaq tP zhR [1, 0, 1, 0] zlP (zax tP zyo K)
def zrh (t0 t1 t7 t8 : AV) (H : zaa) (K : Kt) : Prop := ALoop tP zyk (zyj K) (zhS t0 t1 t7 t8) H
def zlO (t0 t1 t7 t8 : AV) (H : zaa) (K : Kt) (Kb2 : Lt) : Prop :=
 zac .lss false t8 t7 fun t9 =>
 zag t9
 (zai 3 t0 t8 fun t14 =>
 zad true 3 t14 H fun t15 =>
 aCallV tP t1 [t15] H fun t16 H =>
 zag t16
 (K t8 H)
 (zac .add false t8 (.int .i64 1) fun t18 =>
 Kb2 (zhS t0 t1 t7 t18) H))
 (K (.int .i64 (-1)) H)
def zrg (t0 t1 : AV) (H : zaa) (K : Kt) : Prop :=
 zah 1 t0 fun t7 =>
 zrh t0 t1 t7 (.int .i64 0) H K
theorem zyl {t0 t1 t7 t8 : AV} {H : zaa} {K : Kt} (Inv : Nat → AV → zaa → Prop) (n : Nat) (h0 : HSc H → Inv n t8 H)
  (round : Rd1 (fun t8 => zhS t0 t1 t7 t8) (fun t8 => fun H Kb2 => zlO t0 t1 t7 t8 H K Kb2) H Inv) : zrh t0 t1 t7 t8 H K :=
 lp1 (M := zhR) zym t8 (by kernel_rfl) Inv n h0 round
theorem zyn {t0 t1 : AV} {H : zaa} {K : Kt} (h : HSc H → zrg t0 t1 H K) : ACalls tP zkx [t0, t1] H K :=
 zao (M := zhR) Tryz.func124 (c := zlP) (by kernel_rfl) (fun hs => Eq.mpr (by kernel_rfl) (h hs))
def zc1 : Nat → List Bool
 | 8 => rl false [2,1,1,1,3,2,49,3,46]
 | 13 => rl false [2,1,1,1,3,2,67,3,28]
 | 20 => rl false [4,1,9,1,78,3,12]
 | _ => []
noncomputable def zeg : Code := Tryz.f28.body.getD .skip
noncomputable def zml : List ResultVar := Tryz.f28.results.toList
def zil (t2 t4 t8 t9 t59 t60 t61 : AV) : List AV := ux 2 (t2 :: ux 1 (t4 :: ux 3 (t8 :: t9 :: ux 49 (t59 :: t60 :: t61 :: ux 46 []))))
def zAp : List Bool := zc1 8
noncomputable def zAj : Code := zap [1, 1, 1, 1, 1, 0, 1, 0, 0] zeg
def zAg (K : Kt) : AExit → List AV → zaa → Prop := zaq tP zc1 [1, 1, 1, 1, 1, 0, 1, 0] zeg (zax tP zml K)
def zrV (t2 t4 t8 t9 t59 t60 t61 : AV) (H : zaa) (K : Kt) : Prop := ALoop tP zAj (zAg K) (zil t2 t4 t8 t9 t59 t60 t61) H
def zij (t2 t4 t8 t9 t77 t78 t79 : AV) : List AV := ux 2 (t2 :: ux 1 (t4 :: ux 3 (t8 :: t9 :: ux 67 (t77 :: t78 :: t79 :: ux 28 []))))
def zAn : List Bool := zc1 13
noncomputable def zAh : Code := zap [1, 1, 1, 1, 1, 1, 0, 1, 0, 0] zeg
def zAe (K : Kt) : AExit → List AV → zaa → Prop := zaq tP zc1 [1, 1, 1, 1, 1, 1, 0, 1, 0] zeg (zax tP zml K)
def zrU (t2 t4 t8 t9 t77 t78 t79 : AV) (H : zaa) (K : Kt) : Prop := ALoop tP zAh (zAe K) (zij t2 t4 t8 t9 t77 t78 t79) H
def zik (t4 t14 t93 t94 t95 : AV) : List AV := ux 4 (t4 :: ux 9 (t14 :: ux 78 (t93 :: t94 :: t95 :: ux 12 [])))
def zAo : List Bool := zc1 20
noncomputable def zAi : Code := zap [1, 1, 1, 1, 1, 1, 1, 1, 0, 1, 0, 0] zeg
def zAf (K : Kt) : AExit → List AV → zaa → Prop := zaq tP zc1 [1, 1, 1, 1, 1, 1, 1, 1, 0, 1, 0] zeg (zax tP zml K)
def zim (t4 t14 t93 t94 t95 : AV) (H : zaa) (K : Kt) : Prop := ALoop tP zAi (zAf K) (zik t4 t14 t93 t94 t95) H
def zmj (t4 t14 t93 t94 t95 : AV) (H : zaa) (K : Kt) (Kb20 : Lt) : Prop :=
 zac .lss false t95 t94 fun t96 =>
 zag t96
 (zai 3 t93 t95 fun t97 =>
 zad true 3 t97 H fun t98 =>
 zav [(.int .i64 0), (.int .i64 0), .snil] H fun t16 H =>
 zak 3 t16 t98 H fun H =>
 zad true 3 t16 H fun t100 =>
 zaf 2 t4 fun t101 =>
 zad false 1 t101 H fun t102 =>
 ACalls tP zfG [t100, t102] H fun t103 H =>
 zay 3 [(.int .i64 0), (.int .i64 0), .snil] 1 [(0, t103)] fun t104 =>
 zat zaQ 3 40 t14 t104 H fun t105 H =>
 zac .add false t95 (.int .i64 1) fun t106 =>
 Kb20 (zik t4 t105 t93 t94 t106) H)
 (zau [t14, (.bool true)] (K · H))
def zmi (t2 t4 t8 t9 t77 t78 t79 : AV) (H : zaa) (K : Kt) (Kb13 : Lt) : Prop :=
 zac .lss false t79 t78 fun t80 =>
 zag t80
 (zai 3 t77 t79 fun t81 =>
 zad true 3 t81 H fun t82 =>
 zav [(.int .i64 0), (.int .i64 0), .snil] H fun t13 H =>
 zak 3 t13 t82 H fun H =>
 zad true 3 t13 H fun t83 =>
 ACalls tP zgP [t83, t9] H fun t85 H =>
 zac .gtr false t85 (.int .i64 200) fun t86 =>
 zag t86
 (zau [.snil, (.bool false)] (K · H))
 (zac .add false t79 (.int .i64 1) fun t87 =>
 Kb13 (zij t2 t4 t8 t9 t77 t78 t87) H))
 (zaf 2 t8 fun t88 =>
 zad false 1 t88 H fun t89 =>
 zai 2 t89 t2 fun t91 =>
 zaf 1 t91 fun t92 =>
 zad false 1 t92 H fun t93 =>
 zah 1 t93 fun t94 =>
 zim t4 .snil t93 t94 (.int .i64 0) H K)
def zmk (t2 t4 t8 t9 t59 t60 t61 : AV) (H : zaa) (K : Kt) (Kb8 : Lt) : Prop :=
 zac .lss false t61 t60 fun t62 =>
 zag t62
 (zai 3 t59 t61 fun t64 =>
 zad true 3 t64 H fun t65 =>
 zav [(.int .i64 0), (.int .i64 0), .snil] H fun t11 H =>
 zak 3 t11 t65 H fun H =>
 zad true 3 t11 H fun t68 =>
 ACalls tP zgO [t68] H fun t69 H =>
 zai 1 t9 t61 fun t70 =>
 zak 1 t70 t69 H fun H =>
 zac .add false t61 (.int .i64 1) fun t71 =>
 Kb8 (zil t2 t4 t8 t9 t59 t60 t71) H)
 (zaf 2 t8 fun t72 =>
 zad false 1 t72 H fun t73 =>
 zai 2 t73 t2 fun t75 =>
 zaf 1 t75 fun t76 =>
 zad false 1 t76 H fun t77 =>
 zah 1 t77 fun t78 =>
 zrU t2 t4 t8 t9 t77 t78 (.int .i64 0) H K)
def zrT (t0 t1 t2 : AV) (H : zaa) (K : Kt) : Prop :=
 zas t1 H fun t4 H =>
 zaf 0 t4 fun t17 =>
 zad false 1 t17 H fun t18 =>
 zac .neq false t18 (.int .i64 5) fun t19 =>
 zab t19 false H (fun K' => zaf 1 t4 (K' · H)) fun t21 H =>
 zab t19 false H (fun K' => zad false 1 t21 H (K' · H)) fun t22 H =>
 zab t19 false H (fun K' => zac .lss false t22 (.int .i64 0) (K' · H)) fun t23 H =>
 zaj t19 (.bool true) t23 fun t24 =>
 zab t24 false H (fun K' => zaf 1 t4 (K' · H)) fun t26 H =>
 zab t24 false H (fun K' => zad false 1 t26 H (K' · H)) fun t27 H =>
 zab t24 false H (fun K' => K' t0 H) fun t28 H =>
 zab t24 false H (fun K' => zah 1 t28 (K' · H)) fun t29 H =>
 zab t24 false H (fun K' => zac .geq false t27 t29 (K' · H)) fun t30 H =>
 zaj t24 (.bool true) t30 fun t31 =>
 zag t31
 (zau [.snil, (.bool false)] (K · H))
 (zaf 1 t4 fun t33 =>
 zad false 1 t33 H fun t34 =>
 zai 3 t0 t34 fun t35 =>
 zad true 3 t35 H fun t36 =>
 zav [(.str []), (.int .i64 0), .snil] H fun t8 H =>
 zak 3 t8 t36 H fun H =>
 zaf 2 t4 fun t37 =>
 zad false 1 t37 H fun t38 =>
 zah 1 t38 fun t39 =>
 zaf 1 t8 fun t40 =>
 zad false 1 t40 H fun t41 =>
 zac .neq false t39 t41 fun t42 =>
 zab t42 false H (fun K' => K' t2 H) fun t44 H =>
 zab t42 false H (fun K' => zac .lss false t44 (.int .i64 0) (K' · H)) fun t45 H =>
 zaj t42 (.bool true) t45 fun t46 =>
 zab t46 false H (fun K' => K' t2 H) fun t48 H =>
 zab t46 false H (fun K' => zaf 2 t8 (K' · H)) fun t49 H =>
 zab t46 false H (fun K' => zad false 1 t49 H (K' · H)) fun t50 H =>
 zab t46 false H (fun K' => zah 1 t50 (K' · H)) fun t51 H =>
 zab t46 false H (fun K' => zac .geq false t48 t51 (K' · H)) fun t52 H =>
 zaj t46 (.bool true) t52 fun t53 =>
 zag t53
 (zau [.snil, (.bool false)] (K · H))
 (zaf 2 t4 fun t54 =>
 zad false 1 t54 H fun t55 =>
 zah 1 t55 fun t56 =>
 zbw 8 [(.int .i64 0)] t56 t56 H fun t57 H =>
 zaf 2 t4 fun t58 =>
 zad false 1 t58 H fun t59 =>
 zah 1 t59 fun t60 =>
 zrV t2 t4 t8 t57 t59 t60 (.int .i64 0) H K))
theorem zAl {t4 t14 t93 t94 t95 : AV} {H : zaa} {K : Kt} (Inv : Nat → AV → AV → zaa → Prop) (n : Nat) (h0 : HSc H → Inv n t14 t95 H)
  (round : Rd2 (fun t14 => fun t95 => zik t4 t14 t93 t94 t95) (fun t14 => fun t95 => fun H Kb20 => zmj t4 t14 t93 t94 t95 H K Kb20) H Inv) : zim t4 t14 t93 t94 t95 H K :=
 lp2 (M := zc1) zAo t14 t95 (by kernel_rfl) Inv n h0 round
theorem zAk {t2 t4 t8 t9 t77 t78 t79 : AV} {H : zaa} {K : Kt} (Inv : Nat → AV → zaa → Prop) (n : Nat) (h0 : HSc H → Inv n t79 H)
  (round : Rd1 (fun t79 => zij t2 t4 t8 t9 t77 t78 t79) (fun t79 => fun H Kb13 => zmi t2 t4 t8 t9 t77 t78 t79 H K Kb13) H Inv) : zrU t2 t4 t8 t9 t77 t78 t79 H K :=
 lp1 (M := zc1) zAn t79 (by kernel_rfl) Inv n h0 round
theorem zAm {t2 t4 t8 t9 t59 t60 t61 : AV} {H : zaa} {K : Kt} (Inv : Nat → AV → zaa → Prop) (n : Nat) (h0 : HSc H → Inv n t61 H)
  (round : Rd1 (fun t61 => zil t2 t4 t8 t9 t59 t60 t61) (fun t61 => fun H Kb8 => zmk t2 t4 t8 t9 t59 t60 t61 H K Kb8) H Inv) : zrV t2 t4 t8 t9 t59 t60 t61 H K :=
 lp1 (M := zc1) zAp t61 (by kernel_rfl) Inv n h0 round
theorem zAq {t0 t1 t2 : AV} {H : zaa} {K : Kt} (h : HSc H → zrT t0 t1 t2 H K) : ACalls tP zeD [t0, t1, t2] H K :=
 zao (M := zc1) Tryz.func28 (c := zeg) (by kernel_rfl) (fun hs => Eq.mpr (by kernel_rfl) (h hs))
def ziN : Nat → List Bool
 | 3 => rl false [3,1,3,3,9]
 | _ => []
noncomputable def zmK : Code := Tryz.f49.body.getD .skip
noncomputable def zBM : List ResultVar := Tryz.f49.results.toList
def ziO (t3 t7 t8 t9 : AV) : List AV := ux 3 (t3 :: ux 3 (t7 :: t8 :: t9 :: ux 9 []))
def zBK : List Bool := ziN 3
noncomputable def zBI : Code := zap [1, 1, 0, 1, 0, 0] zmK
def zBH (K : Kt) : AExit → List AV → zaa → Prop := zaq tP ziN [1, 1, 0, 1, 0] zmK (zax tP zBM K)
def zsr (t3 t7 t8 t9 : AV) (H : zaa) (K : Kt) : Prop := ALoop tP zBI (zBH K) (ziO t3 t7 t8 t9) H
def zmJ (t3 t7 t8 t9 : AV) (H : zaa) (K : Kt) (Kb3 : Lt) : Prop :=
 zac .lss false t9 t8 fun t10 =>
 zag t10
 (zai 3 t7 t9 fun t11 =>
 zad true 3 t11 H fun t12 =>
 zav [(.int .i64 0), (.int .i64 0), .snil] H fun t5 H =>
 zak 3 t5 t12 H fun H =>
 zad true 3 t5 H fun t14 =>
 ACalls tP zgO [t14] H fun t15 H =>
 zac .add false t3 t15 fun t16 =>
 zac .add false t9 (.int .i64 1) fun t17 =>
 Kb3 (ziO t16 t7 t8 t17) H)
 (K t3 H)
def zsq (t0 : AV) (H : zaa) (K : Kt) : Prop :=
 zas t0 H fun t1 H =>
 zaf 2 t1 fun t6 =>
 zad false 1 t6 H fun t7 =>
 zah 1 t7 fun t8 =>
 zsr (.int .i64 1) t7 t8 (.int .i64 0) H K
theorem zBJ {t3 t7 t8 t9 : AV} {H : zaa} {K : Kt} (Inv : Nat → AV → AV → zaa → Prop) (n : Nat) (h0 : HSc H → Inv n t3 t9 H)
  (round : Rd2 (fun t3 => fun t9 => ziO t3 t7 t8 t9) (fun t3 => fun t9 => fun H Kb3 => zmJ t3 t7 t8 t9 H K Kb3) H Inv) : zsr t3 t7 t8 t9 H K :=
 lp2 (M := ziN) zBK t3 t9 (by kernel_rfl) Inv n h0 round
theorem zBL {t0 : AV} {H : zaa} {K : Kt} (h : HSc H → zsq t0 H K) : ACalls tP zgO [t0] H K :=
 zao (M := ziN) Tryz.func49 (c := zmK) (by kernel_rfl) (fun hs => Eq.mpr (by kernel_rfl) (h hs))
def ziP : Nat → List Bool
 | 5 => rl false [1,1,3,1,23,3,12]
 | _ => []
noncomputable def zmN : Code := Tryz.f50.body.getD .skip
noncomputable def zBT : List ResultVar := Tryz.f50.results.toList
def ziQ (t1 t5 t29 t30 t31 : AV) : List AV := ux 1 (t1 :: ux 3 (t5 :: ux 23 (t29 :: t30 :: t31 :: ux 12 [])))
def zBR : List Bool := ziP 5
noncomputable def zBP : Code := zap [1, 1, 1, 0, 1, 0, 0] zmN
def zBO (K : Kt) : AExit → List AV → zaa → Prop := zaq tP ziP [1, 1, 1, 0, 1, 0] zmN (zax tP zBT K)
def zmP (t1 t5 t29 t30 t31 : AV) (H : zaa) (K : Kt) : Prop := ALoop tP zBP (zBO K) (ziQ t1 t5 t29 t30 t31) H
def zmO (t5 : AV) (H : zaa) (K : Kt) : Prop :=
 K t5 H
def ziR (t5 : AV) (H : zaa) (K : Kt) : Prop :=
 zmO t5 H K
def zmM (t1 t5 t29 t30 t31 : AV) (H : zaa) (K : Kt) (Kb5 : Lt) : Prop :=
 zac .lss false t31 t30 fun t32 =>
 zag t32
 (zai 3 t29 t31 fun t33 =>
 zad true 3 t33 H fun t34 =>
 zav [(.int .i64 0), (.int .i64 0), .snil] H fun t7 H =>
 zak 3 t7 t34 H fun H =>
 zad true 3 t7 H fun t36 =>
 ACalls tP zgP [t36, t1] H fun t38 H =>
 zac .add false t5 t38 fun t39 =>
 zac .gtr false t39 (.int .i64 200) fun t41 =>
 zag t41
 (ziR t39 H K)
 (zac .add false t31 (.int .i64 1) fun t42 =>
 Kb5 (ziQ t1 t39 t29 t30 t42) H))
 (ziR t5 H K)
def zmL (t0 t1 : AV) (H : zaa) (K : Kt) : Prop :=
 zas t0 H fun t2 H =>
 zaf 0 t2 fun t8 =>
 zad false 1 t8 H fun t9 =>
 zac .eql false t9 (.int .i64 4) fun t10 =>
 zab t10 true H (fun K' => zaf 1 t2 (K' · H)) fun t12 H =>
 zab t10 true H (fun K' => zad false 1 t12 H (K' · H)) fun t13 H =>
 zab t10 true H (fun K' => zac .geq false t13 (.int .i64 0) (K' · H)) fun t14 H =>
 zaj t10 t14 (.bool false) fun t15 =>
 zab t15 true H (fun K' => zaf 1 t2 (K' · H)) fun t17 H =>
 zab t15 true H (fun K' => zad false 1 t17 H (K' · H)) fun t18 H =>
 zab t15 true H (fun K' => K' t1 H) fun t19 H =>
 zab t15 true H (fun K' => zah 1 t19 (K' · H)) fun t20 H =>
 zab t15 true H (fun K' => zac .lss false t18 t20 (K' · H)) fun t21 H =>
 zaj t15 t21 (.bool false) fun t22 =>
 zag t22
 (zaf 1 t2 fun t24 =>
 zad false 1 t24 H fun t25 =>
 zai 1 t1 t25 fun t26 =>
 zad false 1 t26 H fun t27 =>
 K t27 H)
 (zaf 2 t2 fun t28 =>
 zad false 1 t28 H fun t29 =>
 zah 1 t29 fun t30 =>
 zmP t1 (.int .i64 1) t29 t30 (.int .i64 0) H K)
theorem zBQ {t1 t5 t29 t30 t31 : AV} {H : zaa} {K : Kt} (Inv : Nat → AV → AV → zaa → Prop) (n : Nat) (h0 : HSc H → Inv n t5 t31 H)
  (round : Rd2 (fun t5 => fun t31 => ziQ t1 t5 t29 t30 t31) (fun t5 => fun t31 => fun H Kb5 => zmM t1 t5 t29 t30 t31 H K Kb5) H Inv) : zmP t1 t5 t29 t30 t31 H K :=
 lp2 (M := ziP) zBR t5 t31 (by kernel_rfl) Inv n h0 round
theorem zBS {t0 t1 : AV} {H : zaa} {K : Kt} (h : HSc H → zmL t0 t1 H K) : ACalls tP zgP [t0, t1] H K :=
 zao (M := ziP) Tryz.func50 (c := zmN) (by kernel_rfl) (fun hs => Eq.mpr (by kernel_rfl) (h hs))
def ziS : Nat → List Bool
 | 5 => rl false [1,1,2,2,29,3,13]
 | _ => []
noncomputable def zmS : Code := Tryz.f51.body.getD .skip
noncomputable def zB0 : List ResultVar := Tryz.f51.results.toList
def ziT (t1 t4 t5 t35 t36 t37 : AV) : List AV := ux 1 (t1 :: ux 2 (t4 :: t5 :: ux 29 (t35 :: t36 :: t37 :: ux 13 [])))
def zBY : List Bool := ziS 5
noncomputable def zBW : Code := zap [1, 1, 1, 0, 1, 0, 0] zmS
def zBV (K : Kt) : AExit → List AV → zaa → Prop := zaq tP ziS [1, 1, 1, 0, 1, 0] zmS (zax tP zB0 K)
def zf5 (t1 t4 t5 t35 t36 t37 : AV) (H : zaa) (K : Kt) : Prop := ALoop tP zBW (zBV K) (ziT t1 t4 t5 t35 t36 t37) H
def zmR (t1 t4 t5 t35 t36 t37 : AV) (H : zaa) (K : Kt) (Kb5 : Lt) : Prop :=
 zac .lss false t37 t36 fun t38 =>
 zag t38
 (zai 3 t35 t37 fun t39 =>
 zad true 3 t39 H fun t40 =>
 zav [(.int .i64 0), (.int .i64 0), .snil] H fun t7 H =>
 zak 3 t7 t40 H fun H =>
 zae H (fun K' => zaf 2 t5 (K' · H)) fun t41 =>
 zae H (fun K' => zam false 1 t41 H (K' · H)) fun t42 =>
 zae H (fun K' => zam true 3 t7 H (K' · H)) fun t43 =>
 zae H (fun K' => K' t1 H) fun t44 =>
 zbq H (fun H K' => ACalls tP zfG [t43, t44] H K') fun t45 =>
 zae H (fun K' => zay 3 [(.int .i64 0), (.int .i64 0), .snil] 1 [(0, t45)] (K' · H)) fun t46 =>
 zat zaQ 3 40 t42 t46 H fun t47 H =>
 zae H (fun K' => zaf 2 t5 (K' · H)) fun t48 =>
 zak 1 t48 t47 H fun H =>
 zac .add false t37 (.int .i64 1) fun t49 =>
 Kb5 (ziT t1 t4 t5 t35 t36 t49) H)
 (zad true 3 t5 H fun t50 =>
 zak 3 t4 t50 H fun H =>
 zad true 3 t4 H fun r0 =>
 K r0 H)
def zmQ (t0 t1 : AV) (H : zaa) (K : Kt) : Prop :=
 zas t0 H fun t2 H =>
 zav [(.int .i64 0), (.int .i64 0), .snil] H fun t4 H =>
 zaf 0 t2 fun t8 =>
 zad false 1 t8 H fun t9 =>
 zac .eql false t9 (.int .i64 4) fun t10 =>
 zab t10 true H (fun K' => zaf 1 t2 (K' · H)) fun t12 H =>
 zab t10 true H (fun K' => zad false 1 t12 H (K' · H)) fun t13 H =>
 zab t10 true H (fun K' => zac .geq false t13 (.int .i64 0) (K' · H)) fun t14 H =>
 zaj t10 t14 (.bool false) fun t15 =>
 zab t15 true H (fun K' => zaf 1 t2 (K' · H)) fun t17 H =>
 zab t15 true H (fun K' => zad false 1 t17 H (K' · H)) fun t18 H =>
 zab t15 true H (fun K' => K' t1 H) fun t19 H =>
 zab t15 true H (fun K' => zah 1 t19 (K' · H)) fun t20 H =>
 zab t15 true H (fun K' => zac .lss false t18 t20 (K' · H)) fun t21 H =>
 zaj t15 t21 (.bool false) fun t22 =>
 zag t22
 (zaf 1 t2 fun t24 =>
 zad false 1 t24 H fun t25 =>
 zai 3 t1 t25 fun t26 =>
 zad true 3 t26 H fun t27 =>
 ACalls tP zfG [t27, .snil] H fun t28 H =>
 zak 3 t4 t28 H fun H =>
 zad true 3 t4 H fun r0 =>
 K r0 H)
 (zaf 0 t2 fun t29 =>
 zad false 1 t29 H fun t30 =>
 zaf 1 t2 fun t31 =>
 zad false 1 t31 H fun t32 =>
 zal [(.int .i64 0), (.int .i64 0), .snil] [(0, 1), (1, 1), (2, 1)] [(0, t30), (1, t32)] fun t33 =>
 zav [(.int .i64 0), (.int .i64 0), .snil] H fun t5 H =>
 zak 3 t5 t33 H fun H =>
 zaf 2 t2 fun t34 =>
 zad false 1 t34 H fun t35 =>
 zah 1 t35 fun t36 =>
 zf5 t1 t4 t5 t35 t36 (.int .i64 0) H K)
theorem zBX {t1 t4 t5 t35 t36 t37 : AV} {H : zaa} {K : Kt} (Inv : Nat → AV → zaa → Prop) (n : Nat) (h0 : HSc H → Inv n t37 H)
  (round : Rd1 (fun t37 => ziT t1 t4 t5 t35 t36 t37) (fun t37 => fun H Kb5 => zmR t1 t4 t5 t35 t36 t37 H K Kb5) H Inv) : zf5 t1 t4 t5 t35 t36 t37 H K :=
 lp1 (M := ziS) zBY t37 (by kernel_rfl) Inv n h0 round
theorem zBZ {t0 t1 : AV} {H : zaa} {K : Kt} (h : HSc H → zmQ t0 t1 H K) : ACalls tP zfG [t0, t1] H K :=
 zao (M := ziS) Tryz.func51 (c := zmS) (by kernel_rfl) (fun hs => Eq.mpr (by kernel_rfl) (h hs))
def zCN (_ : Nat) : List Bool := []
noncomputable def zCO : Code := Tryz.f64.body.getD .skip
def zsJ (t0 t1 t2 : AV) (H : zaa) (K : Kt) : Prop :=
 zas t1 H fun t4 H =>
 zad true 3 t4 H fun t7 =>
 ACalls tP zfE [t7] H fun t8 H =>
 zac .leq false t8 (.int .i64 200) fun t9 =>
 zab t9 true H (fun K' => K' t0 H) fun t11 H =>
 zab t9 true H (fun K' => zad true 3 t4 H (K' · H)) fun t12 H =>
 zab t9 true H (fun K' => K' t2 H) fun t13 H =>
 zab t9 true H (fun K' => ACalls tP zg2 [t11, t12, t13] H K') fun t14 H =>
 zaj t9 t14 (.bool false) fun t15 =>
 K t15 H
theorem zCP {t0 t1 t2 : AV} {H : zaa} {K : Kt} (h : HSc H → zsJ t0 t1 t2 H K) : ACalls tP zgU [t0, t1, t2] H K :=
 zao (M := zCN) Tryz.func64 (c := zCO) (by kernel_rfl) (fun hs => Eq.mpr (by kernel_rfl) (h hs))
def ziG : Nat → List Bool
 | 3 => rl false [1,1,1,2,16]
 | _ => []
noncomputable def zmE : Code := Tryz.f42.body.getD .skip
noncomputable def zBm : List ResultVar := Tryz.f42.results.toList
def ziH (t1 t3 t4 : AV) : List AV := ux 1 (t1 :: ux 1 (t3 :: t4 :: ux 16 []))
def zBk : List Bool := ziG 3
noncomputable def zBi : Code := zap [1, 1, 0, 1, 0, 0] zmE
def zBh (K : Kt) : AExit → List AV → zaa → Prop := zaq tP ziG [1, 1, 0, 1, 0] zmE (zax tP zBm K)
def zsh (t1 t3 t4 : AV) (H : zaa) (K : Kt) : Prop := ALoop tP zBi (zBh K) (ziH t1 t3 t4) H
def zmD (t1 t3 t4 : AV) (H : zaa) (K : Kt) (Kb3 : Lt) : Prop :=
 zaf 2 t1 fun t6 =>
 zad false 1 t6 H fun t7 =>
 zah 1 t7 fun t8 =>
 zac .lss false t4 t8 fun t9 =>
 zag t9
 (zaf 2 t1 fun t13 =>
 zad false 1 t13 H fun t14 =>
 zai 3 t14 t4 fun t16 =>
 zad true 3 t16 H fun t17 =>
 ACalls tP zfE [t17] H fun t18 H =>
 zac .add false t3 t18 fun t19 =>
 zac .add false t4 (.int .i64 1) fun t11 =>
 Kb3 (ziH t1 t19 t11) H)
 (K t3 H)
def zsg (t0 : AV) (H : zaa) (K : Kt) : Prop :=
 zas t0 H fun t1 H =>
 zsh t1 (.int .i64 1) (.int .i64 0) H K
theorem zBj {t1 t3 t4 : AV} {H : zaa} {K : Kt} (Inv : Nat → AV → AV → zaa → Prop) (n : Nat) (h0 : HSc H → Inv n t3 t4 H)
  (round : Rd2 (fun t3 => fun t4 => ziH t1 t3 t4) (fun t3 => fun t4 => fun H Kb3 => zmD t1 t3 t4 H K Kb3) H Inv) : zsh t1 t3 t4 H K :=
 lp2 (M := ziG) zBk t3 t4 (by kernel_rfl) Inv n h0 round
theorem zBl {t0 : AV} {H : zaa} {K : Kt} (h : HSc H → zsg t0 H K) : ACalls tP zfE [t0] H K :=
 zao (M := ziG) Tryz.func42 (c := zmE) (by kernel_rfl) (fun hs => Eq.mpr (by kernel_rfl) (h hs))
def zju : Nat → List Bool
 | 24 => rl false [0,1,1,1,1,1,2,2,103]
 | _ => []
noncomputable def zno : Code := Tryz.f86.body.getD .skip
noncomputable def zDZ : List ResultVar := Tryz.f86.results.toList
def zjv (t0 t2 t4 t7 t8 : AV) : List AV := t0 :: ux 1 (t2 :: ux 1 (t4 :: ux 2 (t7 :: t8 :: ux 103 [])))
def zDX : List Bool := zju 24
noncomputable def zDV : Code := zap [1, 1, 1, 0, 1, 0, 0] zno
def zDU (K : Kt) : AExit → List AV → zaa → Prop := zaq tP zju [1, 1, 1, 0, 1, 0] zno (zax tP zDZ K)
def znp (t0 t2 t4 t7 t8 : AV) (H : zaa) (K : Kt) : Prop := ALoop tP zDV (zDU K) (zjv t0 t2 t4 t7 t8) H
def znn (t0 t2 t4 t7 t8 : AV) (H : zaa) (K : Kt) (Kb24 : Lt) : Prop :=
 zac .lss false t8 t7 fun t100 =>
 zag t100
 (zaf 2 t4 fun t104 =>
 zad false 1 t104 H fun t105 =>
 zai 3 t105 t8 fun t107 =>
 zad true 3 t107 H fun t108 =>
 ACalls tP zg2 [t0, t108, t2] H fun t110 H =>
 aUn .not t110 fun t111 =>
 zag t111
 (K (.bool false) H)
 (zac .add false t8 (.int .i64 1) fun t102 =>
 Kb24 (zjv t0 t2 t4 t7 t102) H))
 (K (.bool true) H)
def zf8 (t0 t2 t4 t7 : AV) (H : zaa) (K : Kt) : Prop :=
 znp t0 t2 t4 t7 (.int .i64 0) H K
def zdL (t0 t2 t4 t7 : AV) (H : zaa) (K : Kt) : Prop :=
 zf8 t0 t2 t4 t7 H K
def zc3 (t0 t2 t4 t7 t13 t75 : AV) (H : zaa) (K : Kt) : Prop :=
 zag t75
 (zaf 1 t4 fun t78 =>
 zad false 1 t78 H fun t79 =>
 zac .neq false t79 (.int .i64 0) fun t80 =>
 zab t80 false H (fun K' => K' t7 H) fun t82 H =>
 zab t80 false H (fun K' => zac .neq false t82 (.int .i64 1) (K' · H)) fun t83 H =>
 zaj t80 (.bool true) t83 fun t84 =>
 zag t84
 (K (.bool false) H)
 (zdL t0 t2 t4 t7 H K))
 (zac .eql false t13 (.int .i64 9) fun t86 =>
 zag t86
 (zaf 1 t4 fun t87 =>
 zad false 1 t87 H fun t88 =>
 zac .neq false t88 (.int .i64 0) fun t89 =>
 zab t89 false H (fun K' => K' t7 H) fun t91 H =>
 zab t89 false H (fun K' => zac .lss false t91 (.int .i64 1) (K' · H)) fun t92 H =>
 zaj t89 (.bool true) t92 fun t93 =>
 zab t93 false H (fun K' => K' t7 H) fun t95 H =>
 zab t93 false H (fun K' => zac .gtr false t95 (.int .i64 7) (K' · H)) fun t96 H =>
 zaj t93 (.bool true) t96 fun t97 =>
 zag t97
 (K (.bool false) H)
 (zdL t0 t2 t4 t7 H K))
 (K (.bool false) H))
def zbl (t0 t2 t4 t7 t13 t14 : AV) (H : zaa) (K : Kt) : Prop :=
 zag t14
 (zaf 1 t4 fun t18 =>
 zad false 1 t18 H fun t19 =>
 zac .eql false t19 (.int .i64 0) fun t20 =>
 zab t20 true H (fun K' => K' t7 H) fun t22 H =>
 zab t20 true H (fun K' => zac .eql false t22 (.int .i64 0) (K' · H)) fun t23 H =>
 zaj t20 t23 (.bool false) fun t24 =>
 K t24 H)
 (zac .eql false t13 (.int .i64 4) fun t26 =>
 zag t26
 (zaf 1 t4 fun t27 =>
 zad false 1 t27 H fun t28 =>
 zac .geq false t28 (.int .i64 0) fun t29 =>
 zab t29 true H (fun K' => zaf 1 t4 (K' · H)) fun t31 H =>
 zab t29 true H (fun K' => zad false 1 t31 H (K' · H)) fun t32 H =>
 zab t29 true H (fun K' => K' t2 H) fun t33 H =>
 zab t29 true H (fun K' => zac .lss false t32 t33 (K' · H)) fun t34 H =>
 zaj t29 t34 (.bool false) fun t35 =>
 zab t35 true H (fun K' => K' t7 H) fun t37 H =>
 zab t35 true H (fun K' => zac .eql false t37 (.int .i64 0) (K' · H)) fun t38 H =>
 zaj t35 t38 (.bool false) fun t39 =>
 K t39 H)
 (zac .eql false t13 (.int .i64 5) fun t41 =>
 zag t41
 (zaf 1 t4 fun t42 =>
 zad false 1 t42 H fun t43 =>
 zac .lss false t43 (.int .i64 0) fun t44 =>
 zab t44 false H (fun K' => zaf 1 t4 (K' · H)) fun t46 H =>
 zab t44 false H (fun K' => zad false 1 t46 H (K' · H)) fun t47 H =>
 zab t44 false H (fun K' => K' t0 H) fun t48 H =>
 zab t44 false H (fun K' => zah 1 t48 (K' · H)) fun t49 H =>
 zab t44 false H (fun K' => zac .geq false t47 t49 (K' · H)) fun t50 H =>
 zaj t44 (.bool true) t50 fun t51 =>
 zab t51 false H (fun K' => K' t7 H) fun t53 H =>
 zab t51 false H (fun K' => K' t0 H) fun t54 H =>
 zab t51 false H (fun K' => zaf 1 t4 (K' · H)) fun t55 H =>
 zab t51 false H (fun K' => zad false 1 t55 H (K' · H)) fun t56 H =>
 zab t51 false H (fun K' => zai 3 t54 t56 (K' · H)) fun t57 H =>
 zab t51 false H (fun K' => zaf 1 t57 (K' · H)) fun t58 H =>
 zab t51 false H (fun K' => zad false 1 t58 H (K' · H)) fun t59 H =>
 zab t51 false H (fun K' => zac .neq false t53 t59 (K' · H)) fun t60 H =>
 zaj t51 (.bool true) t60 fun t61 =>
 zag t61
 (K (.bool false) H)
 (zdL t0 t2 t4 t7 H K))
 (zac .eql false t13 (.int .i64 6) fun t63 =>
 zag t63
 (zaf 1 t4 fun t64 =>
 zad false 1 t64 H fun t65 =>
 zac .neq false t65 (.int .i64 0) fun t66 =>
 zab t66 false H (fun K' => K' t7 H) fun t68 H =>
 zab t66 false H (fun K' => zac .lss false t68 (.int .i64 2) (K' · H)) fun t69 H =>
 zaj t66 (.bool true) t69 fun t70 =>
 zab t70 false H (fun K' => K' t7 H) fun t72 H =>
 zab t70 false H (fun K' => zac .gtr false t72 (.int .i64 6) (K' · H)) fun t73 H =>
 zaj t70 (.bool true) t73 fun t74 =>
 zag t74
 (K (.bool false) H)
 (zdL t0 t2 t4 t7 H K))
 (zac .eql false t13 (.int .i64 7) fun t76 =>
 zag t76
 (zc3 t0 t2 t4 t7 t13 t76 H K)
 (zac .eql false t13 (.int .i64 8) fun t77 =>
 zc3 t0 t2 t4 t7 t13 t77 H K)))))
def zbY (t0 t1 t2 : AV) (H : zaa) (K : Kt) : Prop :=
 zas t1 H fun t4 H =>
 zaf 2 t4 fun t9 =>
 zad false 1 t9 H fun t10 =>
 zah 1 t10 fun t11 =>
 zaf 0 t4 fun t12 =>
 zad false 1 t12 H fun t13 =>
 zac .eql false t13 (.int .i64 1) fun t15 =>
 zag t15
 (zbl t0 t2 t4 t11 t13 t15 H K)
 (zac .eql false t13 (.int .i64 2) fun t16 =>
 zag t16
 (zbl t0 t2 t4 t11 t13 t16 H K)
 (zac .eql false t13 (.int .i64 3) fun t17 =>
 zbl t0 t2 t4 t11 t13 t17 H K))
theorem zDW {t0 t2 t4 t7 t8 : AV} {H : zaa} {K : Kt} (Inv : Nat → AV → zaa → Prop) (n : Nat) (h0 : HSc H → Inv n t8 H)
  (round : Rd1 (fun t8 => zjv t0 t2 t4 t7 t8) (fun t8 => fun H Kb24 => znn t0 t2 t4 t7 t8 H K Kb24) H Inv) : znp t0 t2 t4 t7 t8 H K :=
 lp1 (M := zju) zDX t8 (by kernel_rfl) Inv n h0 round
theorem zDY {t0 t1 t2 : AV} {H : zaa} {K : Kt} (h : HSc H → zbY t0 t1 t2 H K) : ACalls tP zg2 [t0, t1, t2] H K :=
 zao (M := zju) Tryz.func86 (c := zno) (by kernel_rfl) (fun hs => Eq.mpr (by kernel_rfl) (h hs))
def zhU : Nat → List Bool
 | 5 => rl false [4,1,3,1,54,3,16]
 | _ => []
noncomputable def zlS : Code := Tryz.f15.body.getD .skip
noncomputable def zyK : List ResultVar := Tryz.f15.results.toList
def zhV (t4 t8 t63 t64 t65 : AV) : List AV := ux 4 (t4 :: ux 3 (t8 :: ux 54 (t63 :: t64 :: t65 :: ux 16 [])))
def zyI : List Bool := zhU 5
noncomputable def zyG : Code := zap [1, 1, 1, 0, 1, 0, 0] zlS
def zyF (K : Kt) : AExit → List AV → zaa → Prop := zaq tP zhU [1, 1, 1, 0, 1, 0] zlS (zax tP zyK K)
def zhW (t4 t8 t63 t64 t65 : AV) (H : zaa) (K : Kt) : Prop := ALoop tP zyG (zyF K) (zhV t4 t8 t63 t64 t65) H
def zlR (t4 t8 t63 t64 t65 : AV) (H : zaa) (K : Kt) (Kb5 : Lt) : Prop :=
 zac .lss false t65 t64 fun t66 =>
 zag t66
 (zai 3 t63 t65 fun t67 =>
 zad true 3 t67 H fun t68 =>
 zav [(.int .i64 0), (.int .i64 0), .snil] H fun t10 H =>
 zak 3 t10 t68 H fun H =>
 zad true 3 t10 H fun t69 =>
 zaf 2 t4 fun t70 =>
 zad false 1 t70 H fun t71 =>
 ACalls tP zgL [t69, t71] H fun t72 H =>
 zav [(.int .i64 0), (.int .i64 0), .snil] H fun t11 H =>
 zak 3 t11 t72 H fun H =>
 zad true 3 t11 H fun t73 =>
 ACalls tP zfE [t73] H fun t74 H =>
 zac .gtr false t74 (.int .i64 200) fun t75 =>
 zag t75
 (zau [.snil, (.bool false)] (K · H))
 (zad true 3 t11 H fun t77 =>
 zay 3 [(.int .i64 0), (.int .i64 0), .snil] 1 [(0, t77)] fun t78 =>
 zat zaQ 3 40 t8 t78 H fun t79 H =>
 zac .add false t65 (.int .i64 1) fun t80 =>
 Kb5 (zhV t4 t79 t63 t64 t80) H))
 (zau [t8, (.bool true)] (K · H))
def zri (t0 t1 t2 : AV) (H : zaa) (K : Kt) : Prop :=
 zas t1 H fun t4 H =>
 zae H (fun K' => zaf 0 t4 (K' · H)) fun t12 =>
 zae H (fun K' => zam false 1 t12 H (K' · H)) fun t13 =>
 zae H (fun K' => zac .neq false t13 (.int .i64 5) (K' · H)) fun t14 =>
 zae H (fun K' => K' t14 H) fun t15 =>
 zab t15 false H (fun K' => zae H (fun K'' => zaf 1 t4 (K'' · H)) (K' · H)) fun t16 H =>
 zab t15 false H (fun K' => zae H (fun K'' => zam false 1 t16 H (K'' · H)) (K' · H)) fun t17 H =>
 zab t15 false H (fun K' => zae H (fun K'' => zac .lss false t17 (.int .i64 0) (K'' · H)) (K' · H)) fun t18 H =>
 zae H (fun K' => zaj t15 (.bool true) t18 (K' · H)) fun t19 =>
 zae H (fun K' => K' t19 H) fun t20 =>
 zab t20 false H (fun K' => zae H (fun K'' => zaf 1 t4 (K'' · H)) (K' · H)) fun t21 H =>
 zab t20 false H (fun K' => zae H (fun K'' => zam false 1 t21 H (K'' · H)) (K' · H)) fun t22 H =>
 zab t20 false H (fun K' => zae H (fun K'' => K'' t0 H) (K' · H)) fun t23 H =>
 zab t20 false H (fun K' => zae H (fun K'' => zah 1 t23 (K'' · H)) (K' · H)) fun t24 H =>
 zab t20 false H (fun K' => zae H (fun K'' => zac .geq false t22 t24 (K'' · H)) (K' · H)) fun t25 H =>
 zae H (fun K' => zaj t20 (.bool true) t25 (K' · H)) fun t26 =>
 zae H (fun K' => K' t26 H) fun t27 =>
 zab t27 false H (fun K' => zae H (fun K'' => zaf 2 t4 (K'' · H)) (K' · H)) fun t28 H =>
 zab t27 false H (fun K' => zae H (fun K'' => zam false 1 t28 H (K'' · H)) (K' · H)) fun t29 H =>
 zab t27 false H (fun K' => zae H (fun K'' => zah 1 t29 (K'' · H)) (K' · H)) fun t30 H =>
 zab t27 false H (fun K' => zae H (fun K'' => K'' t0 H) (K' · H)) fun t31 H =>
 zab t27 false H (fun K' => zae H (fun K'' => zaf 1 t4 (K'' · H)) (K' · H)) fun t32 H =>
 zab t27 false H (fun K' => zae H (fun K'' => zam false 1 t32 H (K'' · H)) (K' · H)) fun t33 H =>
 zab t27 false H (fun K' => zae H (fun K'' => zai 3 t31 t33 (K'' · H)) (K' · H)) fun t34 H =>
 zab t27 false H (fun K' => zae H (fun K'' => zaf 1 t34 (K'' · H)) (K' · H)) fun t35 H =>
 zab t27 false H (fun K' => zae H (fun K'' => zam false 1 t35 H (K'' · H)) (K' · H)) fun t36 H =>
 zab t27 false H (fun K' => zae H (fun K'' => zac .neq false t30 t36 (K'' · H)) (K' · H)) fun t37 H =>
 zae H (fun K' => zaj t27 (.bool true) t37 (K' · H)) fun t38 =>
 zae H (fun K' => K' t38 H) fun t39 =>
 zab t39 false H (fun K' => zae H (fun K'' => K'' t2 H) (K' · H)) fun t40 H =>
 zab t39 false H (fun K' => zae H (fun K'' => zac .lss false t40 (.int .i64 0) (K'' · H)) (K' · H)) fun t41 H =>
 zae H (fun K' => zaj t39 (.bool true) t41 (K' · H)) fun t42 =>
 zae H (fun K' => K' t42 H) fun t43 =>
 zab t43 false H (fun K' => zae H (fun K'' => K'' t2 H) (K' · H)) fun t44 H =>
 zab t43 false H (fun K' => zae H (fun K'' => K'' t0 H) (K' · H)) fun t45 H =>
 zab t43 false H (fun K' => zae H (fun K'' => zaf 1 t4 (K'' · H)) (K' · H)) fun t46 H =>
 zab t43 false H (fun K' => zae H (fun K'' => zam false 1 t46 H (K'' · H)) (K' · H)) fun t47 H =>
 zab t43 false H (fun K' => zae H (fun K'' => zai 3 t45 t47 (K'' · H)) (K' · H)) fun t48 H =>
 zab t43 false H (fun K' => zae H (fun K'' => zaf 2 t48 (K'' · H)) (K' · H)) fun t49 H =>
 zab t43 false H (fun K' => zae H (fun K'' => zam false 1 t49 H (K'' · H)) (K' · H)) fun t50 H =>
 zab t43 false H (fun K' => zae H (fun K'' => zah 1 t50 (K'' · H)) (K' · H)) fun t51 H =>
 zab t43 false H (fun K' => zae H (fun K'' => zac .geq false t44 t51 (K'' · H)) (K' · H)) fun t52 H =>
 zae H (fun K' => zaj t43 (.bool true) t52 (K' · H)) fun t53 =>
 zag t53
 (zau [.snil, (.bool false)] (K · H))
 (zaf 1 t4 fun t55 =>
 zad false 1 t55 H fun t56 =>
 zai 3 t0 t56 fun t57 =>
 zaf 2 t57 fun t58 =>
 zad false 1 t58 H fun t59 =>
 zai 2 t59 t2 fun t61 =>
 zaf 1 t61 fun t62 =>
 zad false 1 t62 H fun t63 =>
 zah 1 t63 fun t64 =>
 zhW t4 .snil t63 t64 (.int .i64 0) H K)
theorem zyH {t4 t8 t63 t64 t65 : AV} {H : zaa} {K : Kt} (Inv : Nat → AV → AV → zaa → Prop) (n : Nat) (h0 : HSc H → Inv n t8 t65 H)
  (round : Rd2 (fun t8 => fun t65 => zhV t4 t8 t63 t64 t65) (fun t8 => fun t65 => fun H Kb5 => zlR t4 t8 t63 t64 t65 H K Kb5) H Inv) : zhW t4 t8 t63 t64 t65 H K :=
 lp2 (M := zhU) zyI t8 t65 (by kernel_rfl) Inv n h0 round
theorem zyJ {t0 t1 t2 : AV} {H : zaa} {K : Kt} (h : HSc H → zri t0 t1 t2 H K) : ACalls tP zfw [t0, t1, t2] H K :=
 zao (M := zhU) Tryz.func15 (c := zlS) (by kernel_rfl) (fun hs => Eq.mpr (by kernel_rfl) (h hs))
def ziE : Nat → List Bool
 | 5 => rl false [1,2,1,3,46]
 | _ => []
noncomputable def zmB : Code := Tryz.f41.body.getD .skip
noncomputable def zBf : List ResultVar := Tryz.f41.results.toList
def ziF (t1 t2 t4 t5 t6 : AV) : List AV := ux 1 (t1 :: t2 :: ux 1 (t4 :: t5 :: t6 :: ux 46 []))
def zBd : List Bool := ziE 5
noncomputable def zBb : Code := zap [1, 1, 1, 0, 1, 0, 0] zmB
def zBa (K : Kt) : AExit → List AV → zaa → Prop := zaq tP ziE [1, 1, 1, 0, 1, 0] zmB (zax tP zBf K)
def zmC (t1 t2 t4 t5 t6 : AV) (H : zaa) (K : Kt) : Prop := ALoop tP zBb (zBa K) (ziF t1 t2 t4 t5 t6) H
def zmA (t1 t2 t4 t5 t6 : AV) (H : zaa) (K : Kt) (Kb5 : Lt) : Prop :=
 zaf 2 t2 fun t34 =>
 zad false 1 t34 H fun t35 =>
 zah 1 t35 fun t36 =>
 zac .lss false t6 t36 fun t37 =>
 zag t37
 (zae H (fun K' => zaf 2 t5 (K' · H)) fun t40 =>
 zae H (fun K' => zam false 1 t40 H (K' · H)) fun t41 =>
 zae H (fun K' => zaf 2 t2 (K' · H)) fun t42 =>
 zae H (fun K' => zam false 1 t42 H (K' · H)) fun t43 =>
 zae H (fun K' => K' t6 H) fun t44 =>
 zae H (fun K' => zai 3 t43 t44 (K' · H)) fun t45 =>
 zae H (fun K' => zam true 3 t45 H (K' · H)) fun t46 =>
 zae H (fun K' => K' t1 H) fun t47 =>
 zbq H (fun H K' => ACalls tP zgL [t46, t47] H K') fun t48 =>
 zae H (fun K' => zay 3 [(.int .i64 0), (.int .i64 0), .snil] 1 [(0, t48)] (K' · H)) fun t49 =>
 zat zaQ 3 40 t41 t49 H fun t50 H =>
 zae H (fun K' => zaf 2 t5 (K' · H)) fun t51 =>
 zak 1 t51 t50 H fun H =>
 zac .add false t6 (.int .i64 1) fun t39 =>
 Kb5 (ziF t1 t2 t4 t5 t39) H)
 (zad true 3 t5 H fun t52 =>
 zak 3 t4 t52 H fun H =>
 zad true 3 t4 H fun r0 =>
 K r0 H)
def zmz (t0 t1 : AV) (H : zaa) (K : Kt) : Prop :=
 zas t0 H fun t2 H =>
 zav [(.int .i64 0), (.int .i64 0), .snil] H fun t4 H =>
 zaf 0 t2 fun t7 =>
 zad false 1 t7 H fun t8 =>
 zac .eql false t8 (.int .i64 4) fun t9 =>
 zab t9 true H (fun K' => zaf 1 t2 (K' · H)) fun t11 H =>
 zab t9 true H (fun K' => zad false 1 t11 H (K' · H)) fun t12 H =>
 zab t9 true H (fun K' => zac .geq false t12 (.int .i64 0) (K' · H)) fun t13 H =>
 zaj t9 t13 (.bool false) fun t14 =>
 zab t14 true H (fun K' => zaf 1 t2 (K' · H)) fun t16 H =>
 zab t14 true H (fun K' => zad false 1 t16 H (K' · H)) fun t17 H =>
 zab t14 true H (fun K' => K' t1 H) fun t18 H =>
 zab t14 true H (fun K' => zah 1 t18 (K' · H)) fun t19 H =>
 zab t14 true H (fun K' => zac .lss false t17 t19 (K' · H)) fun t20 H =>
 zaj t14 t20 (.bool false) fun t21 =>
 zag t21
 (zaf 1 t2 fun t23 =>
 zad false 1 t23 H fun t24 =>
 zai 3 t1 t24 fun t25 =>
 zad true 3 t25 H fun t26 =>
 ACalls tP zgW [t26] H fun t27 H =>
 zak 3 t4 t27 H fun H =>
 zad true 3 t4 H fun r0 =>
 K r0 H)
 (zaf 0 t2 fun t28 =>
 zad false 1 t28 H fun t29 =>
 zaf 1 t2 fun t30 =>
 zad false 1 t30 H fun t31 =>
 zal [(.int .i64 0), (.int .i64 0), .snil] [(0, 1), (1, 1), (2, 1)] [(0, t29), (1, t31)] fun t32 =>
 zav [(.int .i64 0), (.int .i64 0), .snil] H fun t5 H =>
 zak 3 t5 t32 H fun H =>
 zmC t1 t2 t4 t5 (.int .i64 0) H K)
theorem zBc {t1 t2 t4 t5 t6 : AV} {H : zaa} {K : Kt} (Inv : Nat → AV → zaa → Prop) (n : Nat) (h0 : HSc H → Inv n t6 H)
  (round : Rd1 (fun t6 => ziF t1 t2 t4 t5 t6) (fun t6 => fun H Kb5 => zmA t1 t2 t4 t5 t6 H K Kb5) H Inv) : zmC t1 t2 t4 t5 t6 H K :=
 lp1 (M := ziE) zBd t6 (by kernel_rfl) Inv n h0 round
theorem zBe {t0 t1 : AV} {H : zaa} {K : Kt} (h : HSc H → zmz t0 t1 H K) : ACalls tP zgL [t0, t1] H K :=
 zao (M := ziE) Tryz.func41 (c := zmB) (by kernel_rfl) (fun hs => Eq.mpr (by kernel_rfl) (h hs))
def zjh : Nat → List Bool
 | 3 => rl false [1,4,24]
 | _ => []
noncomputable def zne : Code := Tryz.f67.body.getD .skip
noncomputable def zC8 : List ResultVar := Tryz.f67.results.toList
def zji (t1 t2 t3 t4 : AV) : List AV := ux 1 (t1 :: t2 :: t3 :: t4 :: ux 24 [])
def zC6 : List Bool := zjh 3
noncomputable def zC4 : Code := zap [1, 1, 0, 1, 0, 0] zne
def zC3 (K : Kt) : AExit → List AV → zaa → Prop := zaq tP zjh [1, 1, 0, 1, 0] zne (zax tP zC8 K)
def zsP (t1 t2 t3 t4 : AV) (H : zaa) (K : Kt) : Prop := ALoop tP zC4 (zC3 K) (zji t1 t2 t3 t4) H
def znd (t1 t2 t3 t4 : AV) (H : zaa) (K : Kt) (Kb3 : Lt) : Prop :=
 zaf 2 t1 fun t11 =>
 zad false 1 t11 H fun t12 =>
 zah 1 t12 fun t13 =>
 zac .lss false t4 t13 fun t14 =>
 zag t14
 (zae H (fun K' => zaf 2 t3 (K' · H)) fun t17 =>
 zae H (fun K' => zam false 1 t17 H (K' · H)) fun t18 =>
 zae H (fun K' => zaf 2 t1 (K' · H)) fun t19 =>
 zae H (fun K' => zam false 1 t19 H (K' · H)) fun t20 =>
 zae H (fun K' => K' t4 H) fun t21 =>
 zae H (fun K' => zai 3 t20 t21 (K' · H)) fun t22 =>
 zae H (fun K' => zam true 3 t22 H (K' · H)) fun t23 =>
 zbq H (fun H K' => ACalls tP zgW [t23] H K') fun t24 =>
 zae H (fun K' => zay 3 [(.int .i64 0), (.int .i64 0), .snil] 1 [(0, t24)] (K' · H)) fun t25 =>
 zat zaQ 3 40 t18 t25 H fun t26 H =>
 zae H (fun K' => zaf 2 t3 (K' · H)) fun t27 =>
 zak 1 t27 t26 H fun H =>
 zac .add false t4 (.int .i64 1) fun t16 =>
 Kb3 (zji t1 t2 t3 t16) H)
 (zad true 3 t3 H fun t28 =>
 zak 3 t2 t28 H fun H =>
 zad true 3 t2 H fun r0 =>
 K r0 H)
def zsO (t0 : AV) (H : zaa) (K : Kt) : Prop :=
 zas t0 H fun t1 H =>
 zav [(.int .i64 0), (.int .i64 0), .snil] H fun t2 H =>
 zaf 0 t1 fun t5 =>
 zad false 1 t5 H fun t6 =>
 zaf 1 t1 fun t7 =>
 zad false 1 t7 H fun t8 =>
 zal [(.int .i64 0), (.int .i64 0), .snil] [(0, 1), (1, 1), (2, 1)] [(0, t6), (1, t8)] fun t9 =>
 zav [(.int .i64 0), (.int .i64 0), .snil] H fun t3 H =>
 zak 3 t3 t9 H fun H =>
 zsP t1 t2 t3 (.int .i64 0) H K
theorem zC5 {t1 t2 t3 t4 : AV} {H : zaa} {K : Kt} (Inv : Nat → AV → zaa → Prop) (n : Nat) (h0 : HSc H → Inv n t4 H)
  (round : Rd1 (fun t4 => zji t1 t2 t3 t4) (fun t4 => fun H Kb3 => znd t1 t2 t3 t4 H K Kb3) H Inv) : zsP t1 t2 t3 t4 H K :=
 lp1 (M := zjh) zC6 t4 (by kernel_rfl) Inv n h0 round
theorem zC7 {t0 : AV} {H : zaa} {K : Kt} (h : HSc H → zsO t0 H K) : ACalls tP zgW [t0] H K :=
 zao (M := zjh) Tryz.func67 (c := zne) (by kernel_rfl) (fun hs => Eq.mpr (by kernel_rfl) (h hs))
def zei : Nat → List Bool
 | 6 => rl false [0,2,6,1,38,3,56]
 | 10 => rl false [0,2,6,2,37,3,28,3,25]
 | _ => []
noncomputable def zmT : Code := Tryz.f53.body.getD .skip
noncomputable def zCe : List ResultVar := Tryz.f53.results.toList
def ziW (t0 t1 t8 t47 t48 t49 : AV) : List AV := t0 :: t1 :: ux 6 (t8 :: ux 38 (t47 :: t48 :: t49 :: ux 56 []))
def zsw : List Bool := zei 6
noncomputable def zmU : Code := zap [1, 1, 1, 1, 0, 1, 0, 0] zmT
def zsu (K : Kt) : AExit → List AV → zaa → Prop := zaq tP zei [1, 1, 1, 1, 0, 1, 0] zmT (zax tP zCe K)
def zsv (t0 t1 t8 t47 t48 t49 : AV) (H : zaa) (K : Kt) : Prop := ALoop tP zmU (zsu K) (ziW t0 t1 t8 t47 t48 t49) H
def ziV (t0 t1 t8 t9 t47 t48 t49 t78 t79 t80 : AV) : List AV := t0 :: t1 :: ux 6 (t8 :: t9 :: ux 37 (t47 :: t48 :: t49 :: ux 28 (t78 :: t79 :: t80 :: ux 25 [])))
def zCc : List Bool := zei 10
noncomputable def zB9 : Code := zap [1, 1, 0, 0, 1, 1, 1, 0, 0] zmU
def zB8 (K : Kt) (Kb6 : Lt) : AExit → List AV → zaa → Prop := zaq tP zei [1, 1, 0, 0, 1, 1, 1, 0] zmU (zbH zsw Kb6 (zsu K))
def zmW (t0 t1 t8 t9 t47 t48 t49 t78 t79 t80 : AV) (H : zaa) (K : Kt) (Kb6 : Lt) : Prop := ALoop tP zB9 (zB8 K Kb6) (ziV t0 t1 t8 t9 t47 t48 t49 t78 t79 t80) H
def zmV (t0 t1 t8 t9 t47 t48 t49 t78 t79 t80 : AV) (H : zaa) (K : Kt) (Kb6 : Lt) (Kb10 : Lt) : Prop :=
 zac .add false t80 (.int .i64 1) fun t103 =>
 Kb10 (ziV t0 t1 t8 t9 t47 t48 t49 t78 t79 t103) H
def ze1 (t0 t1 t8 t9 t47 t48 t49 t78 t79 t80 : AV) (H : zaa) (K : Kt) (Kb6 : Lt) (Kb10 : Lt) : Prop :=
 zmV t0 t1 t8 t9 t47 t48 t49 t78 t79 t80 H K Kb6 Kb10
def ze0 (t0 t1 t8 t9 t47 t48 t49 t78 t79 t80 : AV) (H : zaa) (K : Kt) (Kb6 : Lt) (Kb10 : Lt) : Prop :=
 zac .lss false t80 t79 fun t81 =>
 zag t81
 (zai 3 t78 t80 fun t83 =>
 zad true 3 t83 H fun t84 =>
 zav [(.int .i64 0), (.int .i64 0), .snil] H fun t12 H =>
 zak 3 t12 t84 H fun H =>
 zaf 0 t12 fun t85 =>
 zad false 1 t85 H fun t86 =>
 zac .neq false t86 (.int .i64 4) fun t87 =>
 zab t87 false H (fun K' => zaf 1 t12 (K' · H)) fun t89 H =>
 zab t87 false H (fun K' => zad false 1 t89 H (K' · H)) fun t90 H =>
 zab t87 false H (fun K' => K' t80 H) fun t91 H =>
 zab t87 false H (fun K' => zac .neq false t90 t91 (K' · H)) fun t92 H =>
 zaj t87 (.bool true) t92 fun t93 =>
 zab t93 false H (fun K' => zaf 2 t12 (K' · H)) fun t95 H =>
 zab t93 false H (fun K' => zad false 1 t95 H (K' · H)) fun t96 H =>
 zab t93 false H (fun K' => zah 1 t96 (K' · H)) fun t97 H =>
 zab t93 false H (fun K' => zac .gtr false t97 (.int .i64 0) (K' · H)) fun t98 H =>
 zaj t93 (.bool true) t98 fun t99 =>
 zag t99
 (zai 1 t8 t9 fun t102 =>
 zak 1 t102 (.bool false) H fun H =>
 ze1 t0 t1 t8 t9 t47 t48 t49 t78 t79 t80 H K Kb6 Kb10)
 (ze1 t0 t1 t8 t9 t47 t48 t49 t78 t79 t80 H K Kb6 Kb10))
 (zac .add false t49 (.int .i64 1) fun t104 =>
 Kb6 (ziW t0 t1 t8 t47 t48 t104) H)
def zf6 (t0 t1 t8 t47 t48 t49 : AV) (H : zaa) (K : Kt) (Kb6 : Lt) : Prop :=
 zac .lss false t49 t48 fun t50 =>
 zag t50
 (zai 3 t47 t49 fun t52 =>
 zad true 3 t52 H fun t53 =>
 zav [(.int .i64 0), (.int .i64 0), .snil] H fun t10 H =>
 zak 3 t10 t53 H fun H =>
 zae H (fun K' => K' t8 H) fun t54 =>
 zae H (fun K' => K' t49 H) fun t55 =>
 zae H (fun K' => zaf 0 t10 (K' · H)) fun t56 =>
 zae H (fun K' => zam false 1 t56 H (K' · H)) fun t57 =>
 zae H (fun K' => zac .eql false t57 (.int .i64 5) (K' · H)) fun t58 =>
 zae H (fun K' => K' t58 H) fun t59 =>
 zab t59 true H (fun K' => zae H (fun K'' => zaf 1 t10 (K'' · H)) (K' · H)) fun t60 H =>
 zab t59 true H (fun K' => zae H (fun K'' => zam false 1 t60 H (K'' · H)) (K' · H)) fun t61 H =>
 zab t59 true H (fun K' => zae H (fun K'' => K'' t1 H) (K' · H)) fun t62 H =>
 zab t59 true H (fun K' => zae H (fun K'' => zac .eql false t61 t62 (K'' · H)) (K' · H)) fun t63 H =>
 zae H (fun K' => zaj t59 t63 (.bool false) (K' · H)) fun t64 =>
 zae H (fun K' => K' t64 H) fun t65 =>
 zab t65 true H (fun K' => zae H (fun K'' => zaf 2 t10 (K'' · H)) (K' · H)) fun t66 H =>
 zab t65 true H (fun K' => zae H (fun K'' => zam false 1 t66 H (K'' · H)) (K' · H)) fun t67 H =>
 zab t65 true H (fun K' => zae H (fun K'' => zah 1 t67 (K'' · H)) (K' · H)) fun t68 H =>
 zab t65 true H (fun K' => zae H (fun K'' => K'' t0 H) (K' · H)) fun t69 H =>
 zab t65 true H (fun K' => zae H (fun K'' => K'' t1 H) (K' · H)) fun t70 H =>
 zab t65 true H (fun K' => zae H (fun K'' => zai 3 t69 t70 (K'' · H)) (K' · H)) fun t71 H =>
 zab t65 true H (fun K' => zae H (fun K'' => zaf 1 t71 (K'' · H)) (K' · H)) fun t72 H =>
 zab t65 true H (fun K' => zae H (fun K'' => zam false 1 t72 H (K'' · H)) (K' · H)) fun t73 H =>
 zab t65 true H (fun K' => zae H (fun K'' => zac .eql false t68 t73 (K'' · H)) (K' · H)) fun t74 H =>
 zae H (fun K' => zaj t65 t74 (.bool false) (K' · H)) fun t75 =>
 zae H (fun K' => zai 1 t54 t55 (K' · H)) fun t76 =>
 zak 1 t76 t75 H fun H =>
 zaf 2 t10 fun t77 =>
 zad false 1 t77 H fun t78 =>
 zah 1 t78 fun t79 =>
 zmW t0 t1 t8 t49 t47 t48 t49 t78 t79 (.int .i64 0) H K Kb6)
 (K t8 H)
def zst (t0 t1 t2 : AV) (H : zaa) (K : Kt) : Prop :=
 zac .lss false t1 (.int .i64 0) fun t14 =>
 zab t14 false H (fun K' => K' t1 H) fun t16 H =>
 zab t14 false H (fun K' => K' t0 H) fun t17 H =>
 zab t14 false H (fun K' => zah 1 t17 (K' · H)) fun t18 H =>
 zab t14 false H (fun K' => zac .geq false t16 t18 (K' · H)) fun t19 H =>
 zaj t14 (.bool true) t19 fun t20 =>
 zab t20 false H (fun K' => K' t2 H) fun t22 H =>
 zab t20 false H (fun K' => zac .lss false t22 (.int .i64 0) (K' · H)) fun t23 H =>
 zaj t20 (.bool true) t23 fun t24 =>
 zab t24 false H (fun K' => K' t2 H) fun t26 H =>
 zab t24 false H (fun K' => K' t0 H) fun t27 H =>
 zab t24 false H (fun K' => K' t1 H) fun t28 H =>
 zab t24 false H (fun K' => zai 3 t27 t28 (K' · H)) fun t29 H =>
 zab t24 false H (fun K' => zaf 2 t29 (K' · H)) fun t30 H =>
 zab t24 false H (fun K' => zad false 1 t30 H (K' · H)) fun t31 H =>
 zab t24 false H (fun K' => zah 1 t31 (K' · H)) fun t32 H =>
 zab t24 false H (fun K' => zac .geq false t26 t32 (K' · H)) fun t33 H =>
 zaj t24 (.bool true) t33 fun t34 =>
 zag t34
 (K .snil H)
 (zai 3 t0 t1 fun t37 =>
 zaf 2 t37 fun t38 =>
 zad false 1 t38 H fun t39 =>
 zai 2 t39 t2 fun t41 =>
 zaf 1 t41 fun t42 =>
 zad false 1 t42 H fun t43 =>
 zah 1 t43 fun t45 =>
 zbw 1 [(.bool false)] t45 t45 H fun t46 H =>
 zah 1 t43 fun t48 =>
 zsv t0 t1 t46 t43 t48 (.int .i64 0) H K)
theorem zCa {t0 t1 t8 t9 t47 t48 t49 t78 t79 t80 : AV} {H : zaa} {K : Kt} {Kb6 : Lt} (Inv : Nat → AV → zaa → Prop) (n : Nat) (h0 : HSc H → Inv n t80 H)
  (round : Rd1 (fun t80 => ziV t0 t1 t8 t9 t47 t48 t49 t78 t79 t80) (fun t80 => fun H Kb10 => ze0 t0 t1 t8 t9 t47 t48 t49 t78 t79 t80 H K Kb6 Kb10) H Inv) : zmW t0 t1 t8 t9 t47 t48 t49 t78 t79 t80 H K Kb6 :=
 lp1 (M := zei) zCc t80 (by kernel_rfl) Inv n h0 round
theorem zCb {t0 t1 t8 t47 t48 t49 : AV} {H : zaa} {K : Kt} (Inv : Nat → AV → zaa → Prop) (n : Nat) (h0 : HSc H → Inv n t49 H)
  (round : Rd1 (fun t49 => ziW t0 t1 t8 t47 t48 t49) (fun t49 => fun H Kb6 => zf6 t0 t1 t8 t47 t48 t49 H K Kb6) H Inv) : zsv t0 t1 t8 t47 t48 t49 H K :=
 lp1 (M := zei) zsw t49 (by kernel_rfl) Inv n h0 round
theorem zCd {t0 t1 t2 : AV} {H : zaa} {K : Kt} (h : HSc H → zst t0 t1 t2 H K) : ACalls tP zcD [t0, t1, t2] H K :=
 zao (M := zei) Tryz.func53 (c := zmT) (by kernel_rfl) (fun hs => Eq.mpr (by kernel_rfl) (h hs))
def zyf (_ : Nat) : List Bool := []
noncomputable def zyg : Code := Tryz.f123.body.getD .skip
def zrf (t0 t1 : AV) (H : zaa) (K : Kt) : Prop :=
 zas t0 H fun t2 H =>
 zas t1 H fun t3 H =>
 zaf 0 t2 fun t5 =>
 zad false 1 t5 H fun t6 =>
 zac .eql false t6 (.int .i64 5) fun t7 =>
 zab t7 true H (fun K' => zaf 1 t2 (K' · H)) fun t9 H =>
 zab t7 true H (fun K' => zad false 1 t9 H (K' · H)) fun t10 H =>
 zab t7 true H (fun K' => zad false 1 t3 H (K' · H)) fun t11 H =>
 zab t7 true H (fun K' => zac .eql false t10 t11 (K' · H)) fun t12 H =>
 zaj t7 t12 (.bool false) fun t13 =>
 zab t13 false H (fun K' => zaf 2 t2 (K' · H)) fun t15 H =>
 zab t13 false H (fun K' => zad false 1 t15 H (K' · H)) fun t16 H =>
 zab t13 false H (fun K' => zbZ zgB [t3] (K' · H)) fun t17 H =>
 zab t13 false H (fun K' => ACalls tP zd0 [t16, t17] H K') fun t18 H =>
 zaj t13 (.bool true) t18 fun t19 =>
 K t19 H
theorem zyh {t0 t1 : AV} {H : zaa} {K : Kt} (h : HSc H → zrf t0 t1 H K) : ACalls tP zgA [t0, t1] H K :=
 zao (M := zyf) Tryz.func123 (c := zyg) (by kernel_rfl) (fun hs => Eq.mpr (by kernel_rfl) (h hs))
def zyz (_ : Nat) : List Bool := []
noncomputable def zyA : Code := Tryz.f137.body.getD .skip
def zrl (t0 t1 : AV) (H : zaa) (K : Kt) : Prop :=
 zas t0 H fun t2 H =>
 zad true 3 t2 H fun t4 =>
 zad false 1 t1 H fun t5 =>
 ACalls tP zgA [t4, t5] H fun t6 H =>
 K t6 H
theorem zyB {t0 t1 : AV} {H : zaa} {K : Kt} (h : HSc H → zrl t0 t1 H K) : ACalls tP zgB [t0, t1] H K :=
 zao (M := zyz) Tryz.func137 (c := zyA) (by kernel_rfl) (fun hs => Eq.mpr (by kernel_rfl) (h hs))
def zjq : Nat → List Bool
 | 4 => rl false [3,1,3,1,50]
 | _ => []
noncomputable def zni : Code := Tryz.f84.body.getD .skip
noncomputable def zDL : List ResultVar := Tryz.f84.results.toList
def zjr (t3 t7 : AV) : List AV := ux 3 (t3 :: ux 3 (t7 :: ux 50 []))
def zDJ : List Bool := zjq 4
noncomputable def zDH : Code := zap [1, 1, 0, 1, 0, 0] zni
def zDG (K : Kt) : AExit → List AV → zaa → Prop := zaq tP zjq [1, 1, 0, 1, 0] zni (zax tP zDL K)
def zs1 (t3 t7 : AV) (H : zaa) (K : Kt) : Prop := ALoop tP zDH (zDG K) (zjr t3 t7) H
def ze2 (t3 t7 : AV) (H : zaa) (K : Kt) (Kb4 : Lt) : Prop :=
 zaf 2 t3 fun t25 =>
 zad false 1 t25 H fun t26 =>
 zah 1 t26 fun t27 =>
 zac .lss false t7 t27 fun t28 =>
 zag t28
 (zaf 2 t3 fun t31 =>
 zad false 1 t31 H fun t32 =>
 zai 3 t32 t7 fun t34 =>
 zaf 0 t34 fun t35 =>
 zad false 1 t35 H fun t36 =>
 zac .neq false t36 (.int .i64 4) fun t37 =>
 zab t37 false H (fun K' => zaf 2 t3 (K' · H)) fun t39 H =>
 zab t37 false H (fun K' => zad false 1 t39 H (K' · H)) fun t40 H =>
 zab t37 false H (fun K' => K' t7 H) fun t41 H =>
 zab t37 false H (fun K' => zai 3 t40 t41 (K' · H)) fun t42 H =>
 zab t37 false H (fun K' => zaf 1 t42 (K' · H)) fun t43 H =>
 zab t37 false H (fun K' => zad false 1 t43 H (K' · H)) fun t44 H =>
 zab t37 false H (fun K' => K' t7 H) fun t45 H =>
 zab t37 false H (fun K' => zac .neq false t44 t45 (K' · H)) fun t46 H =>
 zaj t37 (.bool true) t46 fun t47 =>
 zab t47 false H (fun K' => zaf 2 t3 (K' · H)) fun t49 H =>
 zab t47 false H (fun K' => zad false 1 t49 H (K' · H)) fun t50 H =>
 zab t47 false H (fun K' => K' t7 H) fun t51 H =>
 zab t47 false H (fun K' => zai 3 t50 t51 (K' · H)) fun t52 H =>
 zab t47 false H (fun K' => zaf 2 t52 (K' · H)) fun t53 H =>
 zab t47 false H (fun K' => zad false 1 t53 H (K' · H)) fun t54 H =>
 zab t47 false H (fun K' => zah 1 t54 (K' · H)) fun t55 H =>
 zab t47 false H (fun K' => zac .gtr false t55 (.int .i64 0) (K' · H)) fun t56 H =>
 zaj t47 (.bool true) t56 fun t57 =>
 zag t57
 (K (.bool false) H)
 (zac .add false t7 (.int .i64 1) fun t30 =>
 Kb4 (zjr t3 t30) H))
 (K (.bool true) H)
def zs0 (t0 t1 t2 : AV) (H : zaa) (K : Kt) : Prop :=
 zas t0 H fun t3 H =>
 zaf 0 t3 fun t8 =>
 zad false 1 t8 H fun t9 =>
 zac .neq false t9 (.int .i64 5) fun t10 =>
 zab t10 false H (fun K' => zaf 1 t3 (K' · H)) fun t12 H =>
 zab t10 false H (fun K' => zad false 1 t12 H (K' · H)) fun t13 H =>
 zab t10 false H (fun K' => K' t1 H) fun t14 H =>
 zab t10 false H (fun K' => zac .neq false t13 t14 (K' · H)) fun t15 H =>
 zaj t10 (.bool true) t15 fun t16 =>
 zab t16 false H (fun K' => zaf 2 t3 (K' · H)) fun t18 H =>
 zab t16 false H (fun K' => zad false 1 t18 H (K' · H)) fun t19 H =>
 zab t16 false H (fun K' => zah 1 t19 (K' · H)) fun t20 H =>
 zab t16 false H (fun K' => K' t2 H) fun t21 H =>
 zab t16 false H (fun K' => zac .neq false t20 t21 (K' · H)) fun t22 H =>
 zaj t16 (.bool true) t22 fun t23 =>
 zag t23
 (K (.bool false) H)
 (zs1 t3 (.int .i64 0) H K)
theorem zDI {t3 t7 : AV} {H : zaa} {K : Kt} (Inv : Nat → AV → zaa → Prop) (n : Nat) (h0 : HSc H → Inv n t7 H)
  (round : Rd1 (fun t7 => zjr t3 t7) (fun t7 => fun H Kb4 => ze2 t3 t7 H K Kb4) H Inv) : zs1 t3 t7 H K :=
 lp1 (M := zjq) zDJ t7 (by kernel_rfl) Inv n h0 round
theorem zDK {t0 t1 t2 : AV} {H : zaa} {K : Kt} (h : HSc H → zs0 t0 t1 t2 H K) : ACalls tP zg1 [t0, t1, t2] H K :=
 zao (M := zjq) Tryz.func84 (c := zni) (by kernel_rfl) (fun hs => Eq.mpr (by kernel_rfl) (h hs))
end Go.Proofs.YtacebbdfgbfgiaaGreat

namespace Go.Proofs.YtacebbdfgbfgiaaGreat
open Go Go.Abs
set_option maxRecDepth 8000
theorem zsp : ∀ (m : Nat) (v : VT), v.nodes ≤ m → ∀ (left : Int), left ≤ 1000000 → -1 ≤ left → ∀ (H : zaa) (id : Nat), H[id]? = some (.cells [.int .i64 left]) → ∀ (K : AV → zaa → Prop),
  ((v.nodes : Int) ≤ left → K (.bool true) (H.set id (.cells [.int .i64 (left - v.nodes)]))) → (¬ (v.nodes : Int) ≤ left → ∀ l', K (.bool false) (H.set id (.cells [.int .i64 l']))) →
  ACalls tP zfF [.agg v.cs, .ptr id 0] H K := by
 intro m
 induction m with
 | zero => intro v h; have := v.nodes_pos; omega
 | succ m ih =>
  intro v hv left hl1 hl0 H id hid K hK hF
  obtain ⟨k, n, ks⟩ := v
  have hlt := zey hid
  have hnn : (VT.mk k n ks).nodes = VT.nodesL ks + 1 := by simp [VT.nodes]
  refine ACalls.out (zBF fun hs => ?_)
  have hget : (H ++ [AB.cells [.int .i64 k, .int .i64 n, .sl (VT.css ks) .none]])[id]? = some (.cells [.int .i64 left]) := zcA hid
  have bad : (¬ ((VT.mk k n ks).nodes : Int) ≤ left) → ∀ l' H', H' = H.set id (.cells [.int .i64 l']) ++ [.cells [.int .i64 k, .int .i64 n, .sl (VT.css ks) .none]] → Out H.length K (.bool false) H' := by
   intro h l' H' he
   exact Out.bool he (by simp) (hs.set rfl) (hF h l')
  simp [zsn, VT.cs, hget, AV.known]
  rw [zan (by omega) (by omega), zc5 _ hid, zcA (zcw _ hid)]
  by_cases h0 : left - 1 < 0
  ·simp [h0]
   exact bad (by omega) _ _ rfl
  ·simp [h0]
   refine zBD (Inv := fun q t5 H' => ∃ i : Nat, i ≤ ks.length ∧ q = ks.length - i ∧ t5 = .int .i64 i ∧ ((VT.nodesL (ks.take i) : Int) + 1 ≤ left) ∧ H' = H.set id (.cells [.int .i64 (left - 1 - VT.nodesL (ks.take i))]) ++ [.cells [.int .i64 k, .int .i64 n, .sl (VT.css ks) .none]]) ks.length ?_ ?_
   ·intro _; exact ⟨0, by omega, by omega, rfl, by simp [VT.nodesL]; omega, by simp [VT.nodesL]⟩
   ·rintro q t5 H' ⟨i, hi, rfl, rfl, hb, rfl⟩ hsc hlen hsF Kb hKb
    by_cases hil : i < ks.length
    ·have hki := VT.kid_lt (k := k) (n := n) hil
     have h1 := VT.nodesL_take hil
     have h2 := VT.nodesL_take_le ks (i + 1)
     have hll := VT.len_le (ks.take i)
     simp only [List.length_take] at hll
     have hge : (H.set id (.cells [.int .i64 (left - 1 - VT.nodesL (ks.take i))]) ++ [AB.cells [.int .i64 k, .int .i64 n, .sl (VT.css ks) .none]])[id]? = some (.cells [.int .i64 (left - 1 - VT.nodesL (ks.take i))]) := zcA (zcw _ hid)
     simp [zmH, hil]
     refine ih ks[i] (by omega) (left - 1 - VT.nodesL (ks.take i)) (by omega) (by omega) _ id hge _ ?_ ?_
     ·intro hle
      rw [zc5 _ (zcw _ hid), List.set_set]
      simp
      rw [zan (by omega) (by omega)]
      refine hKb _ _ ⟨ks.length - (i + 1), by omega, Back.here (by simp) ((hs.set rfl).snoc rfl) ?_ ⟨_, rfl, i + 1, by omega, rfl, by simp, by omega, ?_⟩⟩
      ·simp [ziM, AV.sc, AV.scV, AV.scA, AV.scB]; omega
      ·rw [h1]; congr 5; omega
     ·intro hle l'
      rw [zc5 _ (zcw _ hid), List.set_set]
      simp
      exact bad (by omega) _ _ rfl
    ·obtain rfl : i = ks.length := by omega
     rw [List.take_length] at hb ⊢
     simp [zmH]
     refine Out.bool rfl (by simp) (hs.set rfl) ?_
     have := hK (by omega)
     rw [hnn] at this
     rw [show left - 1 - (VT.nodesL ks : Int) = left - ((VT.nodesL ks + 1 : Nat) : Int) by omega]
     exact this
theorem zz2 (v : VT) (H : zaa) (K : AV → zaa → Prop) (hK : ∀ b, (b = true → v.nodes ≤ 250) → K (.bool b) H) : ACalls tP zkD [.agg v.cs] H K := by
 refine ACalls.out (zz1 fun hs => ?_)
 simp [zrP, AV.known]
 refine zsp _ v (Nat.le_refl _) 250 (by omega) (by omega) _ (H.length + 1) (by simp) _ ?_ ?_
 ·intro h
  exact Out.bool (J := [_, _]) (by simp; exact ⟨rfl, rfl⟩) (Nat.le_refl _) hs (hK true fun _ => by omega)
 ·intro h l'
  exact Out.bool (J := [_, _]) (by simp; exact ⟨rfl, rfl⟩) (Nat.le_refl _) hs (hK false fun h => by cases h)
end Go.Proofs.YtacebbdfgbfgiaaGreat
namespace Go.Proofs.YtacebbdfgbfgiaaGreat
open Go Go.Abs
set_option maxRecDepth 8000
theorem zsi : ∀ (m : Nat) (v : VT), v.nodes ≤ m → v.nodes ≤ 1000000000 → ∀ (H : zaa) (K : AV → zaa → Prop), K (.int .i64 v.nodes) H → ACalls tP zfE [.agg v.cs] H K := by
 intro m
 induction m with
 | zero => intro v h; have := v.nodes_pos; omega
 | succ m ih =>
  intro v hv hb H K hK
  obtain ⟨k, n, ks⟩ := v
  have hnl : VT.nodesL ks + 1 ≤ 1000000000 := by simpa [VT.nodes] using hb
  have hll := VT.len_le ks
  refine ACalls.out (zBl fun hs => ?_)
  simp [VT.cs, zsg]
  refine zBj (Inv := fun q t3 t4 H' => ∃ i : Nat, i ≤ ks.length ∧ q = ks.length - i ∧ t4 = .int .i64 i ∧ t3 = .int .i64 (1 + VT.nodesL (ks.take i) : Nat) ∧ H' = H ++ [.cells [.int .i64 k, .int .i64 n, .sl (VT.css ks) .none]]) ks.length ?_ ?_
  ·intro _; exact ⟨0, by omega, by omega, rfl, by simp [VT.nodesL], rfl⟩
  ·rintro q t3 t4 H' ⟨i, hi, rfl, rfl, rfl, rfl⟩ hsc hlen hsF Kb hKb
   by_cases hlt : i < ks.length
   ·have hki := VT.kid_lt (k := k) (n := n) hlt
    have h1 := VT.nodesL_take hlt
    have h2 := VT.nodesL_take_le ks (i + 1)
    simp [zmD, hlt]
    refine ih ks[i] (by omega) (by omega) _ _ ?_
    simp
    rw [zan (by omega) (by omega), zan (by omega) (by omega)]
    refine hKb _ _ ⟨ks.length - (i + 1), by omega, Back.here (by simp) hsc ?_ ⟨_, _, rfl, i + 1, by omega, rfl, by simp, ?_, rfl⟩⟩
    ·simp [ziH, AV.sc, AV.scV, AV.scA, AV.scB]
    ·rw [h1]; congr 1; omega
   ·obtain rfl : i = ks.length := by omega
    simp [zmD]
    refine Out.int rfl (Nat.le_refl _) hs ?_
    simpa [VT.nodes, Int.add_comm] using hK
end Go.Proofs.YtacebbdfgbfgiaaGreat
