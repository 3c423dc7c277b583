import Derived.Test.YtfpmdpldabopjaaGreatDoorKNum
import Derived.Test.YtfpmdpldabopjaaGreatDoorProg
import Derived.KernelRfl
import Derived.Test.YtfpmdpldabopjaaGreatDoorAbsZ
import Derived.Test.YtfpmdpldabopjaaGreatDoorKSH
set_option linter.unusedSimpArgs false
set_option linter.unusedVariables false
namespace Go.Proofs.YtfpmdpldabopjaaGreatDoor
open Go Go.Abs
set_option maxRecDepth 100000
def zq8_M (_ : Nat) : List Bool := []
noncomputable def zq8_c : Code := Tryz.f10.body.getD .skip
noncomputable def zq8_r : List ResultVar := Tryz.f10.results.toList
def zq8 (t0 t1 t2 : AV) (H : Heap) (K : Kt) : Prop :=
 aBox t1 H fun t4 H =>
 ACalls Tryz.prog n_zq13 [t0] H fun t12 H =>
 aUn .not t12 fun t13 =>
 aGuardJ t13 false H (fun K' => aLoad true 3 t4 H (K' · H)) fun t15 H =>
 aGuardJ t13 false H (fun K' => ACalls Tryz.prog n_zq15 [t15] H K') fun t16 H =>
 aGuardJ t13 false H (fun K' => aUn .not t16 (K' · H)) fun t17 H =>
 aPick t13 (.bool true) t17 fun t18 =>
 aGuardJ t18 false H (fun K' => K' t2 H) fun t20 H =>
 aGuardJ t18 false H (fun K' => aLen 0 t20 (K' · H)) fun t21 H =>
 aGuardJ t18 false H (fun K' => aBin .gtr false t21 (.int .i64 2000) (K' · H)) fun t22 H =>
 aPick t18 (.bool true) t22 fun t23 =>
 aTest t23
 (K (.bool true) H)
 (aLoad true 3 t4 H fun t26 =>
 ACalls Tryz.prog n_zq36 [t0, t26, t2] H fun t28 H =>
 aExt t28 0 fun t29 =>
 aExt t28 1 fun t30 =>
 aNew [(.int .i64 0), (.int .i64 0), .snil] H fun t7 H =>
 aStore 3 t7 t29 H fun H =>
 aLoad true 3 t4 H fun t33 =>
 ACalls Tryz.prog n_zq37 [t0, t33, t2] H fun t35 H =>
 aExt t35 0 fun t36 =>
 aExt t35 1 fun t37 =>
 aNew [(.int .i64 0), (.int .i64 0), .snil] H fun t9 H =>
 aStore 3 t9 t36 H fun H =>
 aBin .eql true t30 t37 fun t40 =>
 aGuardJ t40 true H (fun K' => aLoad true 3 t7 H (K' · H)) fun t42 H =>
 aGuardJ t40 true H (fun K' => aLoad true 3 t9 H (K' · H)) fun t43 H =>
 aGuardJ t40 true H (fun K' => ACalls Tryz.prog n_zq38 [t42, t43] H K') fun t44 H =>
 aPick t40 t44 (.bool false) fun t45 =>
 aGuardJ t45 true H (fun K' => ACalls Tryz.prog n_zq18 [] H K') fun t47 H =>
 aPick t45 t47 (.bool false) fun t48 =>
 K t48 H)
theorem zq8_eq (t0 t1 t2 : AV) (H : Heap) (K : Kt) : awp Tryz.prog zq8_M zq8_c (retQ Tryz.prog zq8_r K) (t0 :: t1 :: t2 :: List.replicate 46 .unk) H = zq8 t0 t1 t2 H K := by kernel_rfl
theorem zq8_ok {t0 t1 t2 : AV} {H : Heap} {K : Kt} (h : HSc H → zq8 t0 t1 t2 H K) : ACalls Tryz.prog n_zq8 [t0, t1, t2] H K :=
 acalls_body (M := zq8_M) Tryz.func10 (c := zq8_c) (by kernel_rfl) (fun hs => (zq8_eq t0 t1 t2 H K).mpr (h hs))
def zq37_M (_ : Nat) : List Bool := []
noncomputable def zq37_c : Code := Tryz.f39.body.getD .skip
noncomputable def zq37_r : List ResultVar := Tryz.f39.results.toList
def zq37 (t0 t1 t2 : AV) (H : Heap) (K : Kt) : Prop :=
 aBox t1 H fun t4 H =>
 aNew [(.int .i64 0), (.int .i64 0), .snil] H fun t6 H =>
 ACalls Tryz.prog n_zq51 [t0] H fun t11 H =>
 aUn .not t11 fun t12 =>
 aGuardJ t12 false H (fun K' => K' t0 H) fun t14 H =>
 aGuardJ t12 false H (fun K' => aLoad true 3 t4 H (K' · H)) fun t15 H =>
 aGuardJ t12 false H (fun K' => ACalls Tryz.prog n_zq52 [t14, t15, (.int .i64 0)] H K') fun t16 H =>
 aGuardJ t12 false H (fun K' => aUn .not t16 (K' · H)) fun t17 H =>
 aPick t12 (.bool true) t17 fun t18 =>
 aTest t18
 (aBuild [(.int .i64 0), (.int .i64 0), .snil] [(0, 1), (1, 1), (2, 1)] [] fun t19 =>
 aStore 3 t6 t19 H fun H =>
 aLoad true 3 t6 H fun r0 =>
 aRet [r0, (.bool false)] (K · H))
 (aBuild [.snil, (.str []), (.int .i64 0), (.bool false), (.int .i64 0)] [(0, 1), (1, 1), (2, 1), (3, 1), (4, 1)] [(0, t0), (1, t2), (4, (.int .i64 5000))] fun t22 =>
 aBox t22 H fun t23 H =>
 aLoad true 3 t4 H fun t25 =>
 ACalls Tryz.prog n_zq72 [t23, t25] H fun t26 H =>
 aNew [(.int .i64 0), (.int .i64 0), .snil] H fun t9 H =>
 aStore 3 t9 t26 H fun H =>
 aNil t23 fun t28 =>
 aFld 3 t28 fun t29 =>
 aLoad false 1 t29 H fun t30 =>
 aGuardJ t30 false H (fun K' => K' t23 H) fun t32 H =>
 aGuardJ t30 false H (fun K' => aNil t32 (K' · H)) fun t33 H =>
 aGuardJ t30 false H (fun K' => aFld 2 t33 (K' · H)) fun t34 H =>
 aGuardJ t30 false H (fun K' => aLoad false 1 t34 H (K' · H)) fun t35 H =>
 aGuardJ t30 false H (fun K' => K' t2 H) fun t36 H =>
 aGuardJ t30 false H (fun K' => aLen 0 t36 (K' · H)) fun t37 H =>
 aGuardJ t30 false H (fun K' => aBin .neq false t35 t37 (K' · H)) fun t38 H =>
 aPick t30 (.bool true) t38 fun t39 =>
 aGuardJ t39 false H (fun K' => K' t0 H) fun t41 H =>
 aGuardJ t39 false H (fun K' => aLoad true 3 t9 H (K' · H)) fun t42 H =>
 aGuardJ t39 false H (fun K' => aLoad true 3 t4 H (K' · H)) fun t43 H =>
 aGuardJ t39 false H (fun K' => ACalls Tryz.prog n_zq17 [t41, t42, t43] H K') fun t44 H =>
 aGuardJ t39 false H (fun K' => aUn .not t44 (K' · H)) fun t45 H =>
 aPick t39 (.bool true) t45 fun t46 =>
 aTest t46
 (aBuild [(.int .i64 0), (.int .i64 0), .snil] [(0, 1), (1, 1), (2, 1)] [] fun t47 =>
 aStore 3 t6 t47 H fun H =>
 aLoad true 3 t6 H fun r0 =>
 aRet [r0, (.bool false)] (K · H))
 (aLoad true 3 t9 H fun t48 =>
 aStore 3 t6 t48 H fun H =>
 aLoad true 3 t6 H fun r0 =>
 aRet [r0, (.bool true)] (K · H)))
theorem zq37_eq (t0 t1 t2 : AV) (H : Heap) (K : Kt) : awp Tryz.prog zq37_M zq37_c (retQ Tryz.prog zq37_r K) (t0 :: t1 :: t2 :: List.replicate 46 .unk) H = zq37 t0 t1 t2 H K := by kernel_rfl
theorem zq37_ok {t0 t1 t2 : AV} {H : Heap} {K : Kt} (h : HSc H → zq37 t0 t1 t2 H K) : ACalls Tryz.prog n_zq37 [t0, t1, t2] H K :=
 acalls_body (M := zq37_M) Tryz.func39 (c := zq37_c) (by kernel_rfl) (fun hs => (zq37_eq t0 t1 t2 H K).mpr (h hs))
def zq132_M (_ : Nat) : List Bool := []
noncomputable def zq132_c : Code := Tryz.f134.body.getD .skip
noncomputable def zq132_r : List ResultVar := Tryz.f134.results.toList
def zq132 (t0 t1 : AV) (H : Heap) (K : Kt) : Prop :=
 ACalls Tryz.prog n_zq133 [t0, t1] H fun t6 H =>
 aUn .not t6 fun t7 =>
 aTest t7
 (aNil t0 fun t9 =>
 aFld 3 t9 fun t10 =>
 aStore 1 t10 (.bool true) H fun H =>
 aRet [] (K · H))
 (aRet [] (K · H))
theorem zq132_eq (t0 t1 : AV) (H : Heap) (K : Kt) : awp Tryz.prog zq132_M zq132_c (retQ Tryz.prog zq132_r K) (t0 :: t1 :: List.replicate 9 .unk) H = zq132 t0 t1 H K := by kernel_rfl
theorem zq132_ok {t0 t1 : AV} {H : Heap} {K : Kt} (h : HSc H → zq132 t0 t1 H K) : ACalls Tryz.prog n_zq132 [t0, t1] H K :=
 acalls_body (M := zq132_M) Tryz.func134 (c := zq132_c) (by kernel_rfl) (fun hs => (zq132_eq t0 t1 H K).mpr (h hs))
def zq133_M (_ : Nat) : List Bool := []
noncomputable def zq133_c : Code := Tryz.f135.body.getD .skip
noncomputable def zq133_r : List ResultVar := Tryz.f135.results.toList
def zq133 (t0 t1 : AV) (H : Heap) (K : Kt) : Prop :=
 aPure H (fun K' => K' t0 H) fun t5 =>
 aPure H (fun K' => aNil t5 (K' · H)) fun t6 =>
 aPure H (fun K' => aFld 3 t6 (K' · H)) fun t7 =>
 aPure H (fun K' => aLoadC false 1 t7 H (K' · H)) fun t8 =>
 aPure H (fun K' => aUn .not t8 (K' · H)) fun t9 =>
 aPure H (fun K' => K' t9 H) fun t10 =>
 aGuardJ t10 true H (fun K' => aPure H (fun K'' => K'' t0 H) (K' · H)) fun t11 H =>
 aGuardJ t10 true H (fun K' => aPure H (fun K'' => aNil t11 (K'' · H)) (K' · H)) fun t12 H =>
 aGuardJ t10 true H (fun K' => aPure H (fun K'' => aFld 1 t12 (K'' · H)) (K' · H)) fun t13 H =>
 aGuardJ t10 true H (fun K' => aPure H (fun K'' => aLoadC false 1 t13 H (K'' · H)) (K' · H)) fun t14 H =>
 aGuardJ t10 true H (fun K' => aPure H (fun K'' => aLen 0 t14 (K'' · H)) (K' · H)) fun t15 H =>
 aGuardJ t10 true H (fun K' => aPure H (fun K'' => K'' t0 H) (K' · H)) fun t16 H =>
 aGuardJ t10 true H (fun K' => aPure H (fun K'' => aNil t16 (K'' · H)) (K' · H)) fun t17 H =>
 aGuardJ t10 true H (fun K' => aPure H (fun K'' => aFld 2 t17 (K'' · H)) (K' · H)) fun t18 H =>
 aGuardJ t10 true H (fun K' => aPure H (fun K'' => aLoadC false 1 t18 H (K'' · H)) (K' · H)) fun t19 H =>
 aGuardJ t10 true H (fun K' => aPure H (fun K'' => aBin .sub false t15 t19 (K'' · H)) (K' · H)) fun t20 H =>
 aGuardJ t10 true H (fun K' => aPure H (fun K'' => K'' t1 H) (K' · H)) fun t21 H =>
 aGuardJ t10 true H (fun K' => aPure H (fun K'' => aLen 0 t21 (K'' · H)) (K' · H)) fun t22 H =>
 aGuardJ t10 true H (fun K' => aPure H (fun K'' => aBin .geq false t20 t22 (K'' · H)) (K' · H)) fun t23 H =>
 aPure H (fun K' => aPick t10 t23 (.bool false) (K' · H)) fun t24 =>
 aPure H (fun K' => K' t24 H) fun t25 =>
 aGuardJ t25 true H (fun K' => aPure H (fun K'' => K'' t0 H) (K' · H)) fun t26 H =>
 aGuardJ t25 true H (fun K' => aPure H (fun K'' => aNil t26 (K'' · H)) (K' · H)) fun t27 H =>
 aGuardJ t25 true H (fun K' => aPure H (fun K'' => aFld 1 t27 (K'' · H)) (K' · H)) fun t28 H =>
 aGuardJ t25 true H (fun K' => aPure H (fun K'' => aLoadC false 1 t28 H (K'' · H)) (K' · H)) fun t29 H =>
 aGuardJ t25 true H (fun K' => aPure H (fun K'' => K'' t0 H) (K' · H)) fun t30 H =>
 aGuardJ t25 true H (fun K' => aPure H (fun K'' => aNil t30 (K'' · H)) (K' · H)) fun t31 H =>
 aGuardJ t25 true H (fun K' => aPure H (fun K'' => aFld 2 t31 (K'' · H)) (K' · H)) fun t32 H =>
 aGuardJ t25 true H (fun K' => aPure H (fun K'' => aLoadC false 1 t32 H (K'' · H)) (K' · H)) fun t33 H =>
 aGuardJ t25 true H (fun K' => aPure H (fun K'' => K'' t0 H) (K' · H)) fun t34 H =>
 aGuardJ t25 true H (fun K' => aPure H (fun K'' => aNil t34 (K'' · H)) (K' · H)) fun t35 H =>
 aGuardJ t25 true H (fun K' => aPure H (fun K'' => aFld 2 t35 (K'' · H)) (K' · H)) fun t36 H =>
 aGuardJ t25 true H (fun K' => aPure H (fun K'' => aLoadC false 1 t36 H (K'' · H)) (K' · H)) fun t37 H =>
 aGuardJ t25 true H (fun K' => aPure H (fun K'' => K'' t1 H) (K' · H)) fun t38 H =>
 aGuardJ t25 true H (fun K' => aPure H (fun K'' => aLen 0 t38 (K'' · H)) (K' · H)) fun t39 H =>
 aGuardJ t25 true H (fun K' => aPure H (fun K'' => aBin .add false t37 t39 (K'' · H)) (K' · H)) fun t40 H =>
 aGuardJ t25 true H (fun K' => aPure H (fun K'' => aSlice 0 0 t29 (some t33) (some t40) (K'' · H)) (K' · H)) fun t41 H =>
 aGuardJ t25 true H (fun K' => aPure H (fun K'' => K'' t1 H) (K' · H)) fun t42 H =>
 aGuardJ t25 true H (fun K' => aPure H (fun K'' => aBin .eql false t41 t42 (K'' · H)) (K' · H)) fun t43 H =>
 aPure H (fun K' => aPick t25 t43 (.bool false) (K' · H)) fun t44 =>
 aTest t44
 (aNil t0 fun t46 =>
 aFld 2 t46 fun t47 =>
 aLoad false 1 t47 H fun t48 =>
 aLen 0 t1 fun t50 =>
 aBin .add false t48 t50 fun t51 =>
 aNil t0 fun t52 =>
 aFld 2 t52 fun t53 =>
 aStore 1 t53 t51 H fun H =>
 K (.bool true) H)
 (K (.bool false) H)
theorem zq133_eq (t0 t1 : AV) (H : Heap) (K : Kt) : awp Tryz.prog zq133_M zq133_c (retQ Tryz.prog zq133_r K) (t0 :: t1 :: List.replicate 52 .unk) H = zq133 t0 t1 H K := by kernel_rfl
theorem zq133_ok {t0 t1 : AV} {H : Heap} {K : Kt} (h : HSc H → zq133 t0 t1 H K) : ACalls Tryz.prog n_zq133 [t0, t1] H K :=
 acalls_body (M := zq133_M) Tryz.func135 (c := zq133_c) (by kernel_rfl) (fun hs => (zq133_eq t0 t1 H K).mpr (h hs))
def zq134_M : Nat → List Bool
 | 4 => rl false [0,1,2,3,108]
 | 100004 => rl false [0,1,2,3,108]
 | _ => []
noncomputable def zq134_c : Code := Tryz.f136.body.getD .skip
noncomputable def zq134_r : List ResultVar := Tryz.f136.results.toList
def zq134_fr4 (t0 t3 t4 t5 : AV) : List AV := t0 :: ux 2 (t3 :: t4 :: t5 :: ux 108 [])
def zq134_m4 : List Bool := zq134_M 4
noncomputable def zq134_c4 : Code := codeAt [1, 1, 1, 1, 0, 0, 0] zq134_c
def zq134_Q4 (K : Kt) : AExit → List AV → Heap → Prop := contAt Tryz.prog zq134_M [1, 1, 1, 1, 0, 0] zq134_c (retQ Tryz.prog zq134_r K)
def zq134_l4 (t0 t3 t4 t5 : AV) (H : Heap) (K : Kt) : Prop := ALoop Tryz.prog zq134_c4 (zq134_Q4 K) (zq134_fr4 t0 t3 t4 t5) H
def zq134_j2 (t3 t5 : AV) (H : Heap) (K : Kt) : Prop :=
 aTest t3
 (aUn .neg t5 fun t112 =>
 K t112 H)
 (K t5 H)
def zq134_b4 (t0 t3 t4 t5 : AV) (H : Heap) (K : Kt) (Kb4 : Lt) : Prop :=
 aPure H (fun K' => K' t0 H) fun t12 =>
 aPure H (fun K' => aNil t12 (K' · H)) fun t13 =>
 aPure H (fun K' => aFld 2 t13 (K' · H)) fun t14 =>
 aPure H (fun K' => aLoadC false 1 t14 H (K' · H)) fun t15 =>
 aPure H (fun K' => K' t0 H) fun t16 =>
 aPure H (fun K' => aNil t16 (K' · H)) fun t17 =>
 aPure H (fun K' => aFld 1 t17 (K' · H)) fun t18 =>
 aPure H (fun K' => aLoadC false 1 t18 H (K' · H)) fun t19 =>
 aPure H (fun K' => aLen 0 t19 (K' · H)) fun t20 =>
 aPure H (fun K' => aBin .lss false t15 t20 (K' · H)) fun t21 =>
 aPure H (fun K' => K' t21 H) fun t22 =>
 aGuardJ t22 true H (fun K' => aPure H (fun K'' => K'' t0 H) (K' · H)) fun t23 H =>
 aGuardJ t22 true H (fun K' => aPure H (fun K'' => aNil t23 (K'' · H)) (K' · H)) fun t24 H =>
 aGuardJ t22 true H (fun K' => aPure H (fun K'' => aFld 1 t24 (K'' · H)) (K' · H)) fun t25 H =>
 aGuardJ t22 true H (fun K' => aPure H (fun K'' => aLoadC false 1 t25 H (K'' · H)) (K' · H)) fun t26 H =>
 aGuardJ t22 true H (fun K' => aPure H (fun K'' => K'' t0 H) (K' · H)) fun t27 H =>
 aGuardJ t22 true H (fun K' => aPure H (fun K'' => aNil t27 (K'' · H)) (K' · H)) fun t28 H =>
 aGuardJ t22 true H (fun K' => aPure H (fun K'' => aFld 2 t28 (K'' · H)) (K' · H)) fun t29 H =>
 aGuardJ t22 true H (fun K' => aPure H (fun K'' => aLoadC false 1 t29 H (K'' · H)) (K' · H)) fun t30 H =>
 aGuardJ t22 true H (fun K' => aPure H (fun K'' => aIdxS t26 t30 (K'' · H)) (K' · H)) fun t31 H =>
 aGuardJ t22 true H (fun K' => aPure H (fun K'' => aBin .geq false t31 (.int .u8 48) (K'' · H)) (K' · H)) fun t32 H =>
 aPure H (fun K' => aPick t22 t32 (.bool false) (K' · H)) fun t33 =>
 aPure H (fun K' => K' t33 H) fun t34 =>
 aGuardJ t34 true H (fun K' => aPure H (fun K'' => K'' t0 H) (K' · H)) fun t35 H =>
 aGuardJ t34 true H (fun K' => aPure H (fun K'' => aNil t35 (K'' · H)) (K' · H)) fun t36 H =>
 aGuardJ t34 true H (fun K' => aPure H (fun K'' => aFld 1 t36 (K'' · H)) (K' · H)) fun t37 H =>
 aGuardJ t34 true H (fun K' => aPure H (fun K'' => aLoadC false 1 t37 H (K'' · H)) (K' · H)) fun t38 H =>
 aGuardJ t34 true H (fun K' => aPure H (fun K'' => K'' t0 H) (K' · H)) fun t39 H =>
 aGuardJ t34 true H (fun K' => aPure H (fun K'' => aNil t39 (K'' · H)) (K' · H)) fun t40 H =>
 aGuardJ t34 true H (fun K' => aPure H (fun K'' => aFld 2 t40 (K'' · H)) (K' · H)) fun t41 H =>
 aGuardJ t34 true H (fun K' => aPure H (fun K'' => aLoadC false 1 t41 H (K'' · H)) (K' · H)) fun t42 H =>
 aGuardJ t34 true H (fun K' => aPure H (fun K'' => aIdxS t38 t42 (K'' · H)) (K' · H)) fun t43 H =>
 aGuardJ t34 true H (fun K' => aPure H (fun K'' => aBin .leq false t43 (.int .u8 57) (K'' · H)) (K' · H)) fun t44 H =>
 aPure H (fun K' => aPick t34 t44 (.bool false) (K' · H)) fun t45 =>
 aPure H (fun K' => K' t45 H) fun t46 =>
 aGuardJ t46 true H (fun K' => aPure H (fun K'' => K'' t0 H) (K' · H)) fun t47 H =>
 aGuardJ t46 true H (fun K' => aPure H (fun K'' => aNil t47 (K'' · H)) (K' · H)) fun t48 H =>
 aGuardJ t46 true H (fun K' => aPure H (fun K'' => aFld 2 t48 (K'' · H)) (K' · H)) fun t49 H =>
 aGuardJ t46 true H (fun K' => aPure H (fun K'' => aLoadC false 1 t49 H (K'' · H)) (K' · H)) fun t50 H =>
 aGuardJ t46 true H (fun K' => aPure H (fun K'' => K'' t4 H) (K' · H)) fun t51 H =>
 aGuardJ t46 true H (fun K' => aPure H (fun K'' => aBin .sub false t50 t51 (K'' · H)) (K' · H)) fun t52 H =>
 aGuardJ t46 true H (fun K' => aPure H (fun K'' => aBin .lss false t52 (.int .i64 14) (K'' · H)) (K' · H)) fun t53 H =>
 aPure H (fun K' => aPick t46 t53 (.bool false) (K' · H)) fun t54 =>
 aTest t54
 (aPure H (fun K' => K' t5 H) fun t55 =>
 aPure H (fun K' => aBin .mul false t55 (.int .i64 10) (K' · H)) fun t56 =>
 aPure H (fun K' => K' t0 H) fun t57 =>
 aPure H (fun K' => aNil t57 (K' · H)) fun t58 =>
 aPure H (fun K' => aFld 1 t58 (K' · H)) fun t59 =>
 aPure H (fun K' => aLoadC false 1 t59 H (K' · H)) fun t60 =>
 aPure H (fun K' => K' t0 H) fun t61 =>
 aPure H (fun K' => aNil t61 (K' · H)) fun t62 =>
 aPure H (fun K' => aFld 2 t62 (K' · H)) fun t63 =>
 aPure H (fun K' => aLoadC false 1 t63 H (K' · H)) fun t64 =>
 aPure H (fun K' => aIdxS t60 t64 (K' · H)) fun t65 =>
 aPure H (fun K' => aBin .sub false t65 (.int .u8 48) (K' · H)) fun t66 =>
 aPure H (fun K' => aConv .i64 t66 (K' · H)) fun t67 =>
 aPure H (fun K' => aBin .add false t56 t67 (K' · H)) fun t68 =>
 aPure H (fun K' => K' t68 H) fun t5 =>
 aNil t0 fun t70 =>
 aFld 2 t70 fun t71 =>
 aLoad false 1 t71 H fun t72 =>
 aBin .add false t72 (.int .i64 1) fun t73 =>
 aNil t0 fun t74 =>
 aFld 2 t74 fun t75 =>
 aStore 1 t75 t73 H fun H =>
 Kb4 (zq134_fr4 t0 t3 t4 t5) H)
 (aNil t0 fun t77 =>
 aFld 2 t77 fun t78 =>
 aLoad false 1 t78 H fun t79 =>
 aBin .eql false t79 t4 fun t81 =>
 aGuardJ t81 false H (fun K' => K' t0 H) fun t83 H =>
 aGuardJ t81 false H (fun K' => aNil t83 (K' · H)) fun t84 H =>
 aGuardJ t81 false H (fun K' => aFld 1 t84 (K' · H)) fun t85 H =>
 aGuardJ t81 false H (fun K' => aLoad false 1 t85 H (K' · H)) fun t86 H =>
 aGuardJ t81 false H (fun K' => K' t4 H) fun t87 H =>
 aGuardJ t81 false H (fun K' => aIdxS t86 t87 (K' · H)) fun t88 H =>
 aGuardJ t81 false H (fun K' => aBin .eql false t88 (.int .u8 48) (K' · H)) fun t89 H =>
 aGuardJ t81 false H (fun K' => K' t89 H) fun t90 H =>
 aGuardJ t90 true H (fun K' => K' t0 H) fun t91 H =>
 aGuardJ t90 true H (fun K' => aNil t91 (K' · H)) fun t92 H =>
 aGuardJ t90 true H (fun K' => aFld 2 t92 (K' · H)) fun t93 H =>
 aGuardJ t90 true H (fun K' => aLoad false 1 t93 H (K' · H)) fun t94 H =>
 aGuardJ t90 true H (fun K' => K' t4 H) fun t95 H =>
 aGuardJ t90 true H (fun K' => aBin .add false t95 (.int .i64 1) (K' · H)) fun t96 H =>
 aGuardJ t90 true H (fun K' => aBin .gtr false t94 t96 (K' · H)) fun t97 H =>
 aGuardJ t90 true H (fun K' => K' t97 H) fun t98 H =>
 aGuardJ t98 false H (fun K' => K' t3 H) fun t99 H =>
 aGuardJ t90 true H (fun K' => aPick t98 (.bool true) t99 (K' · H)) fun t100 H =>
 aGuardJ t81 false H (fun K' => aPick t90 t100 (.bool false) (K' · H)) fun t101 H =>
 aPick t81 (.bool true) t101 fun t102 =>
 aGuardJ t102 false H (fun K' => K' t5 H) fun t104 H =>
 aGuardJ t102 false H (fun K' => aBin .gtr false t104 (.int .i64 1099511627776) (K' · H)) fun t105 H =>
 aPick t102 (.bool true) t105 fun t106 =>
 aTest t106
 (aNil t0 fun t108 =>
 aFld 3 t108 fun t109 =>
 aStore 1 t109 (.bool true) H fun H =>
 zq134_j2 t3 t5 H K)
 (zq134_j2 t3 t5 H K))
noncomputable def zq134_j1_c : Code := codeAt [1, 1, 1, 1] zq134_c
def zq134_j1_Q (K : Kt) : AExit → List AV → Heap → Prop := contAt Tryz.prog zq134_M [1, 1, 1, 1] zq134_c (retQ Tryz.prog zq134_r K)
def zq134_j1 (t0 t3 t4 t5 : AV) (H : Heap) (K : Kt) : Prop := AWp Tryz.prog zq134_j1_c (zq134_j1_Q K) (t0 :: ux 2 (t3 :: t4 :: t5 :: ux 108 [])) H
def zq134_j1b (t0 t3 t4 t5 : AV) (H : Heap) (K : Kt) : Prop :=
 zq134_l4 t0 t3 t4 t5 H K
def zq134 (t0 : AV) (H : Heap) (K : Kt) : Prop :=
 ACalls Tryz.prog n_zq133 [t0, (.str [45])] H fun t7 H =>
 aNil t0 fun t9 =>
 aFld 2 t9 fun t10 =>
 aLoad false 1 t10 H fun t11 =>
 zq134_j1 t0 t7 t11 (.int .i64 0) H K
theorem zq134_b4_eq (t0 t3 t4 t5 : AV) (H : Heap) (K : Kt) (Kb4 : Lt) : awp Tryz.prog zq134_M zq134_c4 (roundQ zq134_m4 Kb4 (zq134_Q4 K)) (zq134_fr4 t0 t3 t4 t5) H = zq134_b4 t0 t3 t4 t5 H K Kb4 := by kernel_rfl
theorem zq134_loop4 {t0 t3 t4 t5 : AV} {H : Heap} {K : Kt} (Inv : Nat → AV → Heap → Prop) (n : Nat) (h0 : HSc H → Inv n t5 H)
  (round : ∀ n t5 H', Inv n t5 H' → HSc H' → H.length ≤ H'.length → (zq134_fr4 t0 t3 t4 t5).all (AV.sc H'.length) = true → ∀ Kb4 : Lt, (∀ F'' H'', (∃ n', n' < n ∧ Back H.length (fun F2 H2 => ∃ t5, F2 = zq134_fr4 t0 t3 t4 t5 ∧ Inv n' t5 H2) F'' H'') → Kb4 F'' H'') → zq134_b4 t0 t3 t4 t5 H' K Kb4) : zq134_l4 t0 t3 t4 t5 H K :=
 aloop (M := zq134_M) zq134_m4 (fun n F H => ∃ t5, F = zq134_fr4 t0 t3 t4 t5 ∧ Inv n t5 H) n (fun hs _ => ⟨t5, rfl, h0 hs⟩) (fun n F H' ⟨t5, hF, hI⟩ h1 h2 h3 => by subst hF; rw [zq134_b4_eq]; exact round n t5 H' hI h1 h2 h3 _ (fun _ _ h => h))
theorem zq134_j1_eq (t0 t3 t4 t5 : AV) (H : Heap) (K : Kt) : awp Tryz.prog zq134_M zq134_j1_c (zq134_j1_Q K) (t0 :: ux 2 (t3 :: t4 :: t5 :: ux 108 [])) H = zq134_j1b t0 t3 t4 t5 H K := by kernel_rfl
theorem zq134_j1_ok {t0 t3 t4 t5 : AV} {H : Heap} {K : Kt} (h : HSc H → zq134_j1b t0 t3 t4 t5 H K) : zq134_j1 t0 t3 t4 t5 H K :=
 fun B w G a hH hF hd => awp_sound (M := zq134_M) _ _ _ _ ((zq134_j1_eq t0 t3 t4 t5 H K).mpr (h hH.sc)) B w G a hH hF hd
theorem zq134_eq (t0 : AV) (H : Heap) (K : Kt) : awp Tryz.prog zq134_M zq134_c (retQ Tryz.prog zq134_r K) (t0 :: List.replicate 113 .unk) H = zq134 t0 H K := by kernel_rfl
theorem zq134_ok {t0 : AV} {H : Heap} {K : Kt} (h : HSc H → zq134 t0 H K) : ACalls Tryz.prog n_zq134 [t0] H K :=
 acalls_body (M := zq134_M) Tryz.func136 (c := zq134_c) (by kernel_rfl) (fun hs => (zq134_eq t0 H K).mpr (h hs))
def zq135_M : Nat → List Bool
 | 3 => rl false [0,2,3,2,27]
 | _ => []
noncomputable def zq135_c : Code := Tryz.f137.body.getD .skip
noncomputable def zq135_r : List ResultVar := Tryz.f137.results.toList
def zq135_fr3 (t0 t1 t5 t6 : AV) : List AV := t0 :: t1 :: ux 3 (t5 :: t6 :: ux 27 [])
def zq135_m3 : List Bool := zq135_M 3
noncomputable def zq135_c3 : Code := codeAt [1, 1, 0, 1, 0, 0] zq135_c
def zq135_Q3 (K : Kt) : AExit → List AV → Heap → Prop := contAt Tryz.prog zq135_M [1, 1, 0, 1, 0] zq135_c (retQ Tryz.prog zq135_r K)
def zq135_l3 (t0 t1 t5 t6 : AV) (H : Heap) (K : Kt) : Prop := ALoop Tryz.prog zq135_c3 (zq135_Q3 K) (zq135_fr3 t0 t1 t5 t6) H
def zq135_j1 (t0 t1 t5 t6 : AV) (H : Heap) (K : Kt) (Kb3 : Lt) : Prop :=
 aIdxA 3 t1 t6 fun t28 =>
 aLoad true 3 t28 H fun t29 =>
 ACalls Tryz.prog n_zq72 [t0, t29] H fun t30 H =>
 aBuildS 3 [(.int .i64 0), (.int .i64 0), .snil] 1 [(0, t30)] fun t31 =>
 aAppend e_api_Value 3 40 t5 t31 H fun t32 H =>
 aBin .add false t6 (.int .i64 1) fun t19 =>
 Kb3 (zq135_fr3 t0 t1 t32 t19) H
def zq135_b3 (t0 t1 t5 t6 : AV) (H : Heap) (K : Kt) (Kb3 : Lt) : Prop :=
 aLen 1 t1 fun t9 =>
 aBin .lss false t6 t9 fun t10 =>
 aGuardJ t10 true H (fun K' => K' t0 H) fun t12 H =>
 aGuardJ t10 true H (fun K' => aNil t12 (K' · H)) fun t13 H =>
 aGuardJ t10 true H (fun K' => aFld 3 t13 (K' · H)) fun t14 H =>
 aGuardJ t10 true H (fun K' => aLoad false 1 t14 H (K' · H)) fun t15 H =>
 aGuardJ t10 true H (fun K' => aUn .not t15 (K' · H)) fun t16 H =>
 aPick t10 t16 (.bool false) fun t17 =>
 aTest t17
 (aBin .gtr false t6 (.int .i64 0) fun t21 =>
 aTest t21
 (ACalls Tryz.prog n_zq132 [t0, (.str [44, 32])] H fun t23 H =>
 zq135_j1 t0 t1 t5 t6 H K Kb3)
 (zq135_j1 t0 t1 t5 t6 H K Kb3))
 (K t5 H)
def zq135 (t0 t1 : AV) (H : Heap) (K : Kt) : Prop :=
 zq135_l3 t0 t1 .snil (.int .i64 0) H K
theorem zq135_b3_eq (t0 t1 t5 t6 : AV) (H : Heap) (K : Kt) (Kb3 : Lt) : awp Tryz.prog zq135_M zq135_c3 (roundQ zq135_m3 Kb3 (zq135_Q3 K)) (zq135_fr3 t0 t1 t5 t6) H = zq135_b3 t0 t1 t5 t6 H K Kb3 := by kernel_rfl
theorem zq135_loop3 {t0 t1 t5 t6 : AV} {H : Heap} {K : Kt} (Inv : Nat → AV → AV → Heap → Prop) (n : Nat) (h0 : HSc H → Inv n t5 t6 H)
  (round : ∀ n t5 t6 H', Inv n t5 t6 H' → HSc H' → H.length ≤ H'.length → (zq135_fr3 t0 t1 t5 t6).all (AV.sc H'.length) = true → ∀ Kb3 : Lt, (∀ F'' H'', (∃ n', n' < n ∧ Back H.length (fun F2 H2 => ∃ t5 t6, F2 = zq135_fr3 t0 t1 t5 t6 ∧ Inv n' t5 t6 H2) F'' H'') → Kb3 F'' H'') → zq135_b3 t0 t1 t5 t6 H' K Kb3) : zq135_l3 t0 t1 t5 t6 H K :=
 aloop (M := zq135_M) zq135_m3 (fun n F H => ∃ t5 t6, F = zq135_fr3 t0 t1 t5 t6 ∧ Inv n t5 t6 H) n (fun hs _ => ⟨t5, t6, rfl, h0 hs⟩) (fun n F H' ⟨t5, t6, hF, hI⟩ h1 h2 h3 => by subst hF; rw [zq135_b3_eq]; exact round n t5 t6 H' hI h1 h2 h3 _ (fun _ _ h => h))
theorem zq135_eq (t0 t1 : AV) (H : Heap) (K : Kt) : awp Tryz.prog zq135_M zq135_c (retQ Tryz.prog zq135_r K) (t0 :: t1 :: List.replicate 32 .unk) H = zq135 t0 t1 H K := by kernel_rfl
theorem zq135_ok {t0 t1 : AV} {H : Heap} {K : Kt} (h : HSc H → zq135 t0 t1 H K) : ACalls Tryz.prog n_zq135 [t0, t1] H K :=
 acalls_body (M := zq135_M) Tryz.func137 (c := zq135_c) (by kernel_rfl) (fun hs => (zq135_eq t0 t1 H K).mpr (h hs))
def zq136_M (_ : Nat) : List Bool := []
noncomputable def zq136_c : Code := Tryz.f138.body.getD .skip
noncomputable def zq136_r : List ResultVar := Tryz.f138.results.toList
def zq136 (t0 : AV) (H : Heap) (K : Kt) : Prop :=
 aBin .geq false t0 (.int .u8 97) fun t4 =>
 aGuardJ t4 true H (fun K' => K' t0 H) fun t6 H =>
 aGuardJ t4 true H (fun K' => aBin .leq false t6 (.int .u8 122) (K' · H)) fun t7 H =>
 aPick t4 t7 (.bool false) fun t8 =>
 aGuardJ t8 false H (fun K' => K' t0 H) fun t10 H =>
 aGuardJ t8 false H (fun K' => aBin .geq false t10 (.int .u8 65) (K' · H)) fun t11 H =>
 aGuardJ t8 false H (fun K' => K' t11 H) fun t12 H =>
 aGuardJ t12 true H (fun K' => K' t0 H) fun t13 H =>
 aGuardJ t12 true H (fun K' => aBin .leq false t13 (.int .u8 90) (K' · H)) fun t14 H =>
 aGuardJ t8 false H (fun K' => aPick t12 t14 (.bool false) (K' · H)) fun t15 H =>
 aPick t8 (.bool true) t15 fun t16 =>
 aGuardJ t16 false H (fun K' => K' t0 H) fun t18 H =>
 aGuardJ t16 false H (fun K' => aBin .geq false t18 (.int .u8 48) (K' · H)) fun t19 H =>
 aGuardJ t16 false H (fun K' => K' t19 H) fun t20 H =>
 aGuardJ t20 true H (fun K' => K' t0 H) fun t21 H =>
 aGuardJ t20 true H (fun K' => aBin .leq false t21 (.int .u8 57) (K' · H)) fun t22 H =>
 aGuardJ t16 false H (fun K' => aPick t20 t22 (.bool false) (K' · H)) fun t23 H =>
 aPick t16 (.bool true) t23 fun t24 =>
 aGuardJ t24 false H (fun K' => K' t0 H) fun t26 H =>
 aGuardJ t24 false H (fun K' => aBin .eql false t26 (.int .u8 95) (K' · H)) fun t27 H =>
 aPick t24 (.bool true) t27 fun t28 =>
 K t28 H
theorem zq136_eq (t0 : AV) (H : Heap) (K : Kt) : awp Tryz.prog zq136_M zq136_c (retQ Tryz.prog zq136_r K) (t0 :: List.replicate 28 .unk) H = zq136 t0 H K := by kernel_rfl
theorem zq136_ok {t0 : AV} {H : Heap} {K : Kt} (h : HSc H → zq136 t0 H K) : ACalls Tryz.prog n_zq136 [t0] H K :=
 acalls_body (M := zq136_M) Tryz.func138 (c := zq136_c) (by kernel_rfl) (fun hs => (zq136_eq t0 H K).mpr (h hs))
def zq72_M : Nat → List Bool
 | 24 => rl false [0,1,2,2,1,1,207]
 | 200050 => rl false [0,16]
 | 51 => rl false [0,1,2,2,8,1,200]
 | 200052 => rl false [0,16]
 | 168022 => rl false [0,1,2,2,30,1,18,1,159]
 | 100006 => rl false [0,1,2,2,209]
 | 100004 => rl false [0,1,2,2,209]
 | 100002 => rl false [0,1,2,2,209]
 | _ => []
noncomputable def zq72_c : Code := Tryz.f74.body.getD .skip
noncomputable def zq72_r : List ResultVar := Tryz.f74.results.toList
def zq72_fr24 (t0 t3 t4 t6 : AV) : List AV := t0 :: ux 2 (t3 :: t4 :: ux 1 (t6 :: ux 207 []))
def zq72_m24 : List Bool := zq72_M 24
noncomputable def zq72_c24 : Code := codeAt [1, 1, 1, 1, 0, 1, 0, 1, 1, 1, 1, 1, 1, 1, 1, 1, 0, 1, 0, 0, 0] zq72_c
def zq72_Q24 (K : Kt) : AExit → List AV → Heap → Prop := contAt Tryz.prog zq72_M [1, 1, 1, 1, 0, 1, 0, 1, 1, 1, 1, 1, 1, 1, 1, 1, 0, 1, 0, 0] zq72_c (retQ Tryz.prog zq72_r K)
def zq72_l24 (t0 t3 t4 t6 : AV) (H : Heap) (K : Kt) : Prop := ALoop Tryz.prog zq72_c24 (zq72_Q24 K) (zq72_fr24 t0 t3 t4 t6) H
def zq72_j5 (t4 t11 : AV) (H : Heap) (K : Kt) : Prop :=
 aLoad true 3 t11 H fun t161 =>
 aStore 3 t4 t161 H fun H =>
 aLoad true 3 t4 H fun r0 =>
 K r0 H
def zq72_b24 (t0 t3 t4 t6 : AV) (H : Heap) (K : Kt) (Kb24 : Lt) : Prop :=
 aPure H (fun K' => K' t0 H) fun t72 =>
 aPure H (fun K' => aNil t72 (K' · H)) fun t73 =>
 aPure H (fun K' => aFld 2 t73 (K' · H)) fun t74 =>
 aPure H (fun K' => aLoadC false 1 t74 H (K' · H)) fun t75 =>
 aPure H (fun K' => K' t0 H) fun t76 =>
 aPure H (fun K' => aNil t76 (K' · H)) fun t77 =>
 aPure H (fun K' => aFld 1 t77 (K' · H)) fun t78 =>
 aPure H (fun K' => aLoadC false 1 t78 H (K' · H)) fun t79 =>
 aPure H (fun K' => aLen 0 t79 (K' · H)) fun t80 =>
 aPure H (fun K' => aBin .lss false t75 t80 (K' · H)) fun t81 =>
 aPure H (fun K' => K' t81 H) fun t82 =>
 aGuardJ t82 true H (fun K' => aPure H (fun K'' => K'' t0 H) (K' · H)) fun t83 H =>
 aGuardJ t82 true H (fun K' => aPure H (fun K'' => aNil t83 (K'' · H)) (K' · H)) fun t84 H =>
 aGuardJ t82 true H (fun K' => aPure H (fun K'' => aFld 1 t84 (K'' · H)) (K' · H)) fun t85 H =>
 aGuardJ t82 true H (fun K' => aPure H (fun K'' => aLoadC false 1 t85 H (K'' · H)) (K' · H)) fun t86 H =>
 aGuardJ t82 true H (fun K' => aPure H (fun K'' => K'' t0 H) (K' · H)) fun t87 H =>
 aGuardJ t82 true H (fun K' => aPure H (fun K'' => aNil t87 (K'' · H)) (K' · H)) fun t88 H =>
 aGuardJ t82 true H (fun K' => aPure H (fun K'' => aFld 2 t88 (K'' · H)) (K' · H)) fun t89 H =>
 aGuardJ t82 true H (fun K' => aPure H (fun K'' => aLoadC false 1 t89 H (K'' · H)) (K' · H)) fun t90 H =>
 aGuardJ t82 true H (fun K' => aPure H (fun K'' => aIdxS t86 t90 (K'' · H)) (K' · H)) fun t91 H =>
 aGuardJ t82 true H (fun K' => aPureX H (fun H K'' => ACalls Tryz.prog n_zq136 [t91] H K'') (K' · H)) fun t92 H =>
 aPure H (fun K' => aPick t82 t92 (.bool false) (K' · H)) fun t93 =>
 aTest t93
 (aNil t0 fun t95 =>
 aFld 2 t95 fun t96 =>
 aLoad false 1 t96 H fun t97 =>
 aBin .add false t97 (.int .i64 1) fun t98 =>
 aNil t0 fun t99 =>
 aFld 2 t99 fun t100 =>
 aStore 1 t100 t98 H fun H =>
 Kb24 (zq72_fr24 t0 t3 t4 t6) H)
 (aPure H (fun K' => K' t0 H) fun t102 =>
 aPure H (fun K' => aNil t102 (K' · H)) fun t103 =>
 aPure H (fun K' => aFld 0 t103 (K' · H)) fun t104 =>
 aPure H (fun K' => aLoadC false 1 t104 H (K' · H)) fun t105 =>
 aPure H (fun K' => K' t0 H) fun t106 =>
 aPure H (fun K' => aNil t106 (K' · H)) fun t107 =>
 aPure H (fun K' => aFld 1 t107 (K' · H)) fun t108 =>
 aPure H (fun K' => aLoadC false 1 t108 H (K' · H)) fun t109 =>
 aPure H (fun K' => K' t6 H) fun t110 =>
 aPure H (fun K' => K' t0 H) fun t111 =>
 aPure H (fun K' => aNil t111 (K' · H)) fun t112 =>
 aPure H (fun K' => aFld 2 t112 (K' · H)) fun t113 =>
 aPure H (fun K' => aLoadC false 1 t113 H (K' · H)) fun t114 =>
 aPure H (fun K' => aSlice 0 0 t109 (some t110) (some t114) (K' · H)) fun t115 =>
 aPureX H (fun H K' => ACalls Tryz.prog n_zq124 [t105, t115] H K') fun t116 =>
 aPure H (fun K' => K' t116 H) fun t101 =>
 aPure H (fun K' => aExt t101 0 (K' · H)) fun t117 =>
 aPure H (fun K' => aExt t101 1 (K' · H)) fun t118 =>
 aPure H (fun K' => aExt t101 2 (K' · H)) fun t119 =>
 aPure H (fun K' => K' t117 H) fun t7 =>
 aPure H (fun K' => K' t118 H) fun t8 =>
 aPure H (fun K' => K' t119 H) fun t9 =>
 aUn .not t9 fun t121 =>
 aGuardJ t121 false H (fun K' => K' t7 H) fun t123 H =>
 aGuardJ t121 false H (fun K' => aFld 1 t3 (K' · H)) fun t124 H =>
 aGuardJ t121 false H (fun K' => aLoad false 1 t124 H (K' · H)) fun t125 H =>
 aGuardJ t121 false H (fun K' => aBin .neq false t123 t125 (K' · H)) fun t126 H =>
 aPick t121 (.bool true) t126 fun t127 =>
 aTest t127
 (aNil t0 fun t129 =>
 aFld 3 t129 fun t130 =>
 aStore 1 t130 (.bool true) H fun H =>
 aBuild [(.int .i64 0), (.int .i64 0), .snil] [(0, 1), (1, 1), (2, 1)] [] fun t131 =>
 aStore 3 t4 t131 H fun H =>
 aLoad true 3 t4 H fun r0 =>
 K r0 H)
 (aPure H (fun K' => K' t0 H) fun t133 =>
 aPure H (fun K' => aNil t133 (K' · H)) fun t134 =>
 aPure H (fun K' => aFld 0 t134 (K' · H)) fun t135 =>
 aPure H (fun K' => aLoadC false 1 t135 H (K' · H)) fun t136 =>
 aPure H (fun K' => aLoadC true 3 t3 H (K' · H)) fun t137 =>
 aPure H (fun K' => K' t8 H) fun t138 =>
 aPureX H (fun H K' => ACalls Tryz.prog n_zq96 [t136, t137, t138] H K') fun t139 =>
 aPure H (fun K' => K' t139 H) fun t132 =>
 aPure H (fun K' => aExt t132 0 (K' · H)) fun t140 =>
 aPure H (fun K' => aExt t132 1 (K' · H)) fun t141 =>
 aPure H (fun K' => K' t140 H) fun t10 =>
 aPure H (fun K' => K' t141 H) fun t9 =>
 aUn .not t9 fun t143 =>
 aTest t143
 (aNil t0 fun t145 =>
 aFld 3 t145 fun t146 =>
 aStore 1 t146 (.bool true) H fun H =>
 aBuild [(.int .i64 0), (.int .i64 0), .snil] [(0, 1), (1, 1), (2, 1)] [] fun t147 =>
 aStore 3 t4 t147 H fun H =>
 aLoad true 3 t4 H fun r0 =>
 K r0 H)
 (aBuild [(.int .i64 0), (.int .i64 0), .snil] [(0, 1), (1, 1), (2, 1)] [(0, (.int .i64 5)), (1, t8)] fun t149 =>
 aNew [(.int .i64 0), (.int .i64 0), .snil] H fun t11 H =>
 aStore 3 t11 t149 H fun H =>
 aLen 1 t10 fun t151 =>
 aBin .gtr false t151 (.int .i64 0) fun t152 =>
 aTest t152
 (ACalls Tryz.prog n_zq132 [t0, (.str [40])] H fun t154 H =>
 ACalls Tryz.prog n_zq135 [t0, t10] H fun t157 H =>
 aFld 2 t11 fun t158 =>
 aStore 1 t158 t157 H fun H =>
 ACalls Tryz.prog n_zq132 [t0, (.str [41])] H fun t160 H =>
 zq72_j5 t4 t11 H K)
 (zq72_j5 t4 t11 H K))))
def zq72_fr51 (t0 t3 t4 t13 : AV) : List AV := t0 :: ux 2 (t3 :: t4 :: ux 8 (t13 :: ux 200 []))
def zq72_m51 : List Bool := zq72_M 51
noncomputable def zq72_c51 : Code := codeAt [1, 1, 1, 1, 0, 1, 0, 1, 1, 1, 1, 1, 1, 1, 1, 1, 1, 1, 1, 1, 0, 1, 1, 1, 1, 0, 0, 0] zq72_c
def zq72_Q51 (K : Kt) : AExit → List AV → Heap → Prop := contAt Tryz.prog zq72_M [1, 1, 1, 1, 0, 1, 0, 1, 1, 1, 1, 1, 1, 1, 1, 1, 1, 1, 1, 1, 0, 1, 1, 1, 1, 0, 0] zq72_c (retQ Tryz.prog zq72_r K)
def zq72_l51 (t0 t3 t4 t13 : AV) (H : Heap) (K : Kt) : Prop := ALoop Tryz.prog zq72_c51 (zq72_Q51 K) (zq72_fr51 t0 t3 t4 t13) H
noncomputable def zq72_o52 : Array Oper := opsIn (codeAt [1, 0] zq72_c51)
def zq72_b51 (t0 t3 t4 t13 : AV) (H : Heap) (K : Kt) (Kb51 : Lt) : Prop :=
 ACalls Tryz.prog n_zq133 [t0, (.str [44, 32])] H fun t194 H =>
 aTest t194
 (Go.Abs.runT Tryz.prog zq72_o52 (fun F H => Kb51 (mask zq72_m51 F) H) 12 (tailL 0 12) (t0 :: ux 2 (t3 :: t4 :: ux 8 (t13 :: ux 179 (t0 :: t194 :: ux 19 [])))) H)
 (ACalls Tryz.prog n_zq132 [t0, (.str [93])] H fun t207 H =>
 aLoad true 3 t13 H fun t208 =>
 aStore 3 t4 t208 H fun H =>
 aLoad true 3 t4 H fun r0 =>
 K r0 H)
noncomputable def zq72_o50 : Array Oper := opsIn (codeAt [1, 1, 1, 1, 0, 1, 0, 1, 1, 1, 1, 1, 1, 1, 1, 1, 1, 1, 1, 1, 0, 1, 1, 1, 0] zq72_c)
noncomputable def zq72_j4_c : Code := codeAt [1, 1, 1, 1, 0, 1, 0, 1, 1, 1, 1, 1, 1, 1] zq72_c
def zq72_j4_Q (K : Kt) : AExit → List AV → Heap → Prop := contAt Tryz.prog zq72_M [1, 1, 1, 1, 0, 1, 0, 1, 1, 1, 1, 1, 1, 1] zq72_c (retQ Tryz.prog zq72_r K)
def zq72_j4 (t0 t3 t4 t35 t54 : AV) (H : Heap) (K : Kt) : Prop := AWp Tryz.prog zq72_j4_c (zq72_j4_Q K) (t0 :: ux 2 (t3 :: t4 :: ux 30 (t35 :: ux 18 (t54 :: ux 159 [])))) H
def zq72_j4b (t0 t3 t4 t35 t54 : AV) (H : Heap) (K : Kt) : Prop :=
 aTest t54
 (ACalls Tryz.prog n_zq132 [t0, (.str [40])] H fun t57 H =>
 aFld 2 t3 fun t59 =>
 aLoad false 1 t59 H fun t60 =>
 ACalls Tryz.prog n_zq135 [t0, t60] H fun t61 H =>
 aBuild [(.int .i64 0), (.int .i64 0), .snil] [(0, 1), (1, 1), (2, 1)] [(0, (.int .i64 4)), (2, t61)] fun t62 =>
 aNew [(.int .i64 0), (.int .i64 0), .snil] H fun t5 H =>
 aStore 3 t5 t62 H fun H =>
 ACalls Tryz.prog n_zq132 [t0, (.str [41])] H fun t64 H =>
 aLoad true 3 t5 H fun t65 =>
 aStore 3 t4 t65 H fun H =>
 aLoad true 3 t4 H fun r0 =>
 K r0 H)
 (aBin .eql false t35 (.int .i64 5) fun t67 =>
 aTest t67
 (aNil t0 fun t69 =>
 aFld 2 t69 fun t70 =>
 aLoad false 1 t70 H fun t71 =>
 zq72_l24 t0 t3 t4 t71 H K)
 (aBin .eql false t35 (.int .i64 8) fun t163 =>
 aTest t163
 (ACalls Tryz.prog n_zq132 [t0, (.str [114, 101, 102, 40])] H fun t165 H =>
 aFld 2 t3 fun t167 =>
 aLoad false 1 t167 H fun t168 =>
 ACalls Tryz.prog n_zq135 [t0, t168] H fun t169 H =>
 aBuild [(.int .i64 0), (.int .i64 0), .snil] [(0, 1), (1, 1), (2, 1)] [(0, (.int .i64 7)), (2, t169)] fun t170 =>
 aNew [(.int .i64 0), (.int .i64 0), .snil] H fun t12 H =>
 aStore 3 t12 t170 H fun H =>
 ACalls Tryz.prog n_zq132 [t0, (.str [41])] H fun t172 H =>
 aLoad true 3 t12 H fun t173 =>
 aStore 3 t4 t173 H fun H =>
 aLoad true 3 t4 H fun r0 =>
 K r0 H)
 (aBin .eql false t35 (.int .i64 7) fun t175 =>
 aTest t175
 (aBuild [(.int .i64 0), (.int .i64 0), .snil] [(0, 1), (1, 1), (2, 1)] [(0, (.int .i64 6))] fun t176 =>
 aNew [(.int .i64 0), (.int .i64 0), .snil] H fun t13 H =>
 aStore 3 t13 t176 H fun H =>
 ACalls Tryz.prog n_zq132 [t0, (.str [91])] H fun t178 H =>
 ACalls Tryz.prog n_zq133 [t0, (.str [93])] H fun t180 H =>
 aTest t180
 (aLoad true 3 t13 H fun t181 =>
 aStore 3 t4 t181 H fun H =>
 aLoad true 3 t4 H fun r0 =>
 K r0 H)
 (Go.Abs.runT Tryz.prog zq72_o50 (fun F H => ALoop Tryz.prog zq72_c51 (zq72_Q51 K) (mask zq72_m51 F) H) 12 (tailL 0 12) (t0 :: ux 2 (t3 :: t4 :: ux 8 (t13 :: ux 21 (t35 :: ux 18 (t54 :: ux 11 (t67 :: t67 :: ux 94 (t163 :: t163 :: ux 10 (t175 :: t175 :: t176 :: t0 :: t178 :: t0 :: t180 :: ux 33 [])))))))) H))
 (ACalls Tryz.prog n_zq132 [t0, (.str [102, 110, 35])] H fun t210 H =>
 ACalls Tryz.prog n_zq134 [t0] H fun t212 H =>
 aBuild [(.int .i64 0), (.int .i64 0), .snil] [(0, 1), (1, 1), (2, 1)] [(0, (.int .i64 8)), (1, t212)] fun t213 =>
 aStore 3 t4 t213 H fun H =>
 aLoad true 3 t4 H fun r0 =>
 K r0 H))))
noncomputable def zq72_j3_c : Code := codeAt [1, 1, 1, 1] zq72_c
def zq72_j3_Q (K : Kt) : AExit → List AV → Heap → Prop := contAt Tryz.prog zq72_M [1, 1, 1, 1] zq72_c (retQ Tryz.prog zq72_r K)
def zq72_j3 (t0 t3 t4 : AV) (H : Heap) (K : Kt) : Prop := AWp Tryz.prog zq72_j3_c (zq72_j3_Q K) (t0 :: ux 2 (t3 :: t4 :: ux 209 [])) H
def zq72_j3b (t0 t3 t4 : AV) (H : Heap) (K : Kt) : Prop :=
 aFld 0 t3 fun t34 =>
 aLoad false 1 t34 H fun t35 =>
 aBin .eql false t35 (.int .i64 3) fun t37 =>
 aTest t37
 (ACalls Tryz.prog n_zq132 [t0, (.str [40, 41])] H fun t39 H =>
 aBuild [(.int .i64 0), (.int .i64 0), .snil] [(0, 1), (1, 1), (2, 1)] [(0, (.int .i64 1))] fun t40 =>
 aStore 3 t4 t40 H fun H =>
 aLoad true 3 t4 H fun r0 =>
 K r0 H)
 (aBin .eql false t35 (.int .i64 2) fun t42 =>
 aTest t42
 (ACalls Tryz.prog n_zq133 [t0, (.str [116, 114, 117, 101])] H fun t44 H =>
 aTest t44
 (aBuild [(.int .i64 0), (.int .i64 0), .snil] [(0, 1), (1, 1), (2, 1)] [(0, (.int .i64 2)), (1, (.int .i64 1))] fun t45 =>
 aStore 3 t4 t45 H fun H =>
 aLoad true 3 t4 H fun r0 =>
 K r0 H)
 (ACalls Tryz.prog n_zq132 [t0, (.str [102, 97, 108, 115, 101])] H fun t47 H =>
 aBuild [(.int .i64 0), (.int .i64 0), .snil] [(0, 1), (1, 1), (2, 1)] [(0, (.int .i64 2))] fun t48 =>
 aStore 3 t4 t48 H fun H =>
 aLoad true 3 t4 H fun r0 =>
 K r0 H))
 (aBin .eql false t35 (.int .i64 1) fun t50 =>
 aTest t50
 (ACalls Tryz.prog n_zq134 [t0] H fun t52 H =>
 aBuild [(.int .i64 0), (.int .i64 0), .snil] [(0, 1), (1, 1), (2, 1)] [(0, (.int .i64 3)), (1, t52)] fun t53 =>
 aStore 3 t4 t53 H fun H =>
 aLoad true 3 t4 H fun r0 =>
 K r0 H)
 (aBin .eql false t35 (.int .i64 6) fun t55 =>
 zq72_j4 t0 t3 t4 t35 t55 H K)))
noncomputable def zq72_j2_c : Code := codeAt [1, 1, 1] zq72_c
def zq72_j2_Q (K : Kt) : AExit → List AV → Heap → Prop := contAt Tryz.prog zq72_M [1, 1, 1] zq72_c (retQ Tryz.prog zq72_r K)
def zq72_j2 (t0 t3 t4 : AV) (H : Heap) (K : Kt) : Prop := AWp Tryz.prog zq72_j2_c (zq72_j2_Q K) (t0 :: ux 2 (t3 :: t4 :: ux 209 [])) H
def zq72_j2b (t0 t3 t4 : AV) (H : Heap) (K : Kt) : Prop :=
 aNil t0 fun t30 =>
 aFld 3 t30 fun t31 =>
 aLoad false 1 t31 H fun t32 =>
 aTest t32
 (aBuild [(.int .i64 0), (.int .i64 0), .snil] [(0, 1), (1, 1), (2, 1)] [] fun t33 =>
 aStore 3 t4 t33 H fun H =>
 aLoad true 3 t4 H fun r0 =>
 K r0 H)
 (zq72_j3 t0 t3 t4 H K)
noncomputable def zq72_j1_c : Code := codeAt [1, 1] zq72_c
def zq72_j1_Q (K : Kt) : AExit → List AV → Heap → Prop := contAt Tryz.prog zq72_M [1, 1] zq72_c (retQ Tryz.prog zq72_r K)
def zq72_j1 (t0 t3 t4 : AV) (H : Heap) (K : Kt) : Prop := AWp Tryz.prog zq72_j1_c (zq72_j1_Q K) (t0 :: ux 2 (t3 :: t4 :: ux 209 [])) H
def zq72_j1b (t0 t3 t4 : AV) (H : Heap) (K : Kt) : Prop :=
 aNil t0 fun t22 =>
 aFld 4 t22 fun t23 =>
 aLoad false 1 t23 H fun t24 =>
 aBin .lss false t24 (.int .i64 0) fun t25 =>
 aTest t25
 (aNil t0 fun t27 =>
 aFld 3 t27 fun t28 =>
 aStore 1 t28 (.bool true) H fun H =>
 zq72_j2 t0 t3 t4 H K)
 (zq72_j2 t0 t3 t4 H K)
def zq72 (t0 t1 : AV) (H : Heap) (K : Kt) : Prop :=
 aBox t1 H fun t3 H =>
 aNew [(.int .i64 0), (.int .i64 0), .snil] H fun t4 H =>
 aNil t0 fun t15 =>
 aFld 4 t15 fun t16 =>
 aLoad false 1 t16 H fun t17 =>
 aBin .sub false t17 (.int .i64 1) fun t18 =>
 aNil t0 fun t19 =>
 aFld 4 t19 fun t20 =>
 aStore 1 t20 t18 H fun H =>
 zq72_j1 t0 t3 t4 H K
theorem zq72_b24_eq (t0 t3 t4 t6 : AV) (H : Heap) (K : Kt) (Kb24 : Lt) : awp Tryz.prog zq72_M zq72_c24 (roundQ zq72_m24 Kb24 (zq72_Q24 K)) (zq72_fr24 t0 t3 t4 t6) H = zq72_b24 t0 t3 t4 t6 H K Kb24 := by kernel_rfl
theorem zq72_loop24 {t0 t3 t4 t6 : AV} {H : Heap} {K : Kt} (Inv : Nat → Heap → Prop) (n : Nat) (h0 : HSc H → Inv n H)
  (round : ∀ n H', Inv n H' → HSc H' → H.length ≤ H'.length → (zq72_fr24 t0 t3 t4 t6).all (AV.sc H'.length) = true → ∀ Kb24 : Lt, (∀ F'' H'', (∃ n', n' < n ∧ Back H.length (fun F2 H2 => F2 = zq72_fr24 t0 t3 t4 t6 ∧ Inv n' H2) F'' H'') → Kb24 F'' H'') → zq72_b24 t0 t3 t4 t6 H' K Kb24) : zq72_l24 t0 t3 t4 t6 H K :=
 aloop (M := zq72_M) zq72_m24 (fun n F H => F = zq72_fr24 t0 t3 t4 t6 ∧ Inv n H) n (fun hs _ => ⟨rfl, h0 hs⟩) (fun n F H' ⟨hF, hI⟩ h1 h2 h3 => by subst hF; rw [zq72_b24_eq]; exact round n H' hI h1 h2 h3 _ (fun _ _ h => h))
theorem zq72_s52 (t0 t3 t4 t13 t194 : AV) (H : Heap) (KF : List AV → Heap → Prop) : runS Tryz.prog zq72_o52 KF 12 (tailL 0 12) (t0 :: ux 2 (t3 :: t4 :: ux 8 (t13 :: ux 179 (t0 :: t194 :: ux 19 [])))) H = (
 aFld 2 t13 fun t195 =>
 aFld 2 t3 fun t198 =>
 (aLoad false 1 t195 H fun t196 =>
 aLoad false 1 t198 H fun t199 =>
 aIdxA 3 t199 (.int .i64 0) fun t200 =>
 aLoad true 3 t200 H fun t201 =>
 ACalls Tryz.prog n_zq72 [t0, t201] H fun t202 H =>
 aBuildS 3 [(.int .i64 0), (.int .i64 0), .snil] 1 [(0, t202)] fun t203 =>
 aAppend e_api_Value 3 40 t196 t203 H fun t204 H =>
 aFld 2 t13 fun t205 =>
 aStore 1 t205 t204 H fun H =>
 KF (t0 :: ux 2 (t3 :: t4 :: ux 8 (t13 :: ux 179 (t0 :: t194 :: t195 :: t196 :: t0 :: t198 :: t199 :: t200 :: t201 :: t202 :: t203 :: t204 :: t205 :: ux 8 [])))) H) ∧ (aLoad false 1 t198 H fun t199 =>
 (aLoad false 1 t195 H fun t196 =>
 aIdxA 3 t199 (.int .i64 0) fun t200 =>
 aLoad true 3 t200 H fun t201 =>
 ACalls Tryz.prog n_zq72 [t0, t201] H fun t202 H =>
 aBuildS 3 [(.int .i64 0), (.int .i64 0), .snil] 1 [(0, t202)] fun t203 =>
 aAppend e_api_Value 3 40 t196 t203 H fun t204 H =>
 aFld 2 t13 fun t205 =>
 aStore 1 t205 t204 H fun H =>
 KF (t0 :: ux 2 (t3 :: t4 :: ux 8 (t13 :: ux 179 (t0 :: t194 :: t195 :: t196 :: t0 :: t198 :: t199 :: t200 :: t201 :: t202 :: t203 :: t204 :: t205 :: ux 8 [])))) H) ∧ (aIdxA 3 t199 (.int .i64 0) fun t200 =>
 (aLoad false 1 t195 H fun t196 =>
 aLoad true 3 t200 H fun t201 =>
 ACalls Tryz.prog n_zq72 [t0, t201] H fun t202 H =>
 aBuildS 3 [(.int .i64 0), (.int .i64 0), .snil] 1 [(0, t202)] fun t203 =>
 aAppend e_api_Value 3 40 t196 t203 H fun t204 H =>
 aFld 2 t13 fun t205 =>
 aStore 1 t205 t204 H fun H =>
 KF (t0 :: ux 2 (t3 :: t4 :: ux 8 (t13 :: ux 179 (t0 :: t194 :: t195 :: t196 :: t0 :: t198 :: t199 :: t200 :: t201 :: t202 :: t203 :: t204 :: t205 :: ux 8 [])))) H) ∧ (aLoad true 3 t200 H fun t201 =>
 (aLoad false 1 t195 H fun t196 =>
 ACalls Tryz.prog n_zq72 [t0, t201] H fun t202 H =>
 aBuildS 3 [(.int .i64 0), (.int .i64 0), .snil] 1 [(0, t202)] fun t203 =>
 aAppend e_api_Value 3 40 t196 t203 H fun t204 H =>
 aFld 2 t13 fun t205 =>
 aStore 1 t205 t204 H fun H =>
 KF (t0 :: ux 2 (t3 :: t4 :: ux 8 (t13 :: ux 179 (t0 :: t194 :: t195 :: t196 :: t0 :: t198 :: t199 :: t200 :: t201 :: t202 :: t203 :: t204 :: t205 :: ux 8 [])))) H) ∧ (ACalls Tryz.prog n_zq72 [t0, t201] H fun t202 H =>
 (aLoad false 1 t195 H fun t196 =>
 aBuildS 3 [(.int .i64 0), (.int .i64 0), .snil] 1 [(0, t202)] fun t203 =>
 aAppend e_api_Value 3 40 t196 t203 H fun t204 H =>
 aFld 2 t13 fun t205 =>
 aStore 1 t205 t204 H fun H =>
 KF (t0 :: ux 2 (t3 :: t4 :: ux 8 (t13 :: ux 179 (t0 :: t194 :: t195 :: t196 :: t0 :: t198 :: t199 :: t200 :: t201 :: t202 :: t203 :: t204 :: t205 :: ux 8 [])))) H) ∧ (aBuildS 3 [(.int .i64 0), (.int .i64 0), .snil] 1 [(0, t202)] fun t203 =>
 aLoad false 1 t195 H fun t196 =>
 aAppend e_api_Value 3 40 t196 t203 H fun t204 H =>
 aFld 2 t13 fun t205 =>
 aStore 1 t205 t204 H fun H =>
 KF (t0 :: ux 2 (t3 :: t4 :: ux 8 (t13 :: ux 179 (t0 :: t194 :: t195 :: t196 :: t0 :: t198 :: t199 :: t200 :: t201 :: t202 :: t203 :: t204 :: t205 :: ux 8 [])))) H)))))) := by kernel_rfl
theorem zq72_y52 : okS zq72_o52 = true := by kernel_rfl
theorem zq72_b51_eq (t0 t3 t4 t13 : AV) (H : Heap) (K : Kt) (Kb51 : Lt) : awp Tryz.prog zq72_M zq72_c51 (roundQ zq72_m51 Kb51 (zq72_Q51 K)) (zq72_fr51 t0 t3 t4 t13) H = zq72_b51 t0 t3 t4 t13 H K Kb51 := by kernel_rfl
theorem zq72_loop51 {t0 t3 t4 t13 : AV} {H : Heap} {K : Kt} (Inv : Nat → Heap → Prop) (n : Nat) (h0 : HSc H → Inv n H)
  (round : ∀ n H', Inv n H' → HSc H' → H.length ≤ H'.length → (zq72_fr51 t0 t3 t4 t13).all (AV.sc H'.length) = true → ∀ Kb51 : Lt, (∀ F'' H'', (∃ n', n' < n ∧ Back H.length (fun F2 H2 => F2 = zq72_fr51 t0 t3 t4 t13 ∧ Inv n' H2) F'' H'') → Kb51 F'' H'') → zq72_b51 t0 t3 t4 t13 H' K Kb51) : zq72_l51 t0 t3 t4 t13 H K :=
 aloop (M := zq72_M) zq72_m51 (fun n F H => F = zq72_fr51 t0 t3 t4 t13 ∧ Inv n H) n (fun hs _ => ⟨rfl, h0 hs⟩) (fun n F H' ⟨hF, hI⟩ h1 h2 h3 => by subst hF; rw [zq72_b51_eq]; exact round n H' hI h1 h2 h3 _ (fun _ _ h => h))
theorem zq72_s50 (t0 t3 t4 t13 t35 t54 t67 t163 t175 t176 t178 t180 : AV) (H : Heap) (KF : List AV → Heap → Prop) : runS Tryz.prog zq72_o50 KF 12 (tailL 0 12) (t0 :: ux 2 (t3 :: t4 :: ux 8 (t13 :: ux 21 (t35 :: ux 18 (t54 :: ux 11 (t67 :: t67 :: ux 94 (t163 :: t163 :: ux 10 (t175 :: t175 :: t176 :: t0 :: t178 :: t0 :: t180 :: ux 33 [])))))))) H = (
 aFld 2 t13 fun t182 =>
 aFld 2 t3 fun t185 =>
 (aLoad false 1 t182 H fun t183 =>
 aLoad false 1 t185 H fun t186 =>
 aIdxA 3 t186 (.int .i64 0) fun t187 =>
 aLoad true 3 t187 H fun t188 =>
 ACalls Tryz.prog n_zq72 [t0, t188] H fun t189 H =>
 aBuildS 3 [(.int .i64 0), (.int .i64 0), .snil] 1 [(0, t189)] fun t190 =>
 aAppend e_api_Value 3 40 t183 t190 H fun t191 H =>
 aFld 2 t13 fun t192 =>
 aStore 1 t192 t191 H fun H =>
 KF (t0 :: ux 2 (t3 :: t4 :: ux 8 (t13 :: ux 21 (t35 :: ux 18 (t54 :: ux 11 (t67 :: t67 :: ux 94 (t163 :: t163 :: ux 10 (t175 :: t175 :: t176 :: t0 :: t178 :: t0 :: t180 :: ux 1 (t182 :: t183 :: t0 :: t185 :: t186 :: t187 :: t188 :: t189 :: t190 :: t191 :: t192 :: ux 21 []))))))))) H) ∧ (aLoad false 1 t185 H fun t186 =>
 (aLoad false 1 t182 H fun t183 =>
 aIdxA 3 t186 (.int .i64 0) fun t187 =>
 aLoad true 3 t187 H fun t188 =>
 ACalls Tryz.prog n_zq72 [t0, t188] H fun t189 H =>
 aBuildS 3 [(.int .i64 0), (.int .i64 0), .snil] 1 [(0, t189)] fun t190 =>
 aAppend e_api_Value 3 40 t183 t190 H fun t191 H =>
 aFld 2 t13 fun t192 =>
 aStore 1 t192 t191 H fun H =>
 KF (t0 :: ux 2 (t3 :: t4 :: ux 8 (t13 :: ux 21 (t35 :: ux 18 (t54 :: ux 11 (t67 :: t67 :: ux 94 (t163 :: t163 :: ux 10 (t175 :: t175 :: t176 :: t0 :: t178 :: t0 :: t180 :: ux 1 (t182 :: t183 :: t0 :: t185 :: t186 :: t187 :: t188 :: t189 :: t190 :: t191 :: t192 :: ux 21 []))))))))) H) ∧ (aIdxA 3 t186 (.int .i64 0) fun t187 =>
 (aLoad false 1 t182 H fun t183 =>
 aLoad true 3 t187 H fun t188 =>
 ACalls Tryz.prog n_zq72 [t0, t188] H fun t189 H =>
 aBuildS 3 [(.int .i64 0), (.int .i64 0), .snil] 1 [(0, t189)] fun t190 =>
 aAppend e_api_Value 3 40 t183 t190 H fun t191 H =>
 aFld 2 t13 fun t192 =>
 aStore 1 t192 t191 H fun H =>
 KF (t0 :: ux 2 (t3 :: t4 :: ux 8 (t13 :: ux 21 (t35 :: ux 18 (t54 :: ux 11 (t67 :: t67 :: ux 94 (t163 :: t163 :: ux 10 (t175 :: t175 :: t176 :: t0 :: t178 :: t0 :: t180 :: ux 1 (t182 :: t183 :: t0 :: t185 :: t186 :: t187 :: t188 :: t189 :: t190 :: t191 :: t192 :: ux 21 []))))))))) H) ∧ (aLoad true 3 t187 H fun t188 =>
 (aLoad false 1 t182 H fun t183 =>
 ACalls Tryz.prog n_zq72 [t0, t188] H fun t189 H =>
 aBuildS 3 [(.int .i64 0), (.int .i64 0), .snil] 1 [(0, t189)] fun t190 =>
 aAppend e_api_Value 3 40 t183 t190 H fun t191 H =>
 aFld 2 t13 fun t192 =>
 aStore 1 t192 t191 H fun H =>
 KF (t0 :: ux 2 (t3 :: t4 :: ux 8 (t13 :: ux 21 (t35 :: ux 18 (t54 :: ux 11 (t67 :: t67 :: ux 94 (t163 :: t163 :: ux 10 (t175 :: t175 :: t176 :: t0 :: t178 :: t0 :: t180 :: ux 1 (t182 :: t183 :: t0 :: t185 :: t186 :: t187 :: t188 :: t189 :: t190 :: t191 :: t192 :: ux 21 []))))))))) H) ∧ (ACalls Tryz.prog n_zq72 [t0, t188] H fun t189 H =>
 (aLoad false 1 t182 H fun t183 =>
 aBuildS 3 [(.int .i64 0), (.int .i64 0), .snil] 1 [(0, t189)] fun t190 =>
 aAppend e_api_Value 3 40 t183 t190 H fun t191 H =>
 aFld 2 t13 fun t192 =>
 aStore 1 t192 t191 H fun H =>
 KF (t0 :: ux 2 (t3 :: t4 :: ux 8 (t13 :: ux 21 (t35 :: ux 18 (t54 :: ux 11 (t67 :: t67 :: ux 94 (t163 :: t163 :: ux 10 (t175 :: t175 :: t176 :: t0 :: t178 :: t0 :: t180 :: ux 1 (t182 :: t183 :: t0 :: t185 :: t186 :: t187 :: t188 :: t189 :: t190 :: t191 :: t192 :: ux 21 []))))))))) H) ∧ (aBuildS 3 [(.int .i64 0), (.int .i64 0), .snil] 1 [(0, t189)] fun t190 =>
 aLoad false 1 t182 H fun t183 =>
 aAppend e_api_Value 3 40 t183 t190 H fun t191 H =>
 aFld 2 t13 fun t192 =>
 aStore 1 t192 t191 H fun H =>
 KF (t0 :: ux 2 (t3 :: t4 :: ux 8 (t13 :: ux 21 (t35 :: ux 18 (t54 :: ux 11 (t67 :: t67 :: ux 94 (t163 :: t163 :: ux 10 (t175 :: t175 :: t176 :: t0 :: t178 :: t0 :: t180 :: ux 1 (t182 :: t183 :: t0 :: t185 :: t186 :: t187 :: t188 :: t189 :: t190 :: t191 :: t192 :: ux 21 []))))))))) H)))))) := by kernel_rfl
theorem zq72_y50 : okS zq72_o50 = true := by kernel_rfl
theorem zq72_j4_eq (t0 t3 t4 t35 t54 : AV) (H : Heap) (K : Kt) : awp Tryz.prog zq72_M zq72_j4_c (zq72_j4_Q K) (t0 :: ux 2 (t3 :: t4 :: ux 30 (t35 :: ux 18 (t54 :: ux 159 [])))) H = zq72_j4b t0 t3 t4 t35 t54 H K := by kernel_rfl
theorem zq72_j4_ok {t0 t3 t4 t35 t54 : AV} {H : Heap} {K : Kt} (h : HSc H → zq72_j4b t0 t3 t4 t35 t54 H K) : zq72_j4 t0 t3 t4 t35 t54 H K :=
 fun B w G a hH hF hd => awp_sound (M := zq72_M) _ _ _ _ ((zq72_j4_eq t0 t3 t4 t35 t54 H K).mpr (h hH.sc)) B w G a hH hF hd
theorem zq72_j3_eq (t0 t3 t4 : AV) (H : Heap) (K : Kt) : awp Tryz.prog zq72_M zq72_j3_c (zq72_j3_Q K) (t0 :: ux 2 (t3 :: t4 :: ux 209 [])) H = zq72_j3b t0 t3 t4 H K := by kernel_rfl
theorem zq72_j3_ok {t0 t3 t4 : AV} {H : Heap} {K : Kt} (h : HSc H → zq72_j3b t0 t3 t4 H K) : zq72_j3 t0 t3 t4 H K :=
 fun B w G a hH hF hd => awp_sound (M := zq72_M) _ _ _ _ ((zq72_j3_eq t0 t3 t4 H K).mpr (h hH.sc)) B w G a hH hF hd
theorem zq72_j2_eq (t0 t3 t4 : AV) (H : Heap) (K : Kt) : awp Tryz.prog zq72_M zq72_j2_c (zq72_j2_Q K) (t0 :: ux 2 (t3 :: t4 :: ux 209 [])) H = zq72_j2b t0 t3 t4 H K := by kernel_rfl
theorem zq72_j2_ok {t0 t3 t4 : AV} {H : Heap} {K : Kt} (h : HSc H → zq72_j2b t0 t3 t4 H K) : zq72_j2 t0 t3 t4 H K :=
 fun B w G a hH hF hd => awp_sound (M := zq72_M) _ _ _ _ ((zq72_j2_eq t0 t3 t4 H K).mpr (h hH.sc)) B w G a hH hF hd
theorem zq72_j1_eq (t0 t3 t4 : AV) (H : Heap) (K : Kt) : awp Tryz.prog zq72_M zq72_j1_c (zq72_j1_Q K) (t0 :: ux 2 (t3 :: t4 :: ux 209 [])) H = zq72_j1b t0 t3 t4 H K := by kernel_rfl
theorem zq72_j1_ok {t0 t3 t4 : AV} {H : Heap} {K : Kt} (h : HSc H → zq72_j1b t0 t3 t4 H K) : zq72_j1 t0 t3 t4 H K :=
 fun B w G a hH hF hd => awp_sound (M := zq72_M) _ _ _ _ ((zq72_j1_eq t0 t3 t4 H K).mpr (h hH.sc)) B w G a hH hF hd
theorem zq72_eq (t0 t1 : AV) (H : Heap) (K : Kt) : awp Tryz.prog zq72_M zq72_c (retQ Tryz.prog zq72_r K) (t0 :: t1 :: List.replicate 212 .unk) H = zq72 t0 t1 H K := by kernel_rfl
theorem zq72_ok {t0 t1 : AV} {H : Heap} {K : Kt} (h : HSc H → zq72 t0 t1 H K) : ACalls Tryz.prog n_zq72 [t0, t1] H K :=
 acalls_body (M := zq72_M) Tryz.func74 (c := zq72_c) (by kernel_rfl) (fun hs => (zq72_eq t0 t1 H K).mpr (h hs))
def zq124_M : Nat → List Bool
 | 2 => rl false [0,2,5,1,30]
 | 5 => rl false [0,2,5,2,29]
 | _ => []
noncomputable def zq124_c : Code := Tryz.f126.body.getD .skip
noncomputable def zq124_r : List ResultVar := Tryz.f126.results.toList
def zq124_fr2 (t0 t1 t7 : AV) : List AV := t0 :: t1 :: ux 5 (t7 :: ux 30 [])
def zq124_m2 : List Bool := zq124_M 2
noncomputable def zq124_c2 : Code := codeAt [1, 0, 1, 0, 0] zq124_c
def zq124_Q2 (K : Kt) : AExit → List AV → Heap → Prop := contAt Tryz.prog zq124_M [1, 0, 1, 0] zq124_c (retQ Tryz.prog zq124_r K)
def zq124_l2 (t0 t1 t7 : AV) (H : Heap) (K : Kt) : Prop := ALoop Tryz.prog zq124_c2 (zq124_Q2 K) (zq124_fr2 t0 t1 t7) H
def zq124_fr5 (t0 t1 t7 t8 : AV) : List AV := t0 :: t1 :: ux 5 (t7 :: t8 :: ux 29 [])
def zq124_m5 : List Bool := zq124_M 5
noncomputable def zq124_c5 : Code := codeAt [1, 0, 0, 1, 0, 0] zq124_c2
def zq124_Q5 (K : Kt) (Kb2 : Lt) : AExit → List AV → Heap → Prop := contAt Tryz.prog zq124_M [1, 0, 0, 1, 0] zq124_c2 (roundQ zq124_m2 Kb2 (zq124_Q2 K))
def zq124_l5 (t0 t1 t7 t8 : AV) (H : Heap) (K : Kt) (Kb2 : Lt) : Prop := ALoop Tryz.prog zq124_c5 (zq124_Q5 K Kb2) (zq124_fr5 t0 t1 t7 t8) H
def zq124_b5 (t0 t1 t7 t8 : AV) (H : Heap) (K : Kt) (Kb2 : Lt) (Kb5 : Lt) : Prop :=
 aIdxA 3 t0 t7 fun t18 =>
 aFld 2 t18 fun t19 =>
 aLoad false 1 t19 H fun t20 =>
 aLen 1 t20 fun t21 =>
 aBin .lss false t8 t21 fun t22 =>
 aTest t22
 (aIdxA 3 t0 t7 fun t27 =>
 aFld 2 t27 fun t28 =>
 aLoad false 1 t28 H fun t29 =>
 aIdxA 2 t29 t8 fun t31 =>
 aFld 0 t31 fun t32 =>
 aLoad false 1 t32 H fun t33 =>
 aBin .eql false t33 t1 fun t35 =>
 aTest t35
 (aRet [t7, t8, (.bool true)] (K · H))
 (aBin .add false t8 (.int .i64 1) fun t24 =>
 Kb5 (zq124_fr5 t0 t1 t7 t24) H))
 (aBin .add false t7 (.int .i64 1) fun t14 =>
 Kb2 (zq124_fr2 t0 t1 t14) H)
def zq124_b2 (t0 t1 t7 : AV) (H : Heap) (K : Kt) (Kb2 : Lt) : Prop :=
 aLen 1 t0 fun t11 =>
 aBin .lss false t7 t11 fun t12 =>
 aTest t12
 (zq124_l5 t0 t1 t7 (.int .i64 0) H K Kb2)
 (aRet [(.int .i64 0), (.int .i64 0), (.bool false)] (K · H))
def zq124 (t0 t1 : AV) (H : Heap) (K : Kt) : Prop :=
 zq124_l2 t0 t1 (.int .i64 0) H K
theorem zq124_b5_eq (t0 t1 t7 t8 : AV) (H : Heap) (K : Kt) (Kb2 : Lt) (Kb5 : Lt) : awp Tryz.prog zq124_M zq124_c5 (roundQ zq124_m5 Kb5 (zq124_Q5 K Kb2)) (zq124_fr5 t0 t1 t7 t8) H = zq124_b5 t0 t1 t7 t8 H K Kb2 Kb5 := by kernel_rfl
theorem zq124_loop5 {t0 t1 t7 t8 : AV} {H : Heap} {K : Kt} {Kb2 : Lt} (Inv : Nat → AV → Heap → Prop) (n : Nat) (h0 : HSc H → Inv n t8 H)
  (round : ∀ n t8 H', Inv n t8 H' → HSc H' → H.length ≤ H'.length → (zq124_fr5 t0 t1 t7 t8).all (AV.sc H'.length) = true → ∀ Kb5 : Lt, (∀ F'' H'', (∃ n', n' < n ∧ Back H.length (fun F2 H2 => ∃ t8, F2 = zq124_fr5 t0 t1 t7 t8 ∧ Inv n' t8 H2) F'' H'') → Kb5 F'' H'') → zq124_b5 t0 t1 t7 t8 H' K Kb2 Kb5) : zq124_l5 t0 t1 t7 t8 H K Kb2 :=
 aloop (M := zq124_M) zq124_m5 (fun n F H => ∃ t8, F = zq124_fr5 t0 t1 t7 t8 ∧ Inv n t8 H) n (fun hs _ => ⟨t8, rfl, h0 hs⟩) (fun n F H' ⟨t8, hF, hI⟩ h1 h2 h3 => by subst hF; rw [zq124_b5_eq]; exact round n t8 H' hI h1 h2 h3 _ (fun _ _ h => h))
theorem zq124_b2_eq (t0 t1 t7 : AV) (H : Heap) (K : Kt) (Kb2 : Lt) : awp Tryz.prog zq124_M zq124_c2 (roundQ zq124_m2 Kb2 (zq124_Q2 K)) (zq124_fr2 t0 t1 t7) H = zq124_b2 t0 t1 t7 H K Kb2 := by kernel_rfl
theorem zq124_loop2 {t0 t1 t7 : AV} {H : Heap} {K : Kt} (Inv : Nat → AV → Heap → Prop) (n : Nat) (h0 : HSc H → Inv n t7 H)
  (round : ∀ n t7 H', Inv n t7 H' → HSc H' → H.length ≤ H'.length → (zq124_fr2 t0 t1 t7).all (AV.sc H'.length) = true → ∀ Kb2 : Lt, (∀ F'' H'', (∃ n', n' < n ∧ Back H.length (fun F2 H2 => ∃ t7, F2 = zq124_fr2 t0 t1 t7 ∧ Inv n' t7 H2) F'' H'') → Kb2 F'' H'') → zq124_b2 t0 t1 t7 H' K Kb2) : zq124_l2 t0 t1 t7 H K :=
 aloop (M := zq124_M) zq124_m2 (fun n F H => ∃ t7, F = zq124_fr2 t0 t1 t7 ∧ Inv n t7 H) n (fun hs _ => ⟨t7, rfl, h0 hs⟩) (fun n F H' ⟨t7, hF, hI⟩ h1 h2 h3 => by subst hF; rw [zq124_b2_eq]; exact round n t7 H' hI h1 h2 h3 _ (fun _ _ h => h))
theorem zq124_eq (t0 t1 : AV) (H : Heap) (K : Kt) : awp Tryz.prog zq124_M zq124_c (retQ Tryz.prog zq124_r K) (t0 :: t1 :: List.replicate 36 .unk) H = zq124 t0 t1 H K := by kernel_rfl
theorem zq124_ok {t0 t1 : AV} {H : Heap} {K : Kt} (h : HSc H → zq124 t0 t1 H K) : ACalls Tryz.prog n_zq124 [t0, t1] H K :=
 acalls_body (M := zq124_M) Tryz.func126 (c := zq124_c) (by kernel_rfl) (fun hs => (zq124_eq t0 t1 H K).mpr (h hs))
end Go.Proofs.YtfpmdpldabopjaaGreatDoor
namespace Go.Proofs.YtfpmdpldabopjaaGreatDoor
open Go Go.Abs
set_option maxRecDepth 8000
end Go.Proofs.YtfpmdpldabopjaaGreatDoor
namespace Go.Proofs.YtfpmdpldabopjaaGreatDoor
open Go Go.Abs
def cut (p s : List UInt8) : Option (List UInt8) := if p.isPrefixOf s then some (s.drop p.length) else none
theorem cut_some {p s r : List UInt8} (h : cut p s = some r) : s = p ++ r := by
 unfold cut at h
 split at h
 ·rename_i hp
  obtain ⟨t, rfl⟩ := List.isPrefixOf_iff_prefix.1 hp
  simp at h
  rw [h]
 ·cases h
theorem cut_app (p r : List UInt8) : cut p (p ++ r) = some r := by
 unfold cut
 rw [if_pos (List.isPrefixOf_iff_prefix.2 (List.prefix_append _ _))]
 simp
def conAt : List Dat → Nat → List UInt8 → Option (Nat × Nat)
 | [], _, _ => none
 | D :: l, d, s => match D.cons.findIdx? (fun C => C.name == s) with
  | some c => some (d, c)
  | none => conAt l (d + 1) s
def lookG (data : List Dat) (n : Int) (g : Int → Option (List VT)) (s : List UInt8) : Option (Int × List VT) := match conAt data 0 s with
 | some (d, c) => if (d : Int) = n then (g c).map fun ps => ((c : Int), ps) else none
 | none => none
theorem conAt_some : ∀ {l : List Dat} {d : Nat} {s : List UInt8} {d' c : Nat}, conAt l d s = some (d', c) → d ≤ d' ∧ ∃ (h1 : d' - d < l.length) (h2 : c < (l[d' - d]).cons.length), ((l[d' - d]).cons[c]).name = s
 | [], d, s, d', c, h => by simp [conAt] at h
 | D :: l, d, s, d', c, h => by
  unfold conAt at h
  split at h
  ·rename_i c' hc
   simp only [Option.some.injEq, Prod.mk.injEq] at h
   obtain ⟨rfl, rfl⟩ := h
   obtain ⟨h1, h2, _⟩ := List.findIdx?_eq_some_iff_getElem.1 hc
   refine ⟨Nat.le_refl _, by simp, by simpa using h1, by simpa using h2⟩
  ·obtain ⟨h1, h2, h3, h4⟩ := conAt_some h
   have e : d' - d = (d' - (d + 1)) + 1 := by omega
   refine ⟨by omega, by simp; omega, ?_, ?_⟩
   ·simp only [e, List.getElem_cons_succ]; exact h3
   ·simp only [e, List.getElem_cons_succ]; exact h4
theorem lookG_some {data : List Dat} {k n : Int} {tks : List VT} {g : Int → Option (List VT)} {s : List UInt8} {c : Int} {ps : List VT} (h : lookG data n g s = some (c, ps)) : conName data (.mk k n tks) c = s ∧ g c = some ps := by
 unfold lookG at h
 split at h
 ·rename_i d c' hc
  split at h
  ·rename_i hd
   cases hp : g (c' : Int) with
   | none => rw [hp] at h; cases h
   | some ps' =>
    rw [hp] at h
    simp only [Option.map_some, Option.some.injEq, Prod.mk.injEq] at h
    obtain ⟨rfl, rfl⟩ := h
    refine ⟨?_, hp⟩
    obtain ⟨_, h1, h2, h3⟩ := conAt_some hc
    simp only [Nat.sub_zero] at h1 h2 h3
    subst hd
    simp [conName, VT.num, h1, h2, h3]
  ·cases h
 ·cases h
theorem conAt_hit : ∀ {l : List Dat} {d i c : Nat} (hi : i < l.length) (hc : c < (l[i]).cons.length), (cnames l).Nodup → conAt l d ((l[i]).cons[c]).name = some (d + i, c)
 | [], d, i, c, hi, hc, hn => by simp at hi
 | D :: l, d, 0, c, hi, hc, hn => by
  have hs := (sub_names (D :: l) (List.mem_cons_self)).nodup hn
  have hf : D.cons.findIdx? (fun C => C.name == (D.cons[c]'(by simpa using hc)).name) = some c := by
   rw [List.findIdx?_eq_some_iff_getElem]
   refine ⟨by simpa using hc, by simp, fun j hj => ?_⟩
   have := (List.pairwise_iff_getElem.1 hs) j c (by simp at hc ⊢; omega) (by simpa using hc) hj
   simpa using this
  simp only [List.getElem_cons_zero, conAt]
  rw [hf]
  simp
 | D :: l, d, i + 1, c, hi, hc, hn => by
  have hi' : i < l.length := by simpa using hi
  have hc' : c < (l[i]).cons.length := by simpa using hc
  unfold cnames at hn
  rw [List.flatMap_cons, List.nodup_append] at hn
  have hf : D.cons.findIdx? (fun C => C.name == ((l[i]).cons[c]).name) = none := by
   rw [List.findIdx?_eq_none_iff]
   intro C hC
   have h2 : ((l[i]).cons[c]).name ∈ List.flatMap (fun D => D.cons.map Con.name) l := List.mem_flatMap.2 ⟨l[i], List.getElem_mem hi', List.mem_map.2 ⟨_, List.getElem_mem hc', rfl⟩⟩
   have := hn.2.2 C.name (List.mem_map.2 ⟨C, hC, rfl⟩) _ h2
   simpa using this
  simp only [List.getElem_cons_succ, conAt]
  rw [hf]
  have := conAt_hit (d := d + 1) hi' hc' (by unfold cnames; exact hn.2.1)
  rw [show d + (i + 1) = d + 1 + i from by omega]
  exact this
theorem lookG_hit {data : List Dat} (hD : dataOk data = true) {k n : Int} {tks : List VT} {g : Int → Option (List VT)} {c : Int} {ps : List VT} (n0 : 0 ≤ n) (c0 : 0 ≤ c) (hn : n.toNat < data.length) (hc : c.toNat < (data[n.toNat]).cons.length)
  (hnm : conName data (.mk k n tks) c = ((data[n.toNat]).cons[c.toNat]).name) (h : g c = some ps) : lookG data n g (conName data (.mk k n tks) c) = some (c, ps) := by
 have hnd : (cnames data).Nodup := by
  simp only [dataOk, Bool.and_eq_true] at hD
  have h1 := hD.2
  simpa only [repeats, Bool.not_not, decide_eq_true_eq] using h1
 have hh := conAt_hit (d := 0) hn hc hnd
 unfold lookG
 rw [hnm, hh]
 have e1 : ((n.toNat : Int)) = n := by omega
 have e2 : ((c.toNat : Int)) = c := by omega
 simp only [Nat.zero_add, e1, e2, if_true, h, Option.map_some]
end Go.Proofs.YtfpmdpldabopjaaGreatDoor
namespace Go.Proofs.YtfpmdpldabopjaaGreatDoor
open Go Go.Abs
set_option maxRecDepth 8000
theorem cut_take {p s : List UInt8} {n : Nat} (h : n + p.length ≤ s.length) : cut p (s.drop n) = if (s.take (n + p.length)).drop n = p then some (s.drop (n + p.length)) else none := by
 have e : (s.take (n + p.length)).drop n = (s.drop n).take p.length := by
  rw [List.drop_take]
  congr 1
  omega
 rw [e]
 by_cases hp : (s.drop n).take p.length = p
 ·rw [if_pos hp]
  have h2 : s.drop n = p ++ s.drop (n + p.length) := by
   have := List.take_append_drop p.length (s.drop n)
   rw [hp, List.drop_drop] at this
   exact this.symm
  rw [h2, cut_app]
 ·rw [if_neg hp]
  cases hc : cut p (s.drop n) with
  | none => rfl
  | some r =>
   exfalso
   have := cut_some hc
   rw [this] at hp
   simp at hp
theorem cut_short {p s : List UInt8} {n : Nat} (hn : n ≤ s.length) (h : ¬ n + p.length ≤ s.length) : cut p (s.drop n) = none := by
 cases hc : cut p (s.drop n) with
 | none => rfl
 | some r =>
  exfalso
  have := congrArg List.length (cut_some hc)
  simp at this
  omega
def conR (data : List Dat) (s : List UInt8) : AV := match conAt data 0 s with
 | some (d, c) => .tup [.int .i64 (d : Int), .int .i64 (c : Int), .bool true]
 | none => .tup [.int .i64 0, .int .i64 0, .bool false]
theorem conAt_step {data : List Dat} {i : Nat} (h : i < data.length) (s : List UInt8) : conAt (data.drop i) i s = match (data[i]).cons.findIdx? (fun C => C.name == s) with
  | some c => some (i, c)
  | none => conAt (data.drop (i + 1)) (i + 1) s := by
 rw [List.drop_eq_getElem_cons h, conAt]
 try (cases (data[i]).cons.findIdx? (fun C => C.name == s) <;> rfl)
theorem find_none {C : List Con} {s : List UInt8} {j : Nat} (h : ∀ (k : Nat) (hk : k < C.length), k < j → (C[k]).name ≠ s) (hj : C.length ≤ j) : C.findIdx? (fun C => C.name == s) = none := by
 rw [List.findIdx?_eq_none_iff]
 intro x hx
 obtain ⟨k, hk, rfl⟩ := List.getElem_of_mem hx
 simpa using h k hk (by omega)
theorem find_some {C : List Con} {s : List UInt8} {j : Nat} (h : ∀ (k : Nat) (hk : k < C.length), k < j → (C[k]).name ≠ s) (hj : j < C.length) (he : (C[j]).name = s) : C.findIdx? (fun C => C.name == s) = some j := by
 rw [List.findIdx?_eq_some_iff_getElem]
 exact ⟨hj, by simpa using he, fun k hk => by simpa using h k (by omega) hk⟩
theorem zq124_spec (data : List Dat) (hl : data.length ≤ 1000000) (hc : ∀ d ∈ data, d.cons.length ≤ 1000000) (s : List UInt8) (H : Heap) (K : Kt) (hK : K (conR data s) H) : ACalls Tryz.prog n_zq124 [.sl (data.map Dat.cs) .none, .str s] H K := by
 refine ACalls.out (zq124_ok fun hs => ?_)
 have hO : Out H.length K (conR data s) H := by
  unfold conR at hK ⊢
  split
  ·rename_i d c hc
   rw [hc] at hK
   exact Out.tup0 hs hK ⟨keepV rfl rfl, keepV rfl rfl, keepV rfl rfl, trivial⟩
  ·rename_i hc
   rw [hc] at hK
   exact Out.tup0 hs hK ⟨keepV rfl rfl, keepV rfl rfl, keepV rfl rfl, trivial⟩
 unfold conR at hO
 simp [zq124]
 refine zq124_loop2 (Inv := fun q t7 H' => ∃ i : Nat, i ≤ data.length ∧ q = data.length - i ∧ t7 = .int .i64 i ∧ conAt data 0 s = conAt (data.drop i) i s ∧ H' = H) data.length ?_ ?_
 ·intro _; exact ⟨0, by omega, by omega, rfl, by simp, rfl⟩
 ·rintro q t7 H' ⟨i, hi, rfl, rfl, hca, rfl⟩ hsc hlen hsF Kb hKb
  by_cases hlt : i < data.length
  ·have hci := hc _ (List.getElem_mem hlt)
   rw [conAt_step hlt] at hca
   simp [zq124_b2, hlt]
   refine zq124_loop5 (Inv := fun q t8 H'' => ∃ j : Nat, j ≤ (data[i]).cons.length ∧ q = (data[i]).cons.length - j ∧ t8 = .int .i64 j ∧ (∀ (k : Nat) (hk : k < (data[i]).cons.length), k < j → ((data[i]).cons[k]).name ≠ s) ∧ H'' = H') (data[i]).cons.length ?_ ?_
   ·intro _; exact ⟨0, by omega, by omega, rfl, fun k hk h => by omega, rfl⟩
   ·rintro q2 t8 H'' ⟨j, hj, rfl, rfl, hno, rfl⟩ hsc2 hlen2 hsF2 Kb2 hKb2
    by_cases hjl : j < (data[i]).cons.length
    ·by_cases he : ((data[i]).cons[j]).name = s
     ·rw [find_some hno hjl he] at hca
      rw [hca] at hO
      simp [zq124_b5, hlt, Dat.cs, hjl, Con.cs, he]
      exact ⟨⟨rfl, rfl, rfl⟩, hO⟩
     ·have he' : (((data[i]).cons[j]).name == s) = false := by simpa using he
      simp [zq124_b5, hlt, Dat.cs, hjl, Con.cs, he, he']
      rw [wrap_in (by omega) (by omega)]
      refine hKb2 _ _ ⟨(data[i]).cons.length - (j + 1), by omega, Back.here (by simp) hsc2 ?_ ⟨_, rfl, j + 1, by omega, rfl, by simp, fun k hk h => ?_, rfl⟩⟩
      ·simp [zq124_fr5, AV.sc, AV.scV, AV.scA, AV.scB]
      ·by_cases hkj : k = j
       ·subst hkj; exact he
       ·exact hno k hk (by omega)
    ·rw [find_none hno (by omega)] at hca
     simp [zq124_b5, hlt, Dat.cs, hjl]
     rw [wrap_in (by omega) (by omega)]
     refine hKb _ _ ⟨data.length - (i + 1), by omega, Back.here (by simp) hsc2 ?_ ⟨_, rfl, i + 1, by omega, rfl, by simp, hca, rfl⟩⟩
     simp [zq124_fr2, AV.sc, AV.scV, AV.scA, AV.scB]
  ·have hd : data.drop i = [] := by simp; omega
   rw [hd, conAt] at hca
   rw [hca] at hO
   simp [zq124_b2, hlt]
   exact ⟨⟨rfl, rfl⟩, hO⟩
end Go.Proofs.YtfpmdpldabopjaaGreatDoor
