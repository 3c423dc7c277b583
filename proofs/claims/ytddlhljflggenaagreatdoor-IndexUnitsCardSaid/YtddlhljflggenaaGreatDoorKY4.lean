import Derived.Test.YtddlhljflggenaaGreatDoorKNum
import Derived.Test.YtddlhljflggenaaGreatDoorProg
import Derived.KernelRfl
import Derived.Test.YtddlhljflggenaaGreatDoorCT
set_option linter.unusedSimpArgs false
set_option linter.unusedVariables false
namespace Go.Proofs.YtddlhljflggenaaGreatDoor
open Go Go.Abs
set_option maxRecDepth 100000
def zjW : Nat → List Bool
 | 5 => rl false [1,2,2,1,24]
 | _ => []
noncomputable def zoL : Code := Tryz.f37.body.getD .skip
noncomputable def zHe : List ResultVar := Tryz.f37.results.toList
def zjX (t1 t2 t5 : AV) : List AV := ux 1 (t1 :: t2 :: ux 2 (t5 :: ux 24 []))
def zHc : List Bool := zjW 5
noncomputable def zHa : Code := zao [1, 1, 1, 0, 1, 0, 0] zoL
def zG9 (K : Kt) : AExit → List AV → zaa → Prop := zap tP zjW [1, 1, 1, 0, 1, 0] zoL (zaA tP zHe K)
def zvX (t1 t2 t5 : AV) (H : zaa) (K : Kt) : Prop := ALoop tP zHa (zG9 K) (zjX t1 t2 t5) H
def zoK (t1 t2 t5 : AV) (H : zaa) (K : Kt) (Kb5 : Lt) : Prop :=
 zag 2 t2 fun t16 =>
 zad false 1 t16 H fun t17 =>
 zah 1 t17 fun t18 =>
 zac .lss false t5 t18 fun t19 =>
 zaf t19
 (zag 2 t2 fun t22 =>
 zad false 1 t22 H fun t23 =>
 zaj 3 t23 t5 fun t25 =>
 zad true 3 t25 H fun t26 =>
 ACalls tP zgi [t26, t1] H fun t28 H =>
 aUn .not t28 fun t29 =>
 zaf t29
 (K (.bool false) H)
 (zac .add false t5 (.int .i64 1) fun t21 =>
 Kb5 (zjX t1 t2 t21) H))
 (K (.bool true) H)
def zvW (t0 t1 : AV) (H : zaa) (K : Kt) : Prop :=
 zax t0 H fun t2 H =>
 zbb t1 fun t7 =>
 zad false 1 t7 H fun t8 =>
 zac .sub false t8 (.int .i64 1) fun t9 =>
 zbb t1 fun t10 =>
 zal 1 t10 t9 H fun H =>
 zbb t1 fun t12 =>
 zad false 1 t12 H fun t13 =>
 zac .lss false t13 (.int .i64 0) fun t14 =>
 zaf t14
 (K (.bool false) H)
 (zvX t1 t2 (.int .i64 0) H K)
theorem zHb {t1 t2 t5 : AV} {H : zaa} {K : Kt} (Inv : Nat → AV → zaa → Prop) (n : Nat) (h0 : HSc H → Inv n t5 H)
  (round : Rd1 (fun t5 => zjX t1 t2 t5) (fun t5 => fun H Kb5 => zoK t1 t2 t5 H K Kb5) H Inv) : zvX t1 t2 t5 H K :=
 lp1 (M := zjW) zHc t5 (by kernel_rfl) Inv n h0 round
theorem zHd {t0 t1 : AV} {H : zaa} {K : Kt} (h : HSc H → zvW t0 t1 H K) : ACalls tP zgi [t0, t1] H K :=
 zar (M := zjW) Tryz.func37 (c := zoL) (by kernel_rfl) (fun hs => Eq.mpr (by kernel_rfl) (h hs))
def zFp (_ : Nat) : List Bool := []
noncomputable def zFq : Code := Tryz.f19.body.getD .skip
def zvh (t0 : AV) (H : zaa) (K : Kt) : Prop :=
 zax t0 H fun t1 H =>
 zaz [(.int .i64 0)] H fun t3 H =>
 zal 1 t3 (.int .i64 250) H fun H =>
 zad true 3 t1 H fun t4 =>
 ACalls tP zgi [t4, t3] H fun t5 H =>
 K t5 H
theorem zFr {t0 : AV} {H : zaa} {K : Kt} (h : HSc H → zvh t0 H K) : ACalls tP zmf [t0] H K :=
 zar (M := zFp) Tryz.func19 (c := zFq) (by kernel_rfl) (fun hs => Eq.mpr (by kernel_rfl) (h hs))
def zdd : Nat → List Bool
 | 4 => rl false [13,3,43]
 | 9 => rl false [13,3,14,3,26]
 | 15 => rl false [7,1,5,3,14,3,14,3,9]
 | _ => []
noncomputable def zn7 : Code := Tryz.f18.body.getD .skip
noncomputable def zFn : List ResultVar := Tryz.f18.results.toList
def zgN (t13 t14 t15 : AV) : List AV := ux 13 (t13 :: t14 :: t15 :: ux 43 [])
def zvf : List Bool := zdd 4
noncomputable def zn8 : Code := zao [1, 1, 0, 1, 0, 0] zn7
def zva (K : Kt) : AExit → List AV → zaa → Prop := zap tP zdd [1, 1, 0, 1, 0] zn7 (zaA tP zFn K)
def zvd (t13 t14 t15 : AV) (H : zaa) (K : Kt) : Prop := ALoop tP zn8 (zva K) (zgN t13 t14 t15) H
def zjq (t13 t14 t15 t30 t31 t32 : AV) : List AV := ux 13 (t13 :: t14 :: t15 :: ux 14 (t30 :: t31 :: t32 :: ux 26 []))
def zvg : List Bool := zdd 9
noncomputable def zn9 : Code := zao [1, 1, 0, 0, 1, 1, 1, 0, 0] zn8
def zvb (K : Kt) (Kb4 : Lt) : AExit → List AV → zaa → Prop := zap tP zdd [1, 1, 0, 0, 1, 1, 1, 0] zn8 (zaU zvf Kb4 (zva K))
def zve (t13 t14 t15 t30 t31 t32 : AV) (H : zaa) (K : Kt) (Kb4 : Lt) : Prop := ALoop tP zn9 (zvb K Kb4) (zjq t13 t14 t15 t30 t31 t32) H
def zjp (t7 t13 t14 t15 t30 t31 t32 t47 t48 t49 : AV) : List AV := ux 7 (t7 :: ux 5 (t13 :: t14 :: t15 :: ux 14 (t30 :: t31 :: t32 :: ux 14 (t47 :: t48 :: t49 :: ux 9 []))))
def zFl : List Bool := zdd 15
noncomputable def zFh : Code := zao [1, 1, 0, 0, 1, 1, 1, 1, 0, 0] zn9
def zFg (K : Kt) (Kb4 : Lt) (Kb9 : Lt) : AExit → List AV → zaa → Prop := zap tP zdd [1, 1, 0, 0, 1, 1, 1, 1, 0] zn9 (zaU zvg Kb9 (zvb K Kb4))
def zvc (t7 t13 t14 t15 t30 t31 t32 t47 t48 t49 : AV) (H : zaa) (K : Kt) (Kb4 : Lt) (Kb9 : Lt) : Prop := ALoop tP zFh (zFg K Kb4 Kb9) (zjp t7 t13 t14 t15 t30 t31 t32 t47 t48 t49) H
def zn4 (t7 t13 t14 t15 t30 t31 t32 t47 t48 t49 : AV) (H : zaa) (K : Kt) (Kb4 : Lt) (Kb9 : Lt) (Kb15 : Lt) : Prop :=
 zac .lss false t49 t48 fun t50 =>
 zaf t50
 (zaj 3 t47 t49 fun t51 =>
 zad true 3 t51 H fun t52 =>
 zaz [(.int .i64 0), (.int .i64 0), .snil] H fun t9 H =>
 zal 3 t9 t52 H fun H =>
 zad true 3 t9 H fun t53 =>
 ACalls tP zgi [t53, t7] H fun t54 H =>
 aUn .not t54 fun t55 =>
 zaf t55
 (K (.bool false) H)
 (zac .add false t49 (.int .i64 1) fun t56 =>
 Kb15 (zjp t7 t13 t14 t15 t30 t31 t32 t47 t48 t56) H))
 (zac .add false t32 (.int .i64 1) fun t57 =>
 Kb9 (zjq t13 t14 t15 t30 t31 t57) H)
def zn6 (t13 t14 t15 t30 t31 t32 : AV) (H : zaa) (K : Kt) (Kb4 : Lt) (Kb9 : Lt) : Prop :=
 zac .lss false t32 t31 fun t33 =>
 zaf t33
 (zaj 2 t30 t32 fun t34 =>
 zad true 2 t34 H fun t35 =>
 zaz [(.str []), .snil] H fun t6 H =>
 zal 2 t6 t35 H fun H =>
 zag 0 t6 fun t36 =>
 zad false 1 t36 H fun t37 =>
 zah 0 t37 fun t38 =>
 zac .gtr false t38 (.int .i64 40) fun t39 =>
 zab t39 false H (fun K' => zag 1 t6 (K' · H)) fun t41 H =>
 zab t39 false H (fun K' => zad false 1 t41 H (K' · H)) fun t42 H =>
 zab t39 false H (fun K' => zah 1 t42 (K' · H)) fun t43 H =>
 zab t39 false H (fun K' => zac .gtr false t43 (.int .i64 8) (K' · H)) fun t44 H =>
 zai t39 (.bool true) t44 fun t45 =>
 zaf t45
 (K (.bool false) H)
 (zaz [(.int .i64 0)] H fun t7 H =>
 zal 1 t7 (.int .i64 20) H fun H =>
 zag 1 t6 fun t46 =>
 zad false 1 t46 H fun t47 =>
 zah 1 t47 fun t48 =>
 zvc t7 t13 t14 t15 t30 t31 t32 t47 t48 (.int .i64 0) H K Kb4 Kb9))
 (zac .add false t15 (.int .i64 1) fun t58 =>
 Kb4 (zgN t13 t14 t58) H)
def zn5 (t13 t14 t15 : AV) (H : zaa) (K : Kt) (Kb4 : Lt) : Prop :=
 zac .lss false t15 t14 fun t16 =>
 zaf t16
 (zaj 3 t13 t15 fun t17 =>
 zad true 3 t17 H fun t18 =>
 zaz [(.str []), (.int .i64 0), .snil] H fun t4 H =>
 zal 3 t4 t18 H fun H =>
 zag 0 t4 fun t19 =>
 zad false 1 t19 H fun t20 =>
 zah 0 t20 fun t21 =>
 zac .gtr false t21 (.int .i64 40) fun t22 =>
 zab t22 false H (fun K' => zag 2 t4 (K' · H)) fun t24 H =>
 zab t22 false H (fun K' => zad false 1 t24 H (K' · H)) fun t25 H =>
 zab t22 false H (fun K' => zah 1 t25 (K' · H)) fun t26 H =>
 zab t22 false H (fun K' => zac .gtr false t26 (.int .i64 10) (K' · H)) fun t27 H =>
 zai t22 (.bool true) t27 fun t28 =>
 zaf t28
 (K (.bool false) H)
 (zag 2 t4 fun t29 =>
 zad false 1 t29 H fun t30 =>
 zah 1 t30 fun t31 =>
 zve t13 t14 t15 t30 t31 (.int .i64 0) H K Kb4))
 (K (.bool true) H)
def zn3 (t0 : AV) (H : zaa) (K : Kt) : Prop :=
 zah 1 t0 fun t11 =>
 zac .gtr false t11 (.int .i64 14) fun t12 =>
 zaf t12
 (K (.bool false) H)
 (zah 1 t0 fun t14 =>
 zvd t0 t14 (.int .i64 0) H K)
theorem zFi {t7 t13 t14 t15 t30 t31 t32 t47 t48 t49 : AV} {H : zaa} {K : Kt} {Kb4 : Lt} {Kb9 : Lt} (Inv : Nat → AV → zaa → Prop) (n : Nat) (h0 : HSc H → Inv n t49 H)
  (round : Rd1 (fun t49 => zjp t7 t13 t14 t15 t30 t31 t32 t47 t48 t49) (fun t49 => fun H Kb15 => zn4 t7 t13 t14 t15 t30 t31 t32 t47 t48 t49 H K Kb4 Kb9 Kb15) H Inv) : zvc t7 t13 t14 t15 t30 t31 t32 t47 t48 t49 H K Kb4 Kb9 :=
 lp1 (M := zdd) zFl t49 (by kernel_rfl) Inv n h0 round
theorem zFk {t13 t14 t15 t30 t31 t32 : AV} {H : zaa} {K : Kt} {Kb4 : Lt} (Inv : Nat → AV → zaa → Prop) (n : Nat) (h0 : HSc H → Inv n t32 H)
  (round : Rd1 (fun t32 => zjq t13 t14 t15 t30 t31 t32) (fun t32 => fun H Kb9 => zn6 t13 t14 t15 t30 t31 t32 H K Kb4 Kb9) H Inv) : zve t13 t14 t15 t30 t31 t32 H K Kb4 :=
 lp1 (M := zdd) zvg t32 (by kernel_rfl) Inv n h0 round
theorem zFj {t13 t14 t15 : AV} {H : zaa} {K : Kt} (Inv : Nat → AV → zaa → Prop) (n : Nat) (h0 : HSc H → Inv n t15 H)
  (round : Rd1 (fun t15 => zgN t13 t14 t15) (fun t15 => fun H Kb4 => zn5 t13 t14 t15 H K Kb4) H Inv) : zvd t13 t14 t15 H K :=
 lp1 (M := zdd) zvf t15 (by kernel_rfl) Inv n h0 round
theorem zFm {t0 : AV} {H : zaa} {K : Kt} (h : HSc H → zn3 t0 H K) : ACalls tP zme [t0] H K :=
 zar (M := zdd) Tryz.func18 (c := zn7) (by kernel_rfl) (fun hs => Eq.mpr (by kernel_rfl) (h hs))
def zHj (_ : Nat) : List Bool := []
noncomputable def zHk : Code := Tryz.f39.body.getD .skip
def zv0 (t0 t1 t2 : AV) (H : zaa) (K : Kt) : Prop :=
 zax t1 H fun t4 H =>
 zau [.snil, (.int .i64 0), (.int .i64 0)] [(0, 1), (1, 1), (2, 1)] [(0, t0), (1, t2), (2, (.int .i64 200))] fun t10 =>
 zax t10 H fun t11 H =>
 zad true 3 t4 H fun t13 =>
 ACalls tP zic [t11, t13] H fun t14 H =>
 K t14 H
theorem zHl {t0 t1 t2 : AV} {H : zaa} {K : Kt} (h : HSc H → zv0 t0 t1 t2 H K) : ACalls tP zgj [t0, t1, t2] H K :=
 zar (M := zHj) Tryz.func39 (c := zHk) (by kernel_rfl) (fun hs => Eq.mpr (by kernel_rfl) (h hs))
def zdB : Nat → List Bool
 | 171022 => rl false [2,2,16,1,53,1,34]
 | 150010 => rl false [2,2,1,2,13,2,87]
 | 100007 => rl false [2,2,1,2,13,1,88]
 | 100002 => rl false [2,2,105]
 | _ => []
noncomputable def zdC : Code := Tryz.f63.body.getD .skip
noncomputable def zkC : List ResultVar := Tryz.f63.results.toList
def zfy (t2 t3 t5 t6 : AV) (H : zaa) (K : Kt) : Prop :=
 zag 0 t3 fun t79 =>
 zad false 1 t79 H fun t80 =>
 zac .neq false t80 (.int .i64 4) fun t81 =>
 zab t81 true H (fun K' => zag 0 t3 (K' · H)) fun t83 H =>
 zab t81 true H (fun K' => zad false 1 t83 H (K' · H)) fun t84 H =>
 zab t81 true H (fun K' => zac .neq false t84 (.int .i64 5) (K' · H)) fun t85 H =>
 zai t81 t85 (.bool false) fun t86 =>
 zab t86 true H (fun K' => zag 1 t3 (K' · H)) fun t88 H =>
 zab t86 true H (fun K' => zad false 1 t88 H (K' · H)) fun t89 H =>
 zab t86 true H (fun K' => zac .neq false t89 (.int .i64 0) (K' · H)) fun t90 H =>
 zai t86 t90 (.bool false) fun t91 =>
 zaf t91
 (K (.bool false) H)
 (zag 2 t3 fun t92 =>
 zad false 1 t92 H fun t93 =>
 zah 1 t93 fun t94 =>
 zac .lss false t94 t5 fun t96 =>
 zab t96 false H (fun K' => zag 2 t3 (K' · H)) fun t98 H =>
 zab t96 false H (fun K' => zad false 1 t98 H (K' · H)) fun t99 H =>
 zab t96 false H (fun K' => zah 1 t99 (K' · H)) fun t100 H =>
 zab t96 false H (fun K' => K' t6 H) fun t101 H =>
 zab t96 false H (fun K' => zac .gtr false t100 t101 (K' · H)) fun t102 H =>
 zai t96 (.bool true) t102 fun t103 =>
 zaf t103
 (K (.bool false) H)
 (zag 2 t3 fun t104 =>
 zad false 1 t104 H fun t105 =>
 zbY zik [t2] fun t106 =>
 ACalls tP zdq [t105, t106] H fun t107 H =>
 aUn .not t107 fun t108 =>
 K t108 H))
def zcL (t2 t3 t5 t6 : AV) (H : zaa) (K : Kt) : Prop :=
 zfy t2 t3 t5 t6 H K
noncomputable def zJW : Code := zao [1, 1, 1, 1, 0, 1, 0, 1, 1, 1, 1, 1, 1, 1, 1, 1] zdC
def zJV (K : Kt) : AExit → List AV → zaa → Prop := zap tP zdB [1, 1, 1, 1, 0, 1, 0, 1, 1, 1, 1, 1, 1, 1, 1, 1] zdC (zaA tP zkC K)
def zp4 (t2 t3 t20 t74 : AV) (H : zaa) (K : Kt) : Prop := AWp tP zJW (zJV K) (ux 2 (t2 :: t3 :: ux 16 (t20 :: ux 53 (t74 :: ux 34 [])))) H
def zkB (t2 t3 t20 t74 : AV) (H : zaa) (K : Kt) : Prop :=
 zaf t74
 (zcL t2 t3 (.int .i64 1) (.int .i64 1) H K)
 (zac .eql false t20 (.int .i64 9) fun t78 =>
 zaf t78
 (zcL t2 t3 (.int .i64 1) (.int .i64 7) H K)
 (K (.bool false) H))
noncomputable def zJU : Code := zao [1, 1, 1, 1, 0, 1, 0, 1] zdC
def zJT (K : Kt) : AExit → List AV → zaa → Prop := zap tP zdB [1, 1, 1, 1, 0, 1, 0, 1] zdC (zaA tP zkC K)
def zkA (t2 t3 t5 t6 t20 t21 : AV) (H : zaa) (K : Kt) : Prop := AWp tP zJU (zJT K) (ux 2 (t2 :: t3 :: ux 1 (t5 :: t6 :: ux 13 (t20 :: t21 :: ux 87 [])))) H
def zcV (t2 t3 t5 t6 t20 t21 : AV) (H : zaa) (K : Kt) : Prop :=
 zaf t21
 (zcL t2 t3 t5 t6 H K)
 (zac .eql false t20 (.int .i64 4) fun t26 =>
 zaf t26
 (zae H (fun K' => zag 1 t3 (K' · H)) fun t27 =>
 zae H (fun K' => zas false 1 t27 H (K' · H)) fun t28 =>
 zae H (fun K' => zac .lss false t28 (.int .i64 0) (K' · H)) fun t29 =>
 zae H (fun K' => K' t29 H) fun t30 =>
 zab t30 false H (fun K' => zae H (fun K'' => zag 1 t3 (K'' · H)) (K' · H)) fun t31 H =>
 zab t30 false H (fun K' => zae H (fun K'' => zas false 1 t31 H (K'' · H)) (K' · H)) fun t32 H =>
 zab t30 false H (fun K' => zae H (fun K'' => zas false 1 t2 H (K'' · H)) (K' · H)) fun t33 H =>
 zab t30 false H (fun K' => zae H (fun K'' => zbb t33 (K'' · H)) (K' · H)) fun t34 H =>
 zab t30 false H (fun K' => zae H (fun K'' => zag 1 t34 (K'' · H)) (K' · H)) fun t35 H =>
 zab t30 false H (fun K' => zae H (fun K'' => zas false 1 t35 H (K'' · H)) (K' · H)) fun t36 H =>
 zab t30 false H (fun K' => zae H (fun K'' => zac .geq false t32 t36 (K'' · H)) (K' · H)) fun t37 H =>
 zae H (fun K' => zai t30 (.bool true) t37 (K' · H)) fun t38 =>
 zaf t38
 (K (.bool false) H)
 (zcL t2 t3 t5 t6 H K))
 (zac .eql false t20 (.int .i64 5) fun t40 =>
 zaf t40
 (zae H (fun K' => zag 1 t3 (K' · H)) fun t41 =>
 zae H (fun K' => zas false 1 t41 H (K' · H)) fun t42 =>
 zae H (fun K' => zac .lss false t42 (.int .i64 0) (K' · H)) fun t43 =>
 zae H (fun K' => K' t43 H) fun t44 =>
 zab t44 false H (fun K' => zae H (fun K'' => zag 1 t3 (K'' · H)) (K' · H)) fun t45 H =>
 zab t44 false H (fun K' => zae H (fun K'' => zas false 1 t45 H (K'' · H)) (K' · H)) fun t46 H =>
 zab t44 false H (fun K' => zae H (fun K'' => zas false 1 t2 H (K'' · H)) (K' · H)) fun t47 H =>
 zab t44 false H (fun K' => zae H (fun K'' => zbb t47 (K'' · H)) (K' · H)) fun t48 H =>
 zab t44 false H (fun K' => zae H (fun K'' => zag 0 t48 (K'' · H)) (K' · H)) fun t49 H =>
 zab t44 false H (fun K' => zae H (fun K'' => zas false 1 t49 H (K'' · H)) (K' · H)) fun t50 H =>
 zab t44 false H (fun K' => zae H (fun K'' => zah 1 t50 (K'' · H)) (K' · H)) fun t51 H =>
 zab t44 false H (fun K' => zae H (fun K'' => zac .geq false t46 t51 (K'' · H)) (K' · H)) fun t52 H =>
 zae H (fun K' => zai t44 (.bool true) t52 (K' · H)) fun t53 =>
 zaf t53
 (K (.bool false) H)
 (zae H (fun K' => zas false 1 t2 H (K' · H)) fun t54 =>
 zae H (fun K' => zbb t54 (K' · H)) fun t55 =>
 zae H (fun K' => zag 0 t55 (K' · H)) fun t56 =>
 zae H (fun K' => zas false 1 t56 H (K' · H)) fun t57 =>
 zae H (fun K' => zag 1 t3 (K' · H)) fun t58 =>
 zae H (fun K' => zas false 1 t58 H (K' · H)) fun t59 =>
 zae H (fun K' => zaj 3 t57 t59 (K' · H)) fun t60 =>
 zae H (fun K' => zag 1 t60 (K' · H)) fun t61 =>
 zae H (fun K' => zas false 1 t61 H (K' · H)) fun t62 =>
 zae H (fun K' => zas false 1 t2 H (K' · H)) fun t63 =>
 zae H (fun K' => zbb t63 (K' · H)) fun t64 =>
 zae H (fun K' => zag 0 t64 (K' · H)) fun t65 =>
 zae H (fun K' => zas false 1 t65 H (K' · H)) fun t66 =>
 zae H (fun K' => zag 1 t3 (K' · H)) fun t67 =>
 zae H (fun K' => zas false 1 t67 H (K' · H)) fun t68 =>
 zae H (fun K' => zaj 3 t66 t68 (K' · H)) fun t69 =>
 zae H (fun K' => zag 1 t69 (K' · H)) fun t70 =>
 zae H (fun K' => zas false 1 t70 H (K' · H)) fun t71 =>
 zae H (fun K' => K' t62 H) fun t5 =>
 zae H (fun K' => K' t71 H) fun t6 =>
 zcL t2 t3 t5 t6 H K))
 (zac .eql false t20 (.int .i64 6) fun t73 =>
 zaf t73
 (zcL t2 t3 (.int .i64 2) (.int .i64 6) H K)
 (zac .eql false t20 (.int .i64 7) fun t75 =>
 zaf t75
 (zp4 t2 t3 t20 t75 H K)
 (zac .eql false t20 (.int .i64 8) fun t76 =>
 zp4 t2 t3 t20 t76 H K)))))
noncomputable def zJR : Code := zao [1, 1, 1, 1, 0, 1] zdC
def zJQ (K : Kt) : AExit → List AV → zaa → Prop := zap tP zdB [1, 1, 1, 1, 0, 1] zdC (zaA tP zkC K)
def zxv (t2 t3 t5 t6 t20 : AV) (H : zaa) (K : Kt) : Prop := AWp tP zJR (zJQ K) (ux 2 (t2 :: t3 :: ux 1 (t5 :: t6 :: ux 13 (t20 :: ux 88 [])))) H
def zp3 (t2 t3 t5 t6 t20 : AV) (H : zaa) (K : Kt) : Prop :=
 zac .eql false t20 (.int .i64 1) fun t22 =>
 zaf t22
 (zkA t2 t3 t5 t6 t20 t22 H K)
 (zac .eql false t20 (.int .i64 2) fun t23 =>
 zaf t23
 (zkA t2 t3 t5 t6 t20 t23 H K)
 (zac .eql false t20 (.int .i64 3) fun t24 =>
 zkA t2 t3 t5 t6 t20 t24 H K))
noncomputable def zJO : Code := zao [1, 1] zdC
def zJN (K : Kt) : AExit → List AV → zaa → Prop := zap tP zdB [1, 1] zdC (zaA tP zkC K)
def zp1 (t2 t3 : AV) (H : zaa) (K : Kt) : Prop := AWp tP zJO (zJN K) (ux 2 (t2 :: t3 :: ux 105 [])) H
def zp2 (t2 t3 : AV) (H : zaa) (K : Kt) : Prop :=
 zad false 1 t2 H fun t14 =>
 zbb t14 fun t15 =>
 zag 2 t15 fun t16 =>
 zad false 1 t16 H fun t17 =>
 zac .lss false t17 (.int .i64 0) fun t18 =>
 zaf t18
 (K (.bool false) H)
 (zag 0 t3 fun t19 =>
 zad false 1 t19 H fun t20 =>
 zxv t2 t3 (.int .i64 0) (.int .i64 0) t20 H K)
def zxu (t0 t1 : AV) (H : zaa) (K : Kt) : Prop :=
 zax t0 H fun t2 H =>
 zax t1 H fun t3 H =>
 zad false 1 t2 H fun t7 =>
 zbb t7 fun t8 =>
 zag 2 t8 fun t9 =>
 zad false 1 t9 H fun t10 =>
 zac .sub false t10 (.int .i64 1) fun t11 =>
 zbb t7 fun t12 =>
 zag 2 t12 fun t13 =>
 zal 1 t13 t11 H fun H =>
 zp1 t2 t3 H K
theorem zxx {t2 t3 t20 t74 : AV} {H : zaa} {K : Kt} (h : HSc H → zkB t2 t3 t20 t74 H K) : zp4 t2 t3 t20 t74 H K :=
 fun B w G a hH hF hd => zeL (M := zdB) _ _ _ _ (Eq.mpr (by kernel_rfl) (h hH.sc)) B w G a hH hF hd
theorem zxw {t2 t3 t5 t6 t20 t21 : AV} {H : zaa} {K : Kt} (h : HSc H → zcV t2 t3 t5 t6 t20 t21 H K) : zkA t2 t3 t5 t6 t20 t21 H K :=
 fun B w G a hH hF hd => zeL (M := zdB) _ _ _ _ (Eq.mpr (by kernel_rfl) (h hH.sc)) B w G a hH hF hd
theorem zJS {t2 t3 t5 t6 t20 : AV} {H : zaa} {K : Kt} (h : HSc H → zp3 t2 t3 t5 t6 t20 H K) : zxv t2 t3 t5 t6 t20 H K :=
 fun B w G a hH hF hd => zeL (M := zdB) _ _ _ _ (Eq.mpr (by kernel_rfl) (h hH.sc)) B w G a hH hF hd
theorem zJP {t2 t3 : AV} {H : zaa} {K : Kt} (h : HSc H → zp2 t2 t3 H K) : zp1 t2 t3 H K :=
 fun B w G a hH hF hd => zeL (M := zdB) _ _ _ _ (Eq.mpr (by kernel_rfl) (h hH.sc)) B w G a hH hF hd
theorem zJX {t0 t1 : AV} {H : zaa} {K : Kt} (h : HSc H → zxu t0 t1 H K) : ACalls tP zic [t0, t1] H K :=
 zar (M := zdB) Tryz.func63 (c := zdC) (by kernel_rfl) (fun hs => Eq.mpr (by kernel_rfl) (h hs))
def zLT (_ : Nat) : List Bool := []
noncomputable def zLU : Code := Tryz.f100.body.getD .skip
def zya (t0 t1 : AV) (H : zaa) (K : Kt) : Prop :=
 zax t0 H fun t2 H =>
 zad false 1 t1 H fun t4 =>
 zad true 3 t2 H fun t5 =>
 ACalls tP zic [t4, t5] H fun t6 H =>
 aUn .not t6 fun t7 =>
 K t7 H
theorem zLV {t0 t1 : AV} {H : zaa} {K : Kt} (h : HSc H → zya t0 t1 H K) : ACalls tP zik [t0, t1] H K :=
 zar (M := zLT) Tryz.func100 (c := zLU) (by kernel_rfl) (fun hs => Eq.mpr (by kernel_rfl) (h hs))
def zIy (_ : Nat) : List Bool := []
noncomputable def zIz : Code := Tryz.f53.body.getD .skip
def zpD (t0 t1 : AV) (H : zaa) (K : Kt) : Prop :=
 ACalls tP zih [t0, t1] H fun t7 H =>
 zac .geq false t7 (.int .i64 0) fun t8 =>
 K t8 H
theorem zwM {t0 t1 : AV} {H : zaa} {K : Kt} (h : HSc H → zpD t0 t1 H K) : ACalls tP zdq [t0, t1] H K :=
 zar (M := zIy) Tryz.func53 (c := zIz) (by kernel_rfl) (fun hs => Eq.mpr (by kernel_rfl) (h hs))
def zkZ : Nat → List Bool
 | 2 => rl false [0,2,5,2,10]
 | _ => []
noncomputable def zqy : Code := Tryz.f88.body.getD .skip
noncomputable def zLr : List ResultVar := Tryz.f88.results.toList
def zhk (t0 t1 t7 t8 : AV) : List AV := t0 :: t1 :: ux 5 (t7 :: t8 :: ux 10 [])
def zLq : List Bool := zkZ 2
noncomputable def zLp : Code := zao [1, 0, 1, 0, 0] zqy
def zLo (K : Kt) : AExit → List AV → zaa → Prop := zap tP zkZ [1, 0, 1, 0] zqy (zaA tP zLr K)
def zx2 (t0 t1 t7 t8 : AV) (H : zaa) (K : Kt) : Prop := ALoop tP zLp (zLo K) (zhk t0 t1 t7 t8) H
def zhj (t0 t1 t7 t8 : AV) (H : zaa) (K : Kt) (Kb2 : Lt) : Prop :=
 zac .lss false t8 t7 fun t9 =>
 zaf t9
 (zaj 3 t0 t8 fun t14 =>
 zad true 3 t14 H fun t15 =>
 aCallV tP t1 [t15] H fun t16 H =>
 zaf t16
 (K t8 H)
 (zac .add false t8 (.int .i64 1) fun t18 =>
 Kb2 (zhk t0 t1 t7 t18) H))
 (K (.int .i64 (-1)) H)
def zqx (t0 t1 : AV) (H : zaa) (K : Kt) : Prop :=
 zah 1 t0 fun t7 =>
 zx2 t0 t1 t7 (.int .i64 0) H K
theorem zx3 {t0 t1 t7 t8 : AV} {H : zaa} {K : Kt} (Inv : Nat → AV → zaa → Prop) (n : Nat) (h0 : HSc H → Inv n t8 H)
  (round : Rd1 (fun t8 => zhk t0 t1 t7 t8) (fun t8 => fun H Kb2 => zhj t0 t1 t7 t8 H K Kb2) H Inv) : zx2 t0 t1 t7 t8 H K :=
 lp1 (M := zkZ) zLq t8 (by kernel_rfl) Inv n h0 round
theorem zx4 {t0 t1 : AV} {H : zaa} {K : Kt} (h : HSc H → zqx t0 t1 H K) : ACalls tP zih [t0, t1] H K :=
 zar (M := zkZ) Tryz.func88 (c := zqy) (by kernel_rfl) (fun hs => Eq.mpr (by kernel_rfl) (h hs))
def zdj : Nat → List Bool
 | 8 => rl false [2,1,1,1,3,2,49,3,46]
 | 13 => rl false [2,1,1,1,3,2,67,3,28]
 | 20 => rl false [4,1,9,1,78,3,12]
 | _ => []
noncomputable def zeE : Code := Tryz.f86.body.getD .skip
noncomputable def zqs : List ResultVar := Tryz.f86.results.toList
def zkV (t2 t4 t8 t9 t59 t60 t61 : AV) : List AV := ux 2 (t2 :: ux 1 (t4 :: ux 3 (t8 :: t9 :: ux 49 (t59 :: t60 :: t61 :: ux 46 []))))
def zLe : List Bool := zdj 8
noncomputable def zK8 : Code := zao [1, 1, 1, 1, 1, 0, 1, 0, 0] zeE
def zK5 (K : Kt) : AExit → List AV → zaa → Prop := zap tP zdj [1, 1, 1, 1, 1, 0, 1, 0] zeE (zaA tP zqs K)
def zxW (t2 t4 t8 t9 t59 t60 t61 : AV) (H : zaa) (K : Kt) : Prop := ALoop tP zK8 (zK5 K) (zkV t2 t4 t8 t9 t59 t60 t61) H
def zkT (t2 t4 t8 t9 t77 t78 t79 : AV) : List AV := ux 2 (t2 :: ux 1 (t4 :: ux 3 (t8 :: t9 :: ux 67 (t77 :: t78 :: t79 :: ux 28 []))))
def zLc : List Bool := zdj 13
noncomputable def zK6 : Code := zao [1, 1, 1, 1, 1, 1, 0, 1, 0, 0] zeE
def zK3 (K : Kt) : AExit → List AV → zaa → Prop := zap tP zdj [1, 1, 1, 1, 1, 1, 0, 1, 0] zeE (zaA tP zqs K)
def zxV (t2 t4 t8 t9 t77 t78 t79 : AV) (H : zaa) (K : Kt) : Prop := ALoop tP zK6 (zK3 K) (zkT t2 t4 t8 t9 t77 t78 t79) H
def zkU (t4 t14 t93 t94 t95 : AV) : List AV := ux 4 (t4 :: ux 9 (t14 :: ux 78 (t93 :: t94 :: t95 :: ux 12 [])))
def zLd : List Bool := zdj 20
noncomputable def zK7 : Code := zao [1, 1, 1, 1, 1, 1, 1, 1, 0, 1, 0, 0] zeE
def zK4 (K : Kt) : AExit → List AV → zaa → Prop := zap tP zdj [1, 1, 1, 1, 1, 1, 1, 1, 0, 1, 0] zeE (zaA tP zqs K)
def zkW (t4 t14 t93 t94 t95 : AV) (H : zaa) (K : Kt) : Prop := ALoop tP zK7 (zK4 K) (zkU t4 t14 t93 t94 t95) H
def zqq (t4 t14 t93 t94 t95 : AV) (H : zaa) (K : Kt) (Kb20 : Lt) : Prop :=
 zac .lss false t95 t94 fun t96 =>
 zaf t96
 (zaj 3 t93 t95 fun t97 =>
 zad true 3 t97 H fun t98 =>
 zaz [(.int .i64 0), (.int .i64 0), .snil] H fun t16 H =>
 zal 3 t16 t98 H fun H =>
 zad true 3 t16 H fun t100 =>
 zag 2 t4 fun t101 =>
 zad false 1 t101 H fun t102 =>
 ACalls tP zga [t100, t102] H fun t103 H =>
 zay 3 [(.int .i64 0), (.int .i64 0), .snil] 1 [(0, t103)] fun t104 =>
 zat zaO 3 40 t14 t104 H fun t105 H =>
 zac .add false t95 (.int .i64 1) fun t106 =>
 Kb20 (zkU t4 t105 t93 t94 t106) H)
 (zaw [t14, (.bool true)] (K · H))
def zqp (t2 t4 t8 t9 t77 t78 t79 : AV) (H : zaa) (K : Kt) (Kb13 : Lt) : Prop :=
 zac .lss false t79 t78 fun t80 =>
 zaf t80
 (zaj 3 t77 t79 fun t81 =>
 zad true 3 t81 H fun t82 =>
 zaz [(.int .i64 0), (.int .i64 0), .snil] H fun t13 H =>
 zal 3 t13 t82 H fun H =>
 zad true 3 t13 H fun t83 =>
 ACalls tP zhQ [t83, t9] H fun t85 H =>
 zac .gtr false t85 (.int .i64 200) fun t86 =>
 zaf t86
 (zaw [.snil, (.bool false)] (K · H))
 (zac .add false t79 (.int .i64 1) fun t87 =>
 Kb13 (zkT t2 t4 t8 t9 t77 t78 t87) H))
 (zag 2 t8 fun t88 =>
 zad false 1 t88 H fun t89 =>
 zaj 2 t89 t2 fun t91 =>
 zag 1 t91 fun t92 =>
 zad false 1 t92 H fun t93 =>
 zah 1 t93 fun t94 =>
 zkW t4 .snil t93 t94 (.int .i64 0) H K)
def zqr (t2 t4 t8 t9 t59 t60 t61 : AV) (H : zaa) (K : Kt) (Kb8 : Lt) : Prop :=
 zac .lss false t61 t60 fun t62 =>
 zaf t62
 (zaj 3 t59 t61 fun t64 =>
 zad true 3 t64 H fun t65 =>
 zaz [(.int .i64 0), (.int .i64 0), .snil] H fun t11 H =>
 zal 3 t11 t65 H fun H =>
 zad true 3 t11 H fun t68 =>
 ACalls tP zhP [t68] H fun t69 H =>
 zaj 1 t9 t61 fun t70 =>
 zal 1 t70 t69 H fun H =>
 zac .add false t61 (.int .i64 1) fun t71 =>
 Kb8 (zkV t2 t4 t8 t9 t59 t60 t71) H)
 (zag 2 t8 fun t72 =>
 zad false 1 t72 H fun t73 =>
 zaj 2 t73 t2 fun t75 =>
 zag 1 t75 fun t76 =>
 zad false 1 t76 H fun t77 =>
 zah 1 t77 fun t78 =>
 zxV t2 t4 t8 t9 t77 t78 (.int .i64 0) H K)
def zxU (t0 t1 t2 : AV) (H : zaa) (K : Kt) : Prop :=
 zax t1 H fun t4 H =>
 zag 0 t4 fun t17 =>
 zad false 1 t17 H fun t18 =>
 zac .neq false t18 (.int .i64 5) fun t19 =>
 zab t19 false H (fun K' => zag 1 t4 (K' · H)) fun t21 H =>
 zab t19 false H (fun K' => zad false 1 t21 H (K' · H)) fun t22 H =>
 zab t19 false H (fun K' => zac .lss false t22 (.int .i64 0) (K' · H)) fun t23 H =>
 zai t19 (.bool true) t23 fun t24 =>
 zab t24 false H (fun K' => zag 1 t4 (K' · H)) fun t26 H =>
 zab t24 false H (fun K' => zad false 1 t26 H (K' · H)) fun t27 H =>
 zab t24 false H (fun K' => K' t0 H) fun t28 H =>
 zab t24 false H (fun K' => zah 1 t28 (K' · H)) fun t29 H =>
 zab t24 false H (fun K' => zac .geq false t27 t29 (K' · H)) fun t30 H =>
 zai t24 (.bool true) t30 fun t31 =>
 zaf t31
 (zaw [.snil, (.bool false)] (K · H))
 (zag 1 t4 fun t33 =>
 zad false 1 t33 H fun t34 =>
 zaj 3 t0 t34 fun t35 =>
 zad true 3 t35 H fun t36 =>
 zaz [(.str []), (.int .i64 0), .snil] H fun t8 H =>
 zal 3 t8 t36 H fun H =>
 zag 2 t4 fun t37 =>
 zad false 1 t37 H fun t38 =>
 zah 1 t38 fun t39 =>
 zag 1 t8 fun t40 =>
 zad false 1 t40 H fun t41 =>
 zac .neq false t39 t41 fun t42 =>
 zab t42 false H (fun K' => K' t2 H) fun t44 H =>
 zab t42 false H (fun K' => zac .lss false t44 (.int .i64 0) (K' · H)) fun t45 H =>
 zai t42 (.bool true) t45 fun t46 =>
 zab t46 false H (fun K' => K' t2 H) fun t48 H =>
 zab t46 false H (fun K' => zag 2 t8 (K' · H)) fun t49 H =>
 zab t46 false H (fun K' => zad false 1 t49 H (K' · H)) fun t50 H =>
 zab t46 false H (fun K' => zah 1 t50 (K' · H)) fun t51 H =>
 zab t46 false H (fun K' => zac .geq false t48 t51 (K' · H)) fun t52 H =>
 zai t46 (.bool true) t52 fun t53 =>
 zaf t53
 (zaw [.snil, (.bool false)] (K · H))
 (zag 2 t4 fun t54 =>
 zad false 1 t54 H fun t55 =>
 zah 1 t55 fun t56 =>
 za4 8 [(.int .i64 0)] t56 t56 H fun t57 H =>
 zag 2 t4 fun t58 =>
 zad false 1 t58 H fun t59 =>
 zah 1 t59 fun t60 =>
 zxW t2 t4 t8 t57 t59 t60 (.int .i64 0) H K))
theorem zLa {t4 t14 t93 t94 t95 : AV} {H : zaa} {K : Kt} (Inv : Nat → AV → AV → zaa → Prop) (n : Nat) (h0 : HSc H → Inv n t14 t95 H)
  (round : Rd2 (fun t14 => fun t95 => zkU t4 t14 t93 t94 t95) (fun t14 => fun t95 => fun H Kb20 => zqq t4 t14 t93 t94 t95 H K Kb20) H Inv) : zkW t4 t14 t93 t94 t95 H K :=
 lp2 (M := zdj) zLd t14 t95 (by kernel_rfl) Inv n h0 round
theorem zK9 {t2 t4 t8 t9 t77 t78 t79 : AV} {H : zaa} {K : Kt} (Inv : Nat → AV → zaa → Prop) (n : Nat) (h0 : HSc H → Inv n t79 H)
  (round : Rd1 (fun t79 => zkT t2 t4 t8 t9 t77 t78 t79) (fun t79 => fun H Kb13 => zqp t2 t4 t8 t9 t77 t78 t79 H K Kb13) H Inv) : zxV t2 t4 t8 t9 t77 t78 t79 H K :=
 lp1 (M := zdj) zLc t79 (by kernel_rfl) Inv n h0 round
theorem zLb {t2 t4 t8 t9 t59 t60 t61 : AV} {H : zaa} {K : Kt} (Inv : Nat → AV → zaa → Prop) (n : Nat) (h0 : HSc H → Inv n t61 H)
  (round : Rd1 (fun t61 => zkV t2 t4 t8 t9 t59 t60 t61) (fun t61 => fun H Kb8 => zqr t2 t4 t8 t9 t59 t60 t61 H K Kb8) H Inv) : zxW t2 t4 t8 t9 t59 t60 t61 H K :=
 lp1 (M := zdj) zLe t61 (by kernel_rfl) Inv n h0 round
theorem zLf {t0 t1 t2 : AV} {H : zaa} {K : Kt} (h : HSc H → zxU t0 t1 t2 H K) : ACalls tP zmC [t0, t1, t2] H K :=
 zar (M := zdj) Tryz.func86 (c := zeE) (by kernel_rfl) (fun hs => Eq.mpr (by kernel_rfl) (h hs))
def ziW : Nat → List Bool
 | 3 => rl false [3,1,3,3,9]
 | _ => []
noncomputable def zny : Code := Tryz.f110.body.getD .skip
noncomputable def zDd : List ResultVar := Tryz.f110.results.toList
def ziX (t3 t7 t8 t9 : AV) : List AV := ux 3 (t3 :: ux 3 (t7 :: t8 :: t9 :: ux 9 []))
def zDb : List Bool := ziW 3
noncomputable def zC9 : Code := zao [1, 1, 0, 1, 0, 0] zny
def zC8 (K : Kt) : AExit → List AV → zaa → Prop := zap tP ziW [1, 1, 0, 1, 0] zny (zaA tP zDd K)
def zuB (t3 t7 t8 t9 : AV) (H : zaa) (K : Kt) : Prop := ALoop tP zC9 (zC8 K) (ziX t3 t7 t8 t9) H
def znx (t3 t7 t8 t9 : AV) (H : zaa) (K : Kt) (Kb3 : Lt) : Prop :=
 zac .lss false t9 t8 fun t10 =>
 zaf t10
 (zaj 3 t7 t9 fun t11 =>
 zad true 3 t11 H fun t12 =>
 zaz [(.int .i64 0), (.int .i64 0), .snil] H fun t5 H =>
 zal 3 t5 t12 H fun H =>
 zad true 3 t5 H fun t14 =>
 ACalls tP zhP [t14] H fun t15 H =>
 zac .add false t3 t15 fun t16 =>
 zac .add false t9 (.int .i64 1) fun t17 =>
 Kb3 (ziX t16 t7 t8 t17) H)
 (K t3 H)
def zuA (t0 : AV) (H : zaa) (K : Kt) : Prop :=
 zax t0 H fun t1 H =>
 zag 2 t1 fun t6 =>
 zad false 1 t6 H fun t7 =>
 zah 1 t7 fun t8 =>
 zuB (.int .i64 1) t7 t8 (.int .i64 0) H K
theorem zDa {t3 t7 t8 t9 : AV} {H : zaa} {K : Kt} (Inv : Nat → AV → AV → zaa → Prop) (n : Nat) (h0 : HSc H → Inv n t3 t9 H)
  (round : Rd2 (fun t3 => fun t9 => ziX t3 t7 t8 t9) (fun t3 => fun t9 => fun H Kb3 => znx t3 t7 t8 t9 H K Kb3) H Inv) : zuB t3 t7 t8 t9 H K :=
 lp2 (M := ziW) zDb t3 t9 (by kernel_rfl) Inv n h0 round
theorem zDc {t0 : AV} {H : zaa} {K : Kt} (h : HSc H → zuA t0 H K) : ACalls tP zhP [t0] H K :=
 zar (M := ziW) Tryz.func110 (c := zny) (by kernel_rfl) (fun hs => Eq.mpr (by kernel_rfl) (h hs))
def ziY : Nat → List Bool
 | 5 => rl false [1,1,3,1,23,3,12]
 | _ => []
noncomputable def znB : Code := Tryz.f111.body.getD .skip
noncomputable def zDk : List ResultVar := Tryz.f111.results.toList
def ziZ (t1 t5 t29 t30 t31 : AV) : List AV := ux 1 (t1 :: ux 3 (t5 :: ux 23 (t29 :: t30 :: t31 :: ux 12 [])))
def zDi : List Bool := ziY 5
noncomputable def zDg : Code := zao [1, 1, 1, 0, 1, 0, 0] znB
def zDf (K : Kt) : AExit → List AV → zaa → Prop := zap tP ziY [1, 1, 1, 0, 1, 0] znB (zaA tP zDk K)
def znD (t1 t5 t29 t30 t31 : AV) (H : zaa) (K : Kt) : Prop := ALoop tP zDg (zDf K) (ziZ t1 t5 t29 t30 t31) H
def znC (t5 : AV) (H : zaa) (K : Kt) : Prop :=
 K t5 H
def zi0 (t5 : AV) (H : zaa) (K : Kt) : Prop :=
 znC t5 H K
def znA (t1 t5 t29 t30 t31 : AV) (H : zaa) (K : Kt) (Kb5 : Lt) : Prop :=
 zac .lss false t31 t30 fun t32 =>
 zaf t32
 (zaj 3 t29 t31 fun t33 =>
 zad true 3 t33 H fun t34 =>
 zaz [(.int .i64 0), (.int .i64 0), .snil] H fun t7 H =>
 zal 3 t7 t34 H fun H =>
 zad true 3 t7 H fun t36 =>
 ACalls tP zhQ [t36, t1] H fun t38 H =>
 zac .add false t5 t38 fun t39 =>
 zac .gtr false t39 (.int .i64 200) fun t41 =>
 zaf t41
 (zi0 t39 H K)
 (zac .add false t31 (.int .i64 1) fun t42 =>
 Kb5 (ziZ t1 t39 t29 t30 t42) H))
 (zi0 t5 H K)
def znz (t0 t1 : AV) (H : zaa) (K : Kt) : Prop :=
 zax t0 H fun t2 H =>
 zag 0 t2 fun t8 =>
 zad false 1 t8 H fun t9 =>
 zac .eql false t9 (.int .i64 4) fun t10 =>
 zab t10 true H (fun K' => zag 1 t2 (K' · H)) fun t12 H =>
 zab t10 true H (fun K' => zad false 1 t12 H (K' · H)) fun t13 H =>
 zab t10 true H (fun K' => zac .geq false t13 (.int .i64 0) (K' · H)) fun t14 H =>
 zai t10 t14 (.bool false) fun t15 =>
 zab t15 true H (fun K' => zag 1 t2 (K' · H)) fun t17 H =>
 zab t15 true H (fun K' => zad false 1 t17 H (K' · H)) fun t18 H =>
 zab t15 true H (fun K' => K' t1 H) fun t19 H =>
 zab t15 true H (fun K' => zah 1 t19 (K' · H)) fun t20 H =>
 zab t15 true H (fun K' => zac .lss false t18 t20 (K' · H)) fun t21 H =>
 zai t15 t21 (.bool false) fun t22 =>
 zaf t22
 (zag 1 t2 fun t24 =>
 zad false 1 t24 H fun t25 =>
 zaj 1 t1 t25 fun t26 =>
 zad false 1 t26 H fun t27 =>
 K t27 H)
 (zag 2 t2 fun t28 =>
 zad false 1 t28 H fun t29 =>
 zah 1 t29 fun t30 =>
 znD t1 (.int .i64 1) t29 t30 (.int .i64 0) H K)
theorem zDh {t1 t5 t29 t30 t31 : AV} {H : zaa} {K : Kt} (Inv : Nat → AV → AV → zaa → Prop) (n : Nat) (h0 : HSc H → Inv n t5 t31 H)
  (round : Rd2 (fun t5 => fun t31 => ziZ t1 t5 t29 t30 t31) (fun t5 => fun t31 => fun H Kb5 => znA t1 t5 t29 t30 t31 H K Kb5) H Inv) : znD t1 t5 t29 t30 t31 H K :=
 lp2 (M := ziY) zDi t5 t31 (by kernel_rfl) Inv n h0 round
theorem zDj {t0 t1 : AV} {H : zaa} {K : Kt} (h : HSc H → znz t0 t1 H K) : ACalls tP zhQ [t0, t1] H K :=
 zar (M := ziY) Tryz.func111 (c := znB) (by kernel_rfl) (fun hs => Eq.mpr (by kernel_rfl) (h hs))
def zi1 : Nat → List Bool
 | 5 => rl false [1,1,2,2,29,3,13]
 | _ => []
noncomputable def znG : Code := Tryz.f112.body.getD .skip
noncomputable def zDu : List ResultVar := Tryz.f112.results.toList
def zi2 (t1 t4 t5 t35 t36 t37 : AV) : List AV := ux 1 (t1 :: ux 2 (t4 :: t5 :: ux 29 (t35 :: t36 :: t37 :: ux 13 [])))
def zDs : List Bool := zi1 5
noncomputable def zDq : Code := zao [1, 1, 1, 0, 1, 0, 0] znG
def zDp (K : Kt) : AExit → List AV → zaa → Prop := zap tP zi1 [1, 1, 1, 0, 1, 0] znG (zaA tP zDu K)
def zgL (t1 t4 t5 t35 t36 t37 : AV) (H : zaa) (K : Kt) : Prop := ALoop tP zDq (zDp K) (zi2 t1 t4 t5 t35 t36 t37) H
def znF (t1 t4 t5 t35 t36 t37 : AV) (H : zaa) (K : Kt) (Kb5 : Lt) : Prop :=
 zac .lss false t37 t36 fun t38 =>
 zaf t38
 (zaj 3 t35 t37 fun t39 =>
 zad true 3 t39 H fun t40 =>
 zaz [(.int .i64 0), (.int .i64 0), .snil] H fun t7 H =>
 zal 3 t7 t40 H fun H =>
 zae H (fun K' => zag 2 t5 (K' · H)) fun t41 =>
 zae H (fun K' => zas false 1 t41 H (K' · H)) fun t42 =>
 zae H (fun K' => zas true 3 t7 H (K' · H)) fun t43 =>
 zae H (fun K' => K' t1 H) fun t44 =>
 zbj H (fun H K' => ACalls tP zga [t43, t44] H K') fun t45 =>
 zae H (fun K' => zay 3 [(.int .i64 0), (.int .i64 0), .snil] 1 [(0, t45)] (K' · H)) fun t46 =>
 zat zaO 3 40 t42 t46 H fun t47 H =>
 zae H (fun K' => zag 2 t5 (K' · H)) fun t48 =>
 zal 1 t48 t47 H fun H =>
 zac .add false t37 (.int .i64 1) fun t49 =>
 Kb5 (zi2 t1 t4 t5 t35 t36 t49) H)
 (zad true 3 t5 H fun t50 =>
 zal 3 t4 t50 H fun H =>
 zad true 3 t4 H fun r0 =>
 K r0 H)
def znE (t0 t1 : AV) (H : zaa) (K : Kt) : Prop :=
 zax t0 H fun t2 H =>
 zaz [(.int .i64 0), (.int .i64 0), .snil] H fun t4 H =>
 zag 0 t2 fun t8 =>
 zad false 1 t8 H fun t9 =>
 zac .eql false t9 (.int .i64 4) fun t10 =>
 zab t10 true H (fun K' => zag 1 t2 (K' · H)) fun t12 H =>
 zab t10 true H (fun K' => zad false 1 t12 H (K' · H)) fun t13 H =>
 zab t10 true H (fun K' => zac .geq false t13 (.int .i64 0) (K' · H)) fun t14 H =>
 zai t10 t14 (.bool false) fun t15 =>
 zab t15 true H (fun K' => zag 1 t2 (K' · H)) fun t17 H =>
 zab t15 true H (fun K' => zad false 1 t17 H (K' · H)) fun t18 H =>
 zab t15 true H (fun K' => K' t1 H) fun t19 H =>
 zab t15 true H (fun K' => zah 1 t19 (K' · H)) fun t20 H =>
 zab t15 true H (fun K' => zac .lss false t18 t20 (K' · H)) fun t21 H =>
 zai t15 t21 (.bool false) fun t22 =>
 zaf t22
 (zag 1 t2 fun t24 =>
 zad false 1 t24 H fun t25 =>
 zaj 3 t1 t25 fun t26 =>
 zad true 3 t26 H fun t27 =>
 ACalls tP zga [t27, .snil] H fun t28 H =>
 zal 3 t4 t28 H fun H =>
 zad true 3 t4 H fun r0 =>
 K r0 H)
 (zag 0 t2 fun t29 =>
 zad false 1 t29 H fun t30 =>
 zag 1 t2 fun t31 =>
 zad false 1 t31 H fun t32 =>
 zau [(.int .i64 0), (.int .i64 0), .snil] [(0, 1), (1, 1), (2, 1)] [(0, t30), (1, t32)] fun t33 =>
 zaz [(.int .i64 0), (.int .i64 0), .snil] H fun t5 H =>
 zal 3 t5 t33 H fun H =>
 zag 2 t2 fun t34 =>
 zad false 1 t34 H fun t35 =>
 zah 1 t35 fun t36 =>
 zgL t1 t4 t5 t35 t36 (.int .i64 0) H K)
theorem zDr {t1 t4 t5 t35 t36 t37 : AV} {H : zaa} {K : Kt} (Inv : Nat → AV → zaa → Prop) (n : Nat) (h0 : HSc H → Inv n t37 H)
  (round : Rd1 (fun t37 => zi2 t1 t4 t5 t35 t36 t37) (fun t37 => fun H Kb5 => znF t1 t4 t5 t35 t36 t37 H K Kb5) H Inv) : zgL t1 t4 t5 t35 t36 t37 H K :=
 lp1 (M := zi1) zDs t37 (by kernel_rfl) Inv n h0 round
theorem zDt {t0 t1 : AV} {H : zaa} {K : Kt} (h : HSc H → znE t0 t1 H K) : ACalls tP zga [t0, t1] H K :=
 zar (M := zi1) Tryz.func112 (c := znG) (by kernel_rfl) (fun hs => Eq.mpr (by kernel_rfl) (h hs))
def zHX (_ : Nat) : List Bool := []
noncomputable def zHY : Code := Tryz.f45.body.getD .skip
def zwx (t0 t1 t2 : AV) (H : zaa) (K : Kt) : Prop :=
 zax t1 H fun t4 H =>
 zad true 3 t4 H fun t7 =>
 ACalls tP zgq [t7] H fun t8 H =>
 zac .leq false t8 (.int .i64 200) fun t9 =>
 zab t9 true H (fun K' => K' t0 H) fun t11 H =>
 zab t9 true H (fun K' => zad true 3 t4 H (K' · H)) fun t12 H =>
 zab t9 true H (fun K' => K' t2 H) fun t13 H =>
 zab t9 true H (fun K' => ACalls tP zif [t11, t12, t13] H K') fun t14 H =>
 zai t9 t14 (.bool false) fun t15 =>
 K t15 H
theorem zHZ {t0 t1 t2 : AV} {H : zaa} {K : Kt} (h : HSc H → zwx t0 t1 t2 H K) : ACalls tP zh7 [t0, t1, t2] H K :=
 zar (M := zHX) Tryz.func45 (c := zHY) (by kernel_rfl) (fun hs => Eq.mpr (by kernel_rfl) (h hs))
def zkL : Nat → List Bool
 | 3 => rl false [1,1,1,2,16]
 | _ => []
noncomputable def zqg : Code := Tryz.f79.body.getD .skip
noncomputable def zKC : List ResultVar := Tryz.f79.results.toList
def zkM (t1 t3 t4 : AV) : List AV := ux 1 (t1 :: ux 1 (t3 :: t4 :: ux 16 []))
def zKA : List Bool := zkL 3
noncomputable def zKy : Code := zao [1, 1, 0, 1, 0, 0] zqg
def zKx (K : Kt) : AExit → List AV → zaa → Prop := zap tP zkL [1, 1, 0, 1, 0] zqg (zaA tP zKC K)
def zxP (t1 t3 t4 : AV) (H : zaa) (K : Kt) : Prop := ALoop tP zKy (zKx K) (zkM t1 t3 t4) H
def zqf (t1 t3 t4 : AV) (H : zaa) (K : Kt) (Kb3 : Lt) : Prop :=
 zag 2 t1 fun t6 =>
 zad false 1 t6 H fun t7 =>
 zah 1 t7 fun t8 =>
 zac .lss false t4 t8 fun t9 =>
 zaf t9
 (zag 2 t1 fun t13 =>
 zad false 1 t13 H fun t14 =>
 zaj 3 t14 t4 fun t16 =>
 zad true 3 t16 H fun t17 =>
 ACalls tP zgq [t17] H fun t18 H =>
 zac .add false t3 t18 fun t19 =>
 zac .add false t4 (.int .i64 1) fun t11 =>
 Kb3 (zkM t1 t19 t11) H)
 (K t3 H)
def zxO (t0 : AV) (H : zaa) (K : Kt) : Prop :=
 zax t0 H fun t1 H =>
 zxP t1 (.int .i64 1) (.int .i64 0) H K
theorem zKz {t1 t3 t4 : AV} {H : zaa} {K : Kt} (Inv : Nat → AV → AV → zaa → Prop) (n : Nat) (h0 : HSc H → Inv n t3 t4 H)
  (round : Rd2 (fun t3 => fun t4 => zkM t1 t3 t4) (fun t3 => fun t4 => fun H Kb3 => zqf t1 t3 t4 H K Kb3) H Inv) : zxP t1 t3 t4 H K :=
 lp2 (M := zkL) zKA t3 t4 (by kernel_rfl) Inv n h0 round
theorem zKB {t0 : AV} {H : zaa} {K : Kt} (h : HSc H → zxO t0 H K) : ACalls tP zgq [t0] H K :=
 zar (M := zkL) Tryz.func79 (c := zqg) (by kernel_rfl) (fun hs => Eq.mpr (by kernel_rfl) (h hs))
def zkN : Nat → List Bool
 | 24 => rl false [0,1,1,1,1,1,2,2,103]
 | _ => []
noncomputable def zqi : Code := Tryz.f80.body.getD .skip
noncomputable def zKI : List ResultVar := Tryz.f80.results.toList
def zkO (t0 t2 t4 t7 t8 : AV) : List AV := t0 :: ux 1 (t2 :: ux 1 (t4 :: ux 2 (t7 :: t8 :: ux 103 [])))
def zKG : List Bool := zkN 24
noncomputable def zKE : Code := zao [1, 1, 1, 0, 1, 0, 0] zqi
def zKD (K : Kt) : AExit → List AV → zaa → Prop := zap tP zkN [1, 1, 1, 0, 1, 0] zqi (zaA tP zKI K)
def zqj (t0 t2 t4 t7 t8 : AV) (H : zaa) (K : Kt) : Prop := ALoop tP zKE (zKD K) (zkO t0 t2 t4 t7 t8) H
def zqh (t0 t2 t4 t7 t8 : AV) (H : zaa) (K : Kt) (Kb24 : Lt) : Prop :=
 zac .lss false t8 t7 fun t100 =>
 zaf t100
 (zag 2 t4 fun t104 =>
 zad false 1 t104 H fun t105 =>
 zaj 3 t105 t8 fun t107 =>
 zad true 3 t107 H fun t108 =>
 ACalls tP zif [t0, t108, t2] H fun t110 H =>
 aUn .not t110 fun t111 =>
 zaf t111
 (K (.bool false) H)
 (zac .add false t8 (.int .i64 1) fun t102 =>
 Kb24 (zkO t0 t2 t4 t7 t102) H))
 (K (.bool true) H)
def zhh (t0 t2 t4 t7 : AV) (H : zaa) (K : Kt) : Prop :=
 zqj t0 t2 t4 t7 (.int .i64 0) H K
def zea (t0 t2 t4 t7 : AV) (H : zaa) (K : Kt) : Prop :=
 zhh t0 t2 t4 t7 H K
def zdi (t0 t2 t4 t7 t13 t75 : AV) (H : zaa) (K : Kt) : Prop :=
 zaf t75
 (zag 1 t4 fun t78 =>
 zad false 1 t78 H fun t79 =>
 zac .neq false t79 (.int .i64 0) fun t80 =>
 zab t80 false H (fun K' => K' t7 H) fun t82 H =>
 zab t80 false H (fun K' => zac .neq false t82 (.int .i64 1) (K' · H)) fun t83 H =>
 zai t80 (.bool true) t83 fun t84 =>
 zaf t84
 (K (.bool false) H)
 (zea t0 t2 t4 t7 H K))
 (zac .eql false t13 (.int .i64 9) fun t86 =>
 zaf t86
 (zag 1 t4 fun t87 =>
 zad false 1 t87 H fun t88 =>
 zac .neq false t88 (.int .i64 0) fun t89 =>
 zab t89 false H (fun K' => K' t7 H) fun t91 H =>
 zab t89 false H (fun K' => zac .lss false t91 (.int .i64 1) (K' · H)) fun t92 H =>
 zai t89 (.bool true) t92 fun t93 =>
 zab t93 false H (fun K' => K' t7 H) fun t95 H =>
 zab t93 false H (fun K' => zac .gtr false t95 (.int .i64 7) (K' · H)) fun t96 H =>
 zai t93 (.bool true) t96 fun t97 =>
 zaf t97
 (K (.bool false) H)
 (zea t0 t2 t4 t7 H K))
 (K (.bool false) H))
def zbl (t0 t2 t4 t7 t13 t14 : AV) (H : zaa) (K : Kt) : Prop :=
 zaf t14
 (zag 1 t4 fun t18 =>
 zad false 1 t18 H fun t19 =>
 zac .eql false t19 (.int .i64 0) fun t20 =>
 zab t20 true H (fun K' => K' t7 H) fun t22 H =>
 zab t20 true H (fun K' => zac .eql false t22 (.int .i64 0) (K' · H)) fun t23 H =>
 zai t20 t23 (.bool false) fun t24 =>
 K t24 H)
 (zac .eql false t13 (.int .i64 4) fun t26 =>
 zaf t26
 (zag 1 t4 fun t27 =>
 zad false 1 t27 H fun t28 =>
 zac .geq false t28 (.int .i64 0) fun t29 =>
 zab t29 true H (fun K' => zag 1 t4 (K' · H)) fun t31 H =>
 zab t29 true H (fun K' => zad false 1 t31 H (K' · H)) fun t32 H =>
 zab t29 true H (fun K' => K' t2 H) fun t33 H =>
 zab t29 true H (fun K' => zac .lss false t32 t33 (K' · H)) fun t34 H =>
 zai t29 t34 (.bool false) fun t35 =>
 zab t35 true H (fun K' => K' t7 H) fun t37 H =>
 zab t35 true H (fun K' => zac .eql false t37 (.int .i64 0) (K' · H)) fun t38 H =>
 zai t35 t38 (.bool false) fun t39 =>
 K t39 H)
 (zac .eql false t13 (.int .i64 5) fun t41 =>
 zaf t41
 (zag 1 t4 fun t42 =>
 zad false 1 t42 H fun t43 =>
 zac .lss false t43 (.int .i64 0) fun t44 =>
 zab t44 false H (fun K' => zag 1 t4 (K' · H)) fun t46 H =>
 zab t44 false H (fun K' => zad false 1 t46 H (K' · H)) fun t47 H =>
 zab t44 false H (fun K' => K' t0 H) fun t48 H =>
 zab t44 false H (fun K' => zah 1 t48 (K' · H)) fun t49 H =>
 zab t44 false H (fun K' => zac .geq false t47 t49 (K' · H)) fun t50 H =>
 zai t44 (.bool true) t50 fun t51 =>
 zab t51 false H (fun K' => K' t7 H) fun t53 H =>
 zab t51 false H (fun K' => K' t0 H) fun t54 H =>
 zab t51 false H (fun K' => zag 1 t4 (K' · H)) fun t55 H =>
 zab t51 false H (fun K' => zad false 1 t55 H (K' · H)) fun t56 H =>
 zab t51 false H (fun K' => zaj 3 t54 t56 (K' · H)) fun t57 H =>
 zab t51 false H (fun K' => zag 1 t57 (K' · H)) fun t58 H =>
 zab t51 false H (fun K' => zad false 1 t58 H (K' · H)) fun t59 H =>
 zab t51 false H (fun K' => zac .neq false t53 t59 (K' · H)) fun t60 H =>
 zai t51 (.bool true) t60 fun t61 =>
 zaf t61
 (K (.bool false) H)
 (zea t0 t2 t4 t7 H K))
 (zac .eql false t13 (.int .i64 6) fun t63 =>
 zaf t63
 (zag 1 t4 fun t64 =>
 zad false 1 t64 H fun t65 =>
 zac .neq false t65 (.int .i64 0) fun t66 =>
 zab t66 false H (fun K' => K' t7 H) fun t68 H =>
 zab t66 false H (fun K' => zac .lss false t68 (.int .i64 2) (K' · H)) fun t69 H =>
 zai t66 (.bool true) t69 fun t70 =>
 zab t70 false H (fun K' => K' t7 H) fun t72 H =>
 zab t70 false H (fun K' => zac .gtr false t72 (.int .i64 6) (K' · H)) fun t73 H =>
 zai t70 (.bool true) t73 fun t74 =>
 zaf t74
 (K (.bool false) H)
 (zea t0 t2 t4 t7 H K))
 (zac .eql false t13 (.int .i64 7) fun t76 =>
 zaf t76
 (zdi t0 t2 t4 t7 t13 t76 H K)
 (zac .eql false t13 (.int .i64 8) fun t77 =>
 zdi t0 t2 t4 t7 t13 t77 H K)))))
def zbX (t0 t1 t2 : AV) (H : zaa) (K : Kt) : Prop :=
 zax t1 H fun t4 H =>
 zag 2 t4 fun t9 =>
 zad false 1 t9 H fun t10 =>
 zah 1 t10 fun t11 =>
 zag 0 t4 fun t12 =>
 zad false 1 t12 H fun t13 =>
 zac .eql false t13 (.int .i64 1) fun t15 =>
 zaf t15
 (zbl t0 t2 t4 t11 t13 t15 H K)
 (zac .eql false t13 (.int .i64 2) fun t16 =>
 zaf t16
 (zbl t0 t2 t4 t11 t13 t16 H K)
 (zac .eql false t13 (.int .i64 3) fun t17 =>
 zbl t0 t2 t4 t11 t13 t17 H K))
theorem zKF {t0 t2 t4 t7 t8 : AV} {H : zaa} {K : Kt} (Inv : Nat → AV → zaa → Prop) (n : Nat) (h0 : HSc H → Inv n t8 H)
  (round : Rd1 (fun t8 => zkO t0 t2 t4 t7 t8) (fun t8 => fun H Kb24 => zqh t0 t2 t4 t7 t8 H K Kb24) H Inv) : zqj t0 t2 t4 t7 t8 H K :=
 lp1 (M := zkN) zKG t8 (by kernel_rfl) Inv n h0 round
theorem zKH {t0 t1 t2 : AV} {H : zaa} {K : Kt} (h : HSc H → zbX t0 t1 t2 H K) : ACalls tP zif [t0, t1, t2] H K :=
 zar (M := zkN) Tryz.func80 (c := zqi) (by kernel_rfl) (fun hs => Eq.mpr (by kernel_rfl) (h hs))
def zkk : Nat → List Bool
 | 5 => rl false [4,1,3,1,54,3,16]
 | _ => []
noncomputable def zpF : Code := Tryz.f54.body.getD .skip
noncomputable def zIF : List ResultVar := Tryz.f54.results.toList
def zkl (t4 t8 t63 t64 t65 : AV) : List AV := ux 4 (t4 :: ux 3 (t8 :: ux 54 (t63 :: t64 :: t65 :: ux 16 [])))
def zID : List Bool := zkk 5
noncomputable def zIB : Code := zao [1, 1, 1, 0, 1, 0, 0] zpF
def zIA (K : Kt) : AExit → List AV → zaa → Prop := zap tP zkk [1, 1, 1, 0, 1, 0] zpF (zaA tP zIF K)
def zkm (t4 t8 t63 t64 t65 : AV) (H : zaa) (K : Kt) : Prop := ALoop tP zIB (zIA K) (zkl t4 t8 t63 t64 t65) H
def zpE (t4 t8 t63 t64 t65 : AV) (H : zaa) (K : Kt) (Kb5 : Lt) : Prop :=
 zac .lss false t65 t64 fun t66 =>
 zaf t66
 (zaj 3 t63 t65 fun t67 =>
 zad true 3 t67 H fun t68 =>
 zaz [(.int .i64 0), (.int .i64 0), .snil] H fun t10 H =>
 zal 3 t10 t68 H fun H =>
 zad true 3 t10 H fun t69 =>
 zag 2 t4 fun t70 =>
 zad false 1 t70 H fun t71 =>
 ACalls tP zii [t69, t71] H fun t72 H =>
 zaz [(.int .i64 0), (.int .i64 0), .snil] H fun t11 H =>
 zal 3 t11 t72 H fun H =>
 zad true 3 t11 H fun t73 =>
 ACalls tP zgq [t73] H fun t74 H =>
 zac .gtr false t74 (.int .i64 200) fun t75 =>
 zaf t75
 (zaw [.snil, (.bool false)] (K · H))
 (zad true 3 t11 H fun t77 =>
 zay 3 [(.int .i64 0), (.int .i64 0), .snil] 1 [(0, t77)] fun t78 =>
 zat zaO 3 40 t8 t78 H fun t79 H =>
 zac .add false t65 (.int .i64 1) fun t80 =>
 Kb5 (zkl t4 t79 t63 t64 t80) H))
 (zaw [t8, (.bool true)] (K · H))
def zwN (t0 t1 t2 : AV) (H : zaa) (K : Kt) : Prop :=
 zax t1 H fun t4 H =>
 zae H (fun K' => zag 0 t4 (K' · H)) fun t12 =>
 zae H (fun K' => zas false 1 t12 H (K' · H)) fun t13 =>
 zae H (fun K' => zac .neq false t13 (.int .i64 5) (K' · H)) fun t14 =>
 zae H (fun K' => K' t14 H) fun t15 =>
 zab t15 false H (fun K' => zae H (fun K'' => zag 1 t4 (K'' · H)) (K' · H)) fun t16 H =>
 zab t15 false H (fun K' => zae H (fun K'' => zas false 1 t16 H (K'' · H)) (K' · H)) fun t17 H =>
 zab t15 false H (fun K' => zae H (fun K'' => zac .lss false t17 (.int .i64 0) (K'' · H)) (K' · H)) fun t18 H =>
 zae H (fun K' => zai t15 (.bool true) t18 (K' · H)) fun t19 =>
 zae H (fun K' => K' t19 H) fun t20 =>
 zab t20 false H (fun K' => zae H (fun K'' => zag 1 t4 (K'' · H)) (K' · H)) fun t21 H =>
 zab t20 false H (fun K' => zae H (fun K'' => zas false 1 t21 H (K'' · H)) (K' · H)) fun t22 H =>
 zab t20 false H (fun K' => zae H (fun K'' => K'' t0 H) (K' · H)) fun t23 H =>
 zab t20 false H (fun K' => zae H (fun K'' => zah 1 t23 (K'' · H)) (K' · H)) fun t24 H =>
 zab t20 false H (fun K' => zae H (fun K'' => zac .geq false t22 t24 (K'' · H)) (K' · H)) fun t25 H =>
 zae H (fun K' => zai t20 (.bool true) t25 (K' · H)) fun t26 =>
 zae H (fun K' => K' t26 H) fun t27 =>
 zab t27 false H (fun K' => zae H (fun K'' => zag 2 t4 (K'' · H)) (K' · H)) fun t28 H =>
 zab t27 false H (fun K' => zae H (fun K'' => zas false 1 t28 H (K'' · H)) (K' · H)) fun t29 H =>
 zab t27 false H (fun K' => zae H (fun K'' => zah 1 t29 (K'' · H)) (K' · H)) fun t30 H =>
 zab t27 false H (fun K' => zae H (fun K'' => K'' t0 H) (K' · H)) fun t31 H =>
 zab t27 false H (fun K' => zae H (fun K'' => zag 1 t4 (K'' · H)) (K' · H)) fun t32 H =>
 zab t27 false H (fun K' => zae H (fun K'' => zas false 1 t32 H (K'' · H)) (K' · H)) fun t33 H =>
 zab t27 false H (fun K' => zae H (fun K'' => zaj 3 t31 t33 (K'' · H)) (K' · H)) fun t34 H =>
 zab t27 false H (fun K' => zae H (fun K'' => zag 1 t34 (K'' · H)) (K' · H)) fun t35 H =>
 zab t27 false H (fun K' => zae H (fun K'' => zas false 1 t35 H (K'' · H)) (K' · H)) fun t36 H =>
 zab t27 false H (fun K' => zae H (fun K'' => zac .neq false t30 t36 (K'' · H)) (K' · H)) fun t37 H =>
 zae H (fun K' => zai t27 (.bool true) t37 (K' · H)) fun t38 =>
 zae H (fun K' => K' t38 H) fun t39 =>
 zab t39 false H (fun K' => zae H (fun K'' => K'' t2 H) (K' · H)) fun t40 H =>
 zab t39 false H (fun K' => zae H (fun K'' => zac .lss false t40 (.int .i64 0) (K'' · H)) (K' · H)) fun t41 H =>
 zae H (fun K' => zai t39 (.bool true) t41 (K' · H)) fun t42 =>
 zae H (fun K' => K' t42 H) fun t43 =>
 zab t43 false H (fun K' => zae H (fun K'' => K'' t2 H) (K' · H)) fun t44 H =>
 zab t43 false H (fun K' => zae H (fun K'' => K'' t0 H) (K' · H)) fun t45 H =>
 zab t43 false H (fun K' => zae H (fun K'' => zag 1 t4 (K'' · H)) (K' · H)) fun t46 H =>
 zab t43 false H (fun K' => zae H (fun K'' => zas false 1 t46 H (K'' · H)) (K' · H)) fun t47 H =>
 zab t43 false H (fun K' => zae H (fun K'' => zaj 3 t45 t47 (K'' · H)) (K' · H)) fun t48 H =>
 zab t43 false H (fun K' => zae H (fun K'' => zag 2 t48 (K'' · H)) (K' · H)) fun t49 H =>
 zab t43 false H (fun K' => zae H (fun K'' => zas false 1 t49 H (K'' · H)) (K' · H)) fun t50 H =>
 zab t43 false H (fun K' => zae H (fun K'' => zah 1 t50 (K'' · H)) (K' · H)) fun t51 H =>
 zab t43 false H (fun K' => zae H (fun K'' => zac .geq false t44 t51 (K'' · H)) (K' · H)) fun t52 H =>
 zae H (fun K' => zai t43 (.bool true) t52 (K' · H)) fun t53 =>
 zaf t53
 (zaw [.snil, (.bool false)] (K · H))
 (zag 1 t4 fun t55 =>
 zad false 1 t55 H fun t56 =>
 zaj 3 t0 t56 fun t57 =>
 zag 2 t57 fun t58 =>
 zad false 1 t58 H fun t59 =>
 zaj 2 t59 t2 fun t61 =>
 zag 1 t61 fun t62 =>
 zad false 1 t62 H fun t63 =>
 zah 1 t63 fun t64 =>
 zkm t4 .snil t63 t64 (.int .i64 0) H K)
theorem zIC {t4 t8 t63 t64 t65 : AV} {H : zaa} {K : Kt} (Inv : Nat → AV → AV → zaa → Prop) (n : Nat) (h0 : HSc H → Inv n t8 t65 H)
  (round : Rd2 (fun t8 => fun t65 => zkl t4 t8 t63 t64 t65) (fun t8 => fun t65 => fun H Kb5 => zpE t4 t8 t63 t64 t65 H K Kb5) H Inv) : zkm t4 t8 t63 t64 t65 H K :=
 lp2 (M := zkk) zID t8 t65 (by kernel_rfl) Inv n h0 round
theorem zIE {t0 t1 t2 : AV} {H : zaa} {K : Kt} (h : HSc H → zwN t0 t1 t2 H K) : ACalls tP zib [t0, t1, t2] H K :=
 zar (M := zkk) Tryz.func54 (c := zpF) (by kernel_rfl) (fun hs => Eq.mpr (by kernel_rfl) (h hs))
def zk0 : Nat → List Bool
 | 5 => rl false [1,2,1,3,46]
 | _ => []
noncomputable def zqB : Code := Tryz.f89.body.getD .skip
noncomputable def zLx : List ResultVar := Tryz.f89.results.toList
def zk1 (t1 t2 t4 t5 t6 : AV) : List AV := ux 1 (t1 :: t2 :: ux 1 (t4 :: t5 :: t6 :: ux 46 []))
def zLv : List Bool := zk0 5
noncomputable def zLt : Code := zao [1, 1, 1, 0, 1, 0, 0] zqB
def zLs (K : Kt) : AExit → List AV → zaa → Prop := zap tP zk0 [1, 1, 1, 0, 1, 0] zqB (zaA tP zLx K)
def zqC (t1 t2 t4 t5 t6 : AV) (H : zaa) (K : Kt) : Prop := ALoop tP zLt (zLs K) (zk1 t1 t2 t4 t5 t6) H
def zqA (t1 t2 t4 t5 t6 : AV) (H : zaa) (K : Kt) (Kb5 : Lt) : Prop :=
 zag 2 t2 fun t34 =>
 zad false 1 t34 H fun t35 =>
 zah 1 t35 fun t36 =>
 zac .lss false t6 t36 fun t37 =>
 zaf t37
 (zae H (fun K' => zag 2 t5 (K' · H)) fun t40 =>
 zae H (fun K' => zas false 1 t40 H (K' · H)) fun t41 =>
 zae H (fun K' => zag 2 t2 (K' · H)) fun t42 =>
 zae H (fun K' => zas false 1 t42 H (K' · H)) fun t43 =>
 zae H (fun K' => K' t6 H) fun t44 =>
 zae H (fun K' => zaj 3 t43 t44 (K' · H)) fun t45 =>
 zae H (fun K' => zas true 3 t45 H (K' · H)) fun t46 =>
 zae H (fun K' => K' t1 H) fun t47 =>
 zbj H (fun H K' => ACalls tP zii [t46, t47] H K') fun t48 =>
 zae H (fun K' => zay 3 [(.int .i64 0), (.int .i64 0), .snil] 1 [(0, t48)] (K' · H)) fun t49 =>
 zat zaO 3 40 t41 t49 H fun t50 H =>
 zae H (fun K' => zag 2 t5 (K' · H)) fun t51 =>
 zal 1 t51 t50 H fun H =>
 zac .add false t6 (.int .i64 1) fun t39 =>
 Kb5 (zk1 t1 t2 t4 t5 t39) H)
 (zad true 3 t5 H fun t52 =>
 zal 3 t4 t52 H fun H =>
 zad true 3 t4 H fun r0 =>
 K r0 H)
def zqz (t0 t1 : AV) (H : zaa) (K : Kt) : Prop :=
 zax t0 H fun t2 H =>
 zaz [(.int .i64 0), (.int .i64 0), .snil] H fun t4 H =>
 zag 0 t2 fun t7 =>
 zad false 1 t7 H fun t8 =>
 zac .eql false t8 (.int .i64 4) fun t9 =>
 zab t9 true H (fun K' => zag 1 t2 (K' · H)) fun t11 H =>
 zab t9 true H (fun K' => zad false 1 t11 H (K' · H)) fun t12 H =>
 zab t9 true H (fun K' => zac .geq false t12 (.int .i64 0) (K' · H)) fun t13 H =>
 zai t9 t13 (.bool false) fun t14 =>
 zab t14 true H (fun K' => zag 1 t2 (K' · H)) fun t16 H =>
 zab t14 true H (fun K' => zad false 1 t16 H (K' · H)) fun t17 H =>
 zab t14 true H (fun K' => K' t1 H) fun t18 H =>
 zab t14 true H (fun K' => zah 1 t18 (K' · H)) fun t19 H =>
 zab t14 true H (fun K' => zac .lss false t17 t19 (K' · H)) fun t20 H =>
 zai t14 t20 (.bool false) fun t21 =>
 zaf t21
 (zag 1 t2 fun t23 =>
 zad false 1 t23 H fun t24 =>
 zaj 3 t1 t24 fun t25 =>
 zad true 3 t25 H fun t26 =>
 ACalls tP zhR [t26] H fun t27 H =>
 zal 3 t4 t27 H fun H =>
 zad true 3 t4 H fun r0 =>
 K r0 H)
 (zag 0 t2 fun t28 =>
 zad false 1 t28 H fun t29 =>
 zag 1 t2 fun t30 =>
 zad false 1 t30 H fun t31 =>
 zau [(.int .i64 0), (.int .i64 0), .snil] [(0, 1), (1, 1), (2, 1)] [(0, t29), (1, t31)] fun t32 =>
 zaz [(.int .i64 0), (.int .i64 0), .snil] H fun t5 H =>
 zal 3 t5 t32 H fun H =>
 zqC t1 t2 t4 t5 (.int .i64 0) H K)
theorem zLu {t1 t2 t4 t5 t6 : AV} {H : zaa} {K : Kt} (Inv : Nat → AV → zaa → Prop) (n : Nat) (h0 : HSc H → Inv n t6 H)
  (round : Rd1 (fun t6 => zk1 t1 t2 t4 t5 t6) (fun t6 => fun H Kb5 => zqA t1 t2 t4 t5 t6 H K Kb5) H Inv) : zqC t1 t2 t4 t5 t6 H K :=
 lp1 (M := zk0) zLv t6 (by kernel_rfl) Inv n h0 round
theorem zLw {t0 t1 : AV} {H : zaa} {K : Kt} (h : HSc H → zqz t0 t1 H K) : ACalls tP zii [t0, t1] H K :=
 zar (M := zk0) Tryz.func89 (c := zqB) (by kernel_rfl) (fun hs => Eq.mpr (by kernel_rfl) (h hs))
def zi3 : Nat → List Bool
 | 3 => rl false [1,4,24]
 | _ => []
noncomputable def znI : Code := Tryz.f113.body.getD .skip
noncomputable def zDB : List ResultVar := Tryz.f113.results.toList
def zi4 (t1 t2 t3 t4 : AV) : List AV := ux 1 (t1 :: t2 :: t3 :: t4 :: ux 24 [])
def zDz : List Bool := zi3 3
noncomputable def zDx : Code := zao [1, 1, 0, 1, 0, 0] znI
def zDw (K : Kt) : AExit → List AV → zaa → Prop := zap tP zi3 [1, 1, 0, 1, 0] znI (zaA tP zDB K)
def zuE (t1 t2 t3 t4 : AV) (H : zaa) (K : Kt) : Prop := ALoop tP zDx (zDw K) (zi4 t1 t2 t3 t4) H
def znH (t1 t2 t3 t4 : AV) (H : zaa) (K : Kt) (Kb3 : Lt) : Prop :=
 zag 2 t1 fun t11 =>
 zad false 1 t11 H fun t12 =>
 zah 1 t12 fun t13 =>
 zac .lss false t4 t13 fun t14 =>
 zaf t14
 (zae H (fun K' => zag 2 t3 (K' · H)) fun t17 =>
 zae H (fun K' => zas false 1 t17 H (K' · H)) fun t18 =>
 zae H (fun K' => zag 2 t1 (K' · H)) fun t19 =>
 zae H (fun K' => zas false 1 t19 H (K' · H)) fun t20 =>
 zae H (fun K' => K' t4 H) fun t21 =>
 zae H (fun K' => zaj 3 t20 t21 (K' · H)) fun t22 =>
 zae H (fun K' => zas true 3 t22 H (K' · H)) fun t23 =>
 zbj H (fun H K' => ACalls tP zhR [t23] H K') fun t24 =>
 zae H (fun K' => zay 3 [(.int .i64 0), (.int .i64 0), .snil] 1 [(0, t24)] (K' · H)) fun t25 =>
 zat zaO 3 40 t18 t25 H fun t26 H =>
 zae H (fun K' => zag 2 t3 (K' · H)) fun t27 =>
 zal 1 t27 t26 H fun H =>
 zac .add false t4 (.int .i64 1) fun t16 =>
 Kb3 (zi4 t1 t2 t3 t16) H)
 (zad true 3 t3 H fun t28 =>
 zal 3 t2 t28 H fun H =>
 zad true 3 t2 H fun r0 =>
 K r0 H)
def zuD (t0 : AV) (H : zaa) (K : Kt) : Prop :=
 zax t0 H fun t1 H =>
 zaz [(.int .i64 0), (.int .i64 0), .snil] H fun t2 H =>
 zag 0 t1 fun t5 =>
 zad false 1 t5 H fun t6 =>
 zag 1 t1 fun t7 =>
 zad false 1 t7 H fun t8 =>
 zau [(.int .i64 0), (.int .i64 0), .snil] [(0, 1), (1, 1), (2, 1)] [(0, t6), (1, t8)] fun t9 =>
 zaz [(.int .i64 0), (.int .i64 0), .snil] H fun t3 H =>
 zal 3 t3 t9 H fun H =>
 zuE t1 t2 t3 (.int .i64 0) H K
theorem zDy {t1 t2 t3 t4 : AV} {H : zaa} {K : Kt} (Inv : Nat → AV → zaa → Prop) (n : Nat) (h0 : HSc H → Inv n t4 H)
  (round : Rd1 (fun t4 => zi4 t1 t2 t3 t4) (fun t4 => fun H Kb3 => znH t1 t2 t3 t4 H K Kb3) H Inv) : zuE t1 t2 t3 t4 H K :=
 lp1 (M := zi3) zDz t4 (by kernel_rfl) Inv n h0 round
theorem zDA {t0 : AV} {H : zaa} {K : Kt} (h : HSc H → zuD t0 H K) : ACalls tP zhR [t0] H K :=
 zar (M := zi3) Tryz.func113 (c := znI) (by kernel_rfl) (fun hs => Eq.mpr (by kernel_rfl) (h hs))
def zeF : Nat → List Bool
 | 6 => rl false [0,2,6,1,38,3,56]
 | 10 => rl false [0,2,6,2,37,3,28,3,25]
 | _ => []
noncomputable def zqt : Code := Tryz.f87.body.getD .skip
noncomputable def zLn : List ResultVar := Tryz.f87.results.toList
def zkY (t0 t1 t8 t47 t48 t49 : AV) : List AV := t0 :: t1 :: ux 6 (t8 :: ux 38 (t47 :: t48 :: t49 :: ux 56 []))
def zx0 : List Bool := zeF 6
noncomputable def zqu : Code := zao [1, 1, 1, 1, 0, 1, 0, 0] zqt
def zxY (K : Kt) : AExit → List AV → zaa → Prop := zap tP zeF [1, 1, 1, 1, 0, 1, 0] zqt (zaA tP zLn K)
def zxZ (t0 t1 t8 t47 t48 t49 : AV) (H : zaa) (K : Kt) : Prop := ALoop tP zqu (zxY K) (zkY t0 t1 t8 t47 t48 t49) H
def zkX (t0 t1 t8 t9 t47 t48 t49 t78 t79 t80 : AV) : List AV := t0 :: t1 :: ux 6 (t8 :: t9 :: ux 37 (t47 :: t48 :: t49 :: ux 28 (t78 :: t79 :: t80 :: ux 25 [])))
def zLl : List Bool := zeF 10
noncomputable def zLi : Code := zao [1, 1, 0, 0, 1, 1, 1, 0, 0] zqu
def zLh (K : Kt) (Kb6 : Lt) : AExit → List AV → zaa → Prop := zap tP zeF [1, 1, 0, 0, 1, 1, 1, 0] zqu (zaU zx0 Kb6 (zxY K))
def zqw (t0 t1 t8 t9 t47 t48 t49 t78 t79 t80 : AV) (H : zaa) (K : Kt) (Kb6 : Lt) : Prop := ALoop tP zLi (zLh K Kb6) (zkX t0 t1 t8 t9 t47 t48 t49 t78 t79 t80) H
def zqv (t0 t1 t8 t9 t47 t48 t49 t78 t79 t80 : AV) (H : zaa) (K : Kt) (Kb6 : Lt) (Kb10 : Lt) : Prop :=
 zac .add false t80 (.int .i64 1) fun t103 =>
 Kb10 (zkX t0 t1 t8 t9 t47 t48 t49 t78 t79 t103) H
def zfB (t0 t1 t8 t9 t47 t48 t49 t78 t79 t80 : AV) (H : zaa) (K : Kt) (Kb6 : Lt) (Kb10 : Lt) : Prop :=
 zqv t0 t1 t8 t9 t47 t48 t49 t78 t79 t80 H K Kb6 Kb10
def zfA (t0 t1 t8 t9 t47 t48 t49 t78 t79 t80 : AV) (H : zaa) (K : Kt) (Kb6 : Lt) (Kb10 : Lt) : Prop :=
 zac .lss false t80 t79 fun t81 =>
 zaf t81
 (zaj 3 t78 t80 fun t83 =>
 zad true 3 t83 H fun t84 =>
 zaz [(.int .i64 0), (.int .i64 0), .snil] H fun t12 H =>
 zal 3 t12 t84 H fun H =>
 zag 0 t12 fun t85 =>
 zad false 1 t85 H fun t86 =>
 zac .neq false t86 (.int .i64 4) fun t87 =>
 zab t87 false H (fun K' => zag 1 t12 (K' · H)) fun t89 H =>
 zab t87 false H (fun K' => zad false 1 t89 H (K' · H)) fun t90 H =>
 zab t87 false H (fun K' => K' t80 H) fun t91 H =>
 zab t87 false H (fun K' => zac .neq false t90 t91 (K' · H)) fun t92 H =>
 zai t87 (.bool true) t92 fun t93 =>
 zab t93 false H (fun K' => zag 2 t12 (K' · H)) fun t95 H =>
 zab t93 false H (fun K' => zad false 1 t95 H (K' · H)) fun t96 H =>
 zab t93 false H (fun K' => zah 1 t96 (K' · H)) fun t97 H =>
 zab t93 false H (fun K' => zac .gtr false t97 (.int .i64 0) (K' · H)) fun t98 H =>
 zai t93 (.bool true) t98 fun t99 =>
 zaf t99
 (zaj 1 t8 t9 fun t102 =>
 zal 1 t102 (.bool false) H fun H =>
 zfB t0 t1 t8 t9 t47 t48 t49 t78 t79 t80 H K Kb6 Kb10)
 (zfB t0 t1 t8 t9 t47 t48 t49 t78 t79 t80 H K Kb6 Kb10))
 (zac .add false t49 (.int .i64 1) fun t104 =>
 Kb6 (zkY t0 t1 t8 t47 t48 t104) H)
def zhi (t0 t1 t8 t47 t48 t49 : AV) (H : zaa) (K : Kt) (Kb6 : Lt) : Prop :=
 zac .lss false t49 t48 fun t50 =>
 zaf t50
 (zaj 3 t47 t49 fun t52 =>
 zad true 3 t52 H fun t53 =>
 zaz [(.int .i64 0), (.int .i64 0), .snil] H fun t10 H =>
 zal 3 t10 t53 H fun H =>
 zae H (fun K' => K' t8 H) fun t54 =>
 zae H (fun K' => K' t49 H) fun t55 =>
 zae H (fun K' => zag 0 t10 (K' · H)) fun t56 =>
 zae H (fun K' => zas false 1 t56 H (K' · H)) fun t57 =>
 zae H (fun K' => zac .eql false t57 (.int .i64 5) (K' · H)) fun t58 =>
 zae H (fun K' => K' t58 H) fun t59 =>
 zab t59 true H (fun K' => zae H (fun K'' => zag 1 t10 (K'' · H)) (K' · H)) fun t60 H =>
 zab t59 true H (fun K' => zae H (fun K'' => zas false 1 t60 H (K'' · H)) (K' · H)) fun t61 H =>
 zab t59 true H (fun K' => zae H (fun K'' => K'' t1 H) (K' · H)) fun t62 H =>
 zab t59 true H (fun K' => zae H (fun K'' => zac .eql false t61 t62 (K'' · H)) (K' · H)) fun t63 H =>
 zae H (fun K' => zai t59 t63 (.bool false) (K' · H)) fun t64 =>
 zae H (fun K' => K' t64 H) fun t65 =>
 zab t65 true H (fun K' => zae H (fun K'' => zag 2 t10 (K'' · H)) (K' · H)) fun t66 H =>
 zab t65 true H (fun K' => zae H (fun K'' => zas false 1 t66 H (K'' · H)) (K' · H)) fun t67 H =>
 zab t65 true H (fun K' => zae H (fun K'' => zah 1 t67 (K'' · H)) (K' · H)) fun t68 H =>
 zab t65 true H (fun K' => zae H (fun K'' => K'' t0 H) (K' · H)) fun t69 H =>
 zab t65 true H (fun K' => zae H (fun K'' => K'' t1 H) (K' · H)) fun t70 H =>
 zab t65 true H (fun K' => zae H (fun K'' => zaj 3 t69 t70 (K'' · H)) (K' · H)) fun t71 H =>
 zab t65 true H (fun K' => zae H (fun K'' => zag 1 t71 (K'' · H)) (K' · H)) fun t72 H =>
 zab t65 true H (fun K' => zae H (fun K'' => zas false 1 t72 H (K'' · H)) (K' · H)) fun t73 H =>
 zab t65 true H (fun K' => zae H (fun K'' => zac .eql false t68 t73 (K'' · H)) (K' · H)) fun t74 H =>
 zae H (fun K' => zai t65 t74 (.bool false) (K' · H)) fun t75 =>
 zae H (fun K' => zaj 1 t54 t55 (K' · H)) fun t76 =>
 zal 1 t76 t75 H fun H =>
 zag 2 t10 fun t77 =>
 zad false 1 t77 H fun t78 =>
 zah 1 t78 fun t79 =>
 zqw t0 t1 t8 t49 t47 t48 t49 t78 t79 (.int .i64 0) H K Kb6)
 (K t8 H)
def zxX (t0 t1 t2 : AV) (H : zaa) (K : Kt) : Prop :=
 zac .lss false t1 (.int .i64 0) fun t14 =>
 zab t14 false H (fun K' => K' t1 H) fun t16 H =>
 zab t14 false H (fun K' => K' t0 H) fun t17 H =>
 zab t14 false H (fun K' => zah 1 t17 (K' · H)) fun t18 H =>
 zab t14 false H (fun K' => zac .geq false t16 t18 (K' · H)) fun t19 H =>
 zai t14 (.bool true) t19 fun t20 =>
 zab t20 false H (fun K' => K' t2 H) fun t22 H =>
 zab t20 false H (fun K' => zac .lss false t22 (.int .i64 0) (K' · H)) fun t23 H =>
 zai t20 (.bool true) t23 fun t24 =>
 zab t24 false H (fun K' => K' t2 H) fun t26 H =>
 zab t24 false H (fun K' => K' t0 H) fun t27 H =>
 zab t24 false H (fun K' => K' t1 H) fun t28 H =>
 zab t24 false H (fun K' => zaj 3 t27 t28 (K' · H)) fun t29 H =>
 zab t24 false H (fun K' => zag 2 t29 (K' · H)) fun t30 H =>
 zab t24 false H (fun K' => zad false 1 t30 H (K' · H)) fun t31 H =>
 zab t24 false H (fun K' => zah 1 t31 (K' · H)) fun t32 H =>
 zab t24 false H (fun K' => zac .geq false t26 t32 (K' · H)) fun t33 H =>
 zai t24 (.bool true) t33 fun t34 =>
 zaf t34
 (K .snil H)
 (zaj 3 t0 t1 fun t37 =>
 zag 2 t37 fun t38 =>
 zad false 1 t38 H fun t39 =>
 zaj 2 t39 t2 fun t41 =>
 zag 1 t41 fun t42 =>
 zad false 1 t42 H fun t43 =>
 zah 1 t43 fun t45 =>
 za4 1 [(.bool false)] t45 t45 H fun t46 H =>
 zah 1 t43 fun t48 =>
 zxZ t0 t1 t46 t43 t48 (.int .i64 0) H K)
theorem zLj {t0 t1 t8 t9 t47 t48 t49 t78 t79 t80 : AV} {H : zaa} {K : Kt} {Kb6 : Lt} (Inv : Nat → AV → zaa → Prop) (n : Nat) (h0 : HSc H → Inv n t80 H)
  (round : Rd1 (fun t80 => zkX t0 t1 t8 t9 t47 t48 t49 t78 t79 t80) (fun t80 => fun H Kb10 => zfA t0 t1 t8 t9 t47 t48 t49 t78 t79 t80 H K Kb6 Kb10) H Inv) : zqw t0 t1 t8 t9 t47 t48 t49 t78 t79 t80 H K Kb6 :=
 lp1 (M := zeF) zLl t80 (by kernel_rfl) Inv n h0 round
theorem zLk {t0 t1 t8 t47 t48 t49 : AV} {H : zaa} {K : Kt} (Inv : Nat → AV → zaa → Prop) (n : Nat) (h0 : HSc H → Inv n t49 H)
  (round : Rd1 (fun t49 => zkY t0 t1 t8 t47 t48 t49) (fun t49 => fun H Kb6 => zhi t0 t1 t8 t47 t48 t49 H K Kb6) H Inv) : zxZ t0 t1 t8 t47 t48 t49 H K :=
 lp1 (M := zeF) zx0 t49 (by kernel_rfl) Inv n h0 round
theorem zLm {t0 t1 t2 : AV} {H : zaa} {K : Kt} (h : HSc H → zxX t0 t1 t2 H K) : ACalls tP zgs [t0, t1, t2] H K :=
 zar (M := zeF) Tryz.func87 (c := zqt) (by kernel_rfl) (fun hs => Eq.mpr (by kernel_rfl) (h hs))
def zDJ (_ : Nat) : List Bool := []
noncomputable def zDK : Code := Tryz.f115.body.getD .skip
def zuJ (t0 t1 : AV) (H : zaa) (K : Kt) : Prop :=
 zax t0 H fun t2 H =>
 zax t1 H fun t3 H =>
 zag 0 t2 fun t5 =>
 zad false 1 t5 H fun t6 =>
 zac .eql false t6 (.int .i64 5) fun t7 =>
 zab t7 true H (fun K' => zag 1 t2 (K' · H)) fun t9 H =>
 zab t7 true H (fun K' => zad false 1 t9 H (K' · H)) fun t10 H =>
 zab t7 true H (fun K' => zad false 1 t3 H (K' · H)) fun t11 H =>
 zab t7 true H (fun K' => zac .eql false t10 t11 (K' · H)) fun t12 H =>
 zai t7 t12 (.bool false) fun t13 =>
 zab t13 false H (fun K' => zag 2 t2 (K' · H)) fun t15 H =>
 zab t13 false H (fun K' => zad false 1 t15 H (K' · H)) fun t16 H =>
 zab t13 false H (fun K' => zbY zhV [t3] (K' · H)) fun t17 H =>
 zab t13 false H (fun K' => ACalls tP zdq [t16, t17] H K') fun t18 H =>
 zai t13 (.bool true) t18 fun t19 =>
 K t19 H
theorem zDL {t0 t1 : AV} {H : zaa} {K : Kt} (h : HSc H → zuJ t0 t1 H K) : ACalls tP zhS [t0, t1] H K :=
 zar (M := zDJ) Tryz.func115 (c := zDK) (by kernel_rfl) (fun hs => Eq.mpr (by kernel_rfl) (h hs))
def zEq (_ : Nat) : List Bool := []
noncomputable def zEr : Code := Tryz.f137.body.getD .skip
def zuT (t0 t1 : AV) (H : zaa) (K : Kt) : Prop :=
 zax t0 H fun t2 H =>
 zad true 3 t2 H fun t4 =>
 zad false 1 t1 H fun t5 =>
 ACalls tP zhS [t4, t5] H fun t6 H =>
 K t6 H
theorem zEs {t0 t1 : AV} {H : zaa} {K : Kt} (h : HSc H → zuT t0 t1 H K) : ACalls tP zhV [t0, t1] H K :=
 zar (M := zEq) Tryz.func137 (c := zEr) (by kernel_rfl) (fun hs => Eq.mpr (by kernel_rfl) (h hs))
def zkH : Nat → List Bool
 | 4 => rl false [3,1,3,1,50]
 | _ => []
noncomputable def zqa : Code := Tryz.f77.body.getD .skip
noncomputable def zKo : List ResultVar := Tryz.f77.results.toList
def zkI (t3 t7 : AV) : List AV := ux 3 (t3 :: ux 3 (t7 :: ux 50 []))
def zKm : List Bool := zkH 4
noncomputable def zKk : Code := zao [1, 1, 0, 1, 0, 0] zqa
def zKj (K : Kt) : AExit → List AV → zaa → Prop := zap tP zkH [1, 1, 0, 1, 0] zqa (zaA tP zKo K)
def zxI (t3 t7 : AV) (H : zaa) (K : Kt) : Prop := ALoop tP zKk (zKj K) (zkI t3 t7) H
def zfz (t3 t7 : AV) (H : zaa) (K : Kt) (Kb4 : Lt) : Prop :=
 zag 2 t3 fun t25 =>
 zad false 1 t25 H fun t26 =>
 zah 1 t26 fun t27 =>
 zac .lss false t7 t27 fun t28 =>
 zaf t28
 (zag 2 t3 fun t31 =>
 zad false 1 t31 H fun t32 =>
 zaj 3 t32 t7 fun t34 =>
 zag 0 t34 fun t35 =>
 zad false 1 t35 H fun t36 =>
 zac .neq false t36 (.int .i64 4) fun t37 =>
 zab t37 false H (fun K' => zag 2 t3 (K' · H)) fun t39 H =>
 zab t37 false H (fun K' => zad false 1 t39 H (K' · H)) fun t40 H =>
 zab t37 false H (fun K' => K' t7 H) fun t41 H =>
 zab t37 false H (fun K' => zaj 3 t40 t41 (K' · H)) fun t42 H =>
 zab t37 false H (fun K' => zag 1 t42 (K' · H)) fun t43 H =>
 zab t37 false H (fun K' => zad false 1 t43 H (K' · H)) fun t44 H =>
 zab t37 false H (fun K' => K' t7 H) fun t45 H =>
 zab t37 false H (fun K' => zac .neq false t44 t45 (K' · H)) fun t46 H =>
 zai t37 (.bool true) t46 fun t47 =>
 zab t47 false H (fun K' => zag 2 t3 (K' · H)) fun t49 H =>
 zab t47 false H (fun K' => zad false 1 t49 H (K' · H)) fun t50 H =>
 zab t47 false H (fun K' => K' t7 H) fun t51 H =>
 zab t47 false H (fun K' => zaj 3 t50 t51 (K' · H)) fun t52 H =>
 zab t47 false H (fun K' => zag 2 t52 (K' · H)) fun t53 H =>
 zab t47 false H (fun K' => zad false 1 t53 H (K' · H)) fun t54 H =>
 zab t47 false H (fun K' => zah 1 t54 (K' · H)) fun t55 H =>
 zab t47 false H (fun K' => zac .gtr false t55 (.int .i64 0) (K' · H)) fun t56 H =>
 zai t47 (.bool true) t56 fun t57 =>
 zaf t57
 (K (.bool false) H)
 (zac .add false t7 (.int .i64 1) fun t30 =>
 Kb4 (zkI t3 t30) H))
 (K (.bool true) H)
def zxH (t0 t1 t2 : AV) (H : zaa) (K : Kt) : Prop :=
 zax t0 H fun t3 H =>
 zag 0 t3 fun t8 =>
 zad false 1 t8 H fun t9 =>
 zac .neq false t9 (.int .i64 5) fun t10 =>
 zab t10 false H (fun K' => zag 1 t3 (K' · H)) fun t12 H =>
 zab t10 false H (fun K' => zad false 1 t12 H (K' · H)) fun t13 H =>
 zab t10 false H (fun K' => K' t1 H) fun t14 H =>
 zab t10 false H (fun K' => zac .neq false t13 t14 (K' · H)) fun t15 H =>
 zai t10 (.bool true) t15 fun t16 =>
 zab t16 false H (fun K' => zag 2 t3 (K' · H)) fun t18 H =>
 zab t16 false H (fun K' => zad false 1 t18 H (K' · H)) fun t19 H =>
 zab t16 false H (fun K' => zah 1 t19 (K' · H)) fun t20 H =>
 zab t16 false H (fun K' => K' t2 H) fun t21 H =>
 zab t16 false H (fun K' => zac .neq false t20 t21 (K' · H)) fun t22 H =>
 zai t16 (.bool true) t22 fun t23 =>
 zaf t23
 (K (.bool false) H)
 (zxI t3 (.int .i64 0) H K)
theorem zKl {t3 t7 : AV} {H : zaa} {K : Kt} (Inv : Nat → AV → zaa → Prop) (n : Nat) (h0 : HSc H → Inv n t7 H)
  (round : Rd1 (fun t7 => zkI t3 t7) (fun t7 => fun H Kb4 => zfz t3 t7 H K Kb4) H Inv) : zxI t3 t7 H K :=
 lp1 (M := zkH) zKm t7 (by kernel_rfl) Inv n h0 round
theorem zKn {t0 t1 t2 : AV} {H : zaa} {K : Kt} (h : HSc H → zxH t0 t1 t2 H K) : ACalls tP zie [t0, t1, t2] H K :=
 zar (M := zkH) Tryz.func77 (c := zqa) (by kernel_rfl) (fun hs => Eq.mpr (by kernel_rfl) (h hs))
end Go.Proofs.YtddlhljflggenaaGreatDoor

namespace Go.Proofs.YtddlhljflggenaaGreatDoor
open Go Go.Abs
set_option maxRecDepth 8000
theorem zvY : ∀ (m : Nat) (v : VT), v.nodes ≤ m → ∀ (left : Int), left ≤ 1000000 → -1 ≤ left → ∀ (H : zaa) (id : Nat), H[id]? = some (.cells [.int .i64 left]) → ∀ (K : AV → zaa → Prop),
  ((v.nodes : Int) ≤ left → K (.bool true) (H.set id (.cells [.int .i64 (left - v.nodes)]))) → (¬ (v.nodes : Int) ≤ left → ∀ l', K (.bool false) (H.set id (.cells [.int .i64 l']))) →
  ACalls tP zgi [.agg v.cs, .ptr id 0] H K := by
 intro m
 induction m with
 | zero => intro v h; have := v.nodes_pos; omega
 | succ m ih =>
  intro v hv left hl1 hl0 H id hid K hK hF
  obtain ⟨k, n, ks⟩ := v
  have hlt := zeU hid
  have hnn : (VT.mk k n ks).nodes = VT.nodesL ks + 1 := by simp [VT.nodes]
  refine ACalls.out (zHd fun hs => ?_)
  have hget : (H ++ [AB.cells [.int .i64 k, .int .i64 n, .sl (VT.css ks) .none]])[id]? = some (.cells [.int .i64 left]) := zcP hid
  have bad : (¬ ((VT.mk k n ks).nodes : Int) ≤ left) → ∀ l' H', H' = H.set id (.cells [.int .i64 l']) ++ [.cells [.int .i64 k, .int .i64 n, .sl (VT.css ks) .none]] → Out H.length K (.bool false) H' := by
   intro h l' H' he
   exact Out.bool he (by simp) (hs.set rfl) (hF h l')
  simp [zvW, VT.cs, hget, AV.known]
  rw [zam (by omega) (by omega), zdl _ hid, zcP (zcH _ hid)]
  by_cases h0 : left - 1 < 0
  ·simp [h0]
   exact bad (by omega) _ _ rfl
  ·simp [h0]
   refine zHb (Inv := fun q t5 H' => ∃ i : Nat, i ≤ ks.length ∧ q = ks.length - i ∧ t5 = .int .i64 i ∧ ((VT.nodesL (ks.take i) : Int) + 1 ≤ left) ∧ H' = H.set id (.cells [.int .i64 (left - 1 - VT.nodesL (ks.take i))]) ++ [.cells [.int .i64 k, .int .i64 n, .sl (VT.css ks) .none]]) ks.length ?_ ?_
   ·intro _; exact ⟨0, by omega, by omega, rfl, by simp [VT.nodesL]; omega, by simp [VT.nodesL]⟩
   ·rintro q t5 H' ⟨i, hi, rfl, rfl, hb, rfl⟩ hsc hlen hsF Kb hKb
    by_cases hil : i < ks.length
    ·have hki := VT.kid_lt (k := k) (n := n) hil
     have h1 := VT.nodesL_take hil
     have h2 := VT.nodesL_take_le ks (i + 1)
     have hll := VT.len_le (ks.take i)
     simp only [List.length_take] at hll
     have hge : (H.set id (.cells [.int .i64 (left - 1 - VT.nodesL (ks.take i))]) ++ [AB.cells [.int .i64 k, .int .i64 n, .sl (VT.css ks) .none]])[id]? = some (.cells [.int .i64 (left - 1 - VT.nodesL (ks.take i))]) := zcP (zcH _ hid)
     simp [zoK, hil]
     refine ih ks[i] (by omega) (left - 1 - VT.nodesL (ks.take i)) (by omega) (by omega) _ id hge _ ?_ ?_
     ·intro hle
      rw [zdl _ (zcH _ hid), List.set_set]
      simp
      rw [zam (by omega) (by omega)]
      refine hKb _ _ ⟨ks.length - (i + 1), by omega, Back.here (by simp) ((hs.set rfl).snoc rfl) ?_ ⟨_, rfl, i + 1, by omega, rfl, by simp, by omega, ?_⟩⟩
      ·simp [zjX, AV.sc, AV.scV, AV.scA, AV.scB]; omega
      ·rw [h1]; congr 5; omega
     ·intro hle l'
      rw [zdl _ (zcH _ hid), List.set_set]
      simp
      exact bad (by omega) _ _ rfl
    ·obtain rfl : i = ks.length := by omega
     rw [List.take_length] at hb ⊢
     simp [zoK]
     refine Out.bool rfl (by simp) (hs.set rfl) ?_
     have := hK (by omega)
     rw [hnn] at this
     rw [show left - 1 - (VT.nodesL ks : Int) = left - ((VT.nodesL ks + 1 : Nat) : Int) by omega]
     exact this
theorem zFs (v : VT) (H : zaa) (K : AV → zaa → Prop) (hK : ∀ b, (b = true → v.nodes ≤ 250) → K (.bool b) H) : ACalls tP zmf [.agg v.cs] H K := by
 refine ACalls.out (zFr fun hs => ?_)
 simp [zvh, AV.known]
 refine zvY _ v (Nat.le_refl _) 250 (by omega) (by omega) _ (H.length + 1) (by simp) _ ?_ ?_
 ·intro h
  exact Out.bool (J := [_, _]) (by simp; exact ⟨rfl, rfl⟩) (Nat.le_refl _) hs (hK true fun _ => by omega)
 ·intro h l'
  exact Out.bool (J := [_, _]) (by simp; exact ⟨rfl, rfl⟩) (Nat.le_refl _) hs (hK false fun h => by cases h)
end Go.Proofs.YtddlhljflggenaaGreatDoor
namespace Go.Proofs.YtddlhljflggenaaGreatDoor
open Go Go.Abs
set_option maxRecDepth 8000
theorem zxQ : ∀ (m : Nat) (v : VT), v.nodes ≤ m → v.nodes ≤ 1000000000 → ∀ (H : zaa) (K : AV → zaa → Prop), K (.int .i64 v.nodes) H → ACalls tP zgq [.agg v.cs] H K := by
 intro m
 induction m with
 | zero => intro v h; have := v.nodes_pos; omega
 | succ m ih =>
  intro v hv hb H K hK
  obtain ⟨k, n, ks⟩ := v
  have hnl : VT.nodesL ks + 1 ≤ 1000000000 := by simpa [VT.nodes] using hb
  have hll := VT.len_le ks
  refine ACalls.out (zKB fun hs => ?_)
  simp [VT.cs, zxO]
  refine zKz (Inv := fun q t3 t4 H' => ∃ i : Nat, i ≤ ks.length ∧ q = ks.length - i ∧ t4 = .int .i64 i ∧ t3 = .int .i64 (1 + VT.nodesL (ks.take i) : Nat) ∧ H' = H ++ [.cells [.int .i64 k, .int .i64 n, .sl (VT.css ks) .none]]) ks.length ?_ ?_
  ·intro _; exact ⟨0, by omega, by omega, rfl, by simp [VT.nodesL], rfl⟩
  ·rintro q t3 t4 H' ⟨i, hi, rfl, rfl, rfl, rfl⟩ hsc hlen hsF Kb hKb
   by_cases hlt : i < ks.length
   ·have hki := VT.kid_lt (k := k) (n := n) hlt
    have h1 := VT.nodesL_take hlt
    have h2 := VT.nodesL_take_le ks (i + 1)
    simp [zqf, hlt]
    refine ih ks[i] (by omega) (by omega) _ _ ?_
    simp
    rw [zam (by omega) (by omega), zam (by omega) (by omega)]
    refine hKb _ _ ⟨ks.length - (i + 1), by omega, Back.here (by simp) hsc ?_ ⟨_, _, rfl, i + 1, by omega, rfl, by simp, ?_, rfl⟩⟩
    ·simp [zkM, AV.sc, AV.scV, AV.scA, AV.scB]
    ·rw [h1]; congr 1; omega
   ·obtain rfl : i = ks.length := by omega
    simp [zqf]
    refine Out.int rfl (Nat.le_refl _) hs ?_
    simpa [VT.nodes, Int.add_comm] using hK
end Go.Proofs.YtddlhljflggenaaGreatDoor
