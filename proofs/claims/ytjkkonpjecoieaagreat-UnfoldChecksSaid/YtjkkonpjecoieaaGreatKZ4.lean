import Derived.Test.YtjkkonpjecoieaaGreatKNum
import Derived.Test.YtjkkonpjecoieaaGreatProg
import Derived.KernelRfl
import Derived.Test.YtjkkonpjecoieaaGreatKGY2
set_option linter.unusedSimpArgs false
set_option linter.unusedVariables false
namespace Go.Proofs.YtjkkonpjecoieaaGreat
open Go Go.Abs
set_option maxRecDepth 100000
def zMW (_ : Nat) : List Bool := []
noncomputable def zMX : Code := Tryz.f68.body.getD .skip
def zy5 (t0 : AV) (H : zaa) (K : Kt) : Prop :=
 zau [(.bool false), .snil, .snil] H fun t2 H =>
 zac .lss false t0 (.int .i64 0) fun t4 =>
 ACalls tP zgy [t0] H fun t6 H =>
 zaz 1 [(.int .u32 0)] 1 [(0, (.int .u32 1))] fun t7 =>
 zax [(.bool false), .snil, .snil] [(0, 1), (1, 1), (2, 1)] [(0, t4), (1, t6), (2, t7)] fun t8 =>
 ACalls tP zeF [t8] H fun t9 H =>
 zak 3 t2 t9 H fun H =>
 zad true 3 t2 H fun r0 =>
 K r0 H
theorem zMY {t0 : AV} {H : zaa} {K : Kt} (h : HSc H → zy5 t0 H K) : ACalls tP zde [t0] H K :=
 zam (M := zMW) Tryz.func68 (c := zMX) (by kernel_rfl) (fun hs => Eq.mpr (by kernel_rfl) (h hs))
def zMZ (_ : Nat) : List Bool := []
noncomputable def zM0 : Code := Tryz.f69.body.getD .skip
def zrb (t0 t1 : AV) (H : zaa) (K : Kt) : Prop :=
 zao t0 H fun t2 H =>
 zao t1 H fun t3 H =>
 zau [(.bool false), .snil, .snil] H fun t4 H =>
 zae H (fun K' => zal true 3 t2 H (K' · H)) fun t7 =>
 zaG H (fun H K' => ACalls tP zdr [t7] H K') fun t8 =>
 zae H (fun K' => zal true 3 t3 H (K' · H)) fun t9 =>
 zaG H (fun H K' => ACalls tP zdr [t9] H K') fun t10 =>
 zau [(.bool false), .snil, .snil] H fun t5 H =>
 zau [(.bool false), .snil, .snil] H fun t6 H =>
 zak 3 t5 t8 H fun H =>
 zak 3 t6 t10 H fun H =>
 zae H (fun K' => zaf 0 t5 (K' · H)) fun t11 =>
 zae H (fun K' => zal false 1 t11 H (K' · H)) fun t12 =>
 zae H (fun K' => zaf 0 t6 (K' · H)) fun t13 =>
 zae H (fun K' => zal false 1 t13 H (K' · H)) fun t14 =>
 zae H (fun K' => zac .neq true t12 t14 (K' · H)) fun t15 =>
 zae H (fun K' => zaf 1 t5 (K' · H)) fun t16 =>
 zae H (fun K' => zal false 1 t16 H (K' · H)) fun t17 =>
 zae H (fun K' => zaf 1 t6 (K' · H)) fun t18 =>
 zae H (fun K' => zal false 1 t18 H (K' · H)) fun t19 =>
 zaG H (fun H K' => ACalls tP zcR [t17, t19] H K') fun t20 =>
 zae H (fun K' => zaf 2 t5 (K' · H)) fun t21 =>
 zae H (fun K' => zal false 1 t21 H (K' · H)) fun t22 =>
 zae H (fun K' => zaf 2 t6 (K' · H)) fun t23 =>
 zae H (fun K' => zal false 1 t23 H (K' · H)) fun t24 =>
 zaG H (fun H K' => ACalls tP zcR [t22, t24] H K') fun t25 =>
 zae H (fun K' => zax [(.bool false), .snil, .snil] [(0, 1), (1, 1), (2, 1)] [(0, t15), (1, t20), (2, t25)] (K' · H)) fun t26 =>
 zaG H (fun H K' => ACalls tP zeF [t26] H K') fun t27 =>
 zak 3 t4 t27 H fun H =>
 zad true 3 t4 H fun r0 =>
 K r0 H
theorem zy6 {t0 t1 : AV} {H : zaa} {K : Kt} (h : HSc H → zrb t0 t1 H K) : ACalls tP zeK [t0, t1] H K :=
 zam (M := zMZ) Tryz.func69 (c := zM0) (by kernel_rfl) (fun hs => Eq.mpr (by kernel_rfl) (h hs))
def zM1 (_ : Nat) : List Bool := []
noncomputable def zM2 : Code := Tryz.f70.body.getD .skip
def zy7 (t0 t1 : AV) (H : zaa) (K : Kt) : Prop :=
 zao t0 H fun t2 H =>
 zao t1 H fun t3 H =>
 zau [(.bool false), .snil, .snil] H fun t4 H =>
 zae H (fun K' => zal true 3 t2 H (K' · H)) fun t5 =>
 zaG H (fun H K' => ACalls tP zdr [t5] H K') fun t6 =>
 zae H (fun K' => zal true 3 t3 H (K' · H)) fun t7 =>
 zaG H (fun H K' => ACalls tP zdr [t7] H K') fun t8 =>
 zaG H (fun H K' => ACalls tP zmV [t6, t8] H K') fun t9 =>
 zaG H (fun H K' => ACalls tP zeF [t9] H K') fun t10 =>
 zak 3 t4 t10 H fun H =>
 zad true 3 t4 H fun r0 =>
 K r0 H
theorem zM3 {t0 t1 : AV} {H : zaa} {K : Kt} (h : HSc H → zy7 t0 t1 H K) : ACalls tP zis [t0, t1] H K :=
 zam (M := zM1) Tryz.func70 (c := zM2) (by kernel_rfl) (fun hs => Eq.mpr (by kernel_rfl) (h hs))
def zM4 (_ : Nat) : List Bool := []
noncomputable def zM5 : Code := Tryz.f71.body.getD .skip
def zy9 (t0 t1 : AV) (H : zaa) (K : Kt) : Prop :=
 zao t0 H fun t2 H =>
 zao t1 H fun t3 H =>
 zae H (fun K' => zal true 3 t2 H (K' · H)) fun t9 =>
 zaG H (fun H K' => ACalls tP zdr [t9] H K') fun t10 =>
 zae H (fun K' => zal true 3 t3 H (K' · H)) fun t11 =>
 zaG H (fun H K' => ACalls tP zdr [t11] H K') fun t12 =>
 zau [(.bool false), .snil, .snil] H fun t5 H =>
 zau [(.bool false), .snil, .snil] H fun t6 H =>
 zak 3 t5 t10 H fun H =>
 zak 3 t6 t12 H fun H =>
 zae H (fun K' => zal true 3 t5 H (K' · H)) fun t13 =>
 zaG H (fun H K' => ACalls tP zgz [t13] H K') fun t14 =>
 zae H (fun K' => zal true 3 t6 H (K' · H)) fun t15 =>
 zaG H (fun H K' => ACalls tP zgz [t15] H K') fun t16 =>
 zae H (fun K' => K' t14 H) fun t7 =>
 zae H (fun K' => K' t16 H) fun t8 =>
 zac .lss false t7 t8 fun t20 =>
 zag t20
 (K (.int .i64 (-1)) H)
 (zac .gtr false t7 t8 fun t24 =>
 zag t24
 (K (.int .i64 1) H)
 (zae H (fun K' => K' t7 H) fun t25 =>
 zae H (fun K' => zaf 1 t5 (K' · H)) fun t26 =>
 zae H (fun K' => zal false 1 t26 H (K' · H)) fun t27 =>
 zae H (fun K' => zaf 2 t6 (K' · H)) fun t28 =>
 zae H (fun K' => zal false 1 t28 H (K' · H)) fun t29 =>
 zaG H (fun H K' => ACalls tP zcR [t27, t29] H K') fun t30 =>
 zae H (fun K' => zaf 1 t6 (K' · H)) fun t31 =>
 zae H (fun K' => zal false 1 t31 H (K' · H)) fun t32 =>
 zae H (fun K' => zaf 2 t5 (K' · H)) fun t33 =>
 zae H (fun K' => zal false 1 t33 H (K' · H)) fun t34 =>
 zaG H (fun H K' => ACalls tP zcR [t32, t34] H K') fun t35 =>
 zaG H (fun H K' => ACalls tP zgA [t30, t35] H K') fun t36 =>
 zae H (fun K' => zac .mul false t25 t36 (K' · H)) fun t37 =>
 zae H (fun K' => K' t37 H) fun t4 =>
 K t4 H))
theorem zM6 {t0 t1 : AV} {H : zaa} {K : Kt} (h : HSc H → zy9 t0 t1 H K) : ACalls tP znD [t0, t1] H K :=
 zam (M := zM4) Tryz.func71 (c := zM5) (by kernel_rfl) (fun hs => Eq.mpr (by kernel_rfl) (h hs))
def zDV (_ : Nat) : List Bool := []
noncomputable def zDW : Code := Tryz.f113.body.getD .skip
def zvL (t0 : AV) (H : zaa) (K : Kt) : Prop :=
 zac .lss false t0 (.int .i64 0) fun t4 =>
 zag t4
 (zbo .u64 t0 fun t6 =>
 aUn .neg t6 fun t7 =>
 ACalls tP zfp [t7] H fun t8 H =>
 K t8 H)
 (zbo .u64 t0 fun t10 =>
 ACalls tP zfp [t10] H fun t11 H =>
 K t11 H)
theorem zDX {t0 : AV} {H : zaa} {K : Kt} (h : HSc H → zvL t0 H K) : ACalls tP zgy [t0] H K :=
 zam (M := zDV) Tryz.func113 (c := zDW) (by kernel_rfl) (fun hs => Eq.mpr (by kernel_rfl) (h hs))
def zDY (_ : Nat) : List Bool := []
noncomputable def zDZ : Code := Tryz.f114.body.getD .skip
def zox (t0 : AV) (H : zaa) (K : Kt) : Prop :=
 zao t0 H fun t1 H =>
 zau [(.bool false), .snil, .snil] H fun t2 H =>
 zad true 3 t1 H fun t4 =>
 ACalls tP zh2 [t4] H fun t5 H =>
 zau [(.bool false), .snil, .snil] H fun t3 H =>
 zak 3 t3 t5 H fun H =>
 zaf 0 t3 fun t6 =>
 zad false 1 t6 H fun t7 =>
 zaf 1 t3 fun t8 =>
 zad false 1 t8 H fun t9 =>
 zaf 2 t3 fun t10 =>
 zad false 1 t10 H fun t11 =>
 zax [(.bool false), .snil, .snil] [(0, 1), (1, 1), (2, 1)] [(0, t7), (1, t9), (2, t11)] fun t12 =>
 zak 3 t2 t12 H fun H =>
 zad true 3 t2 H fun r0 =>
 K r0 H
theorem zvM {t0 : AV} {H : zaa} {K : Kt} (h : HSc H → zox t0 H K) : ACalls tP zeF [t0] H K :=
 zam (M := zDY) Tryz.func114 (c := zDZ) (by kernel_rfl) (fun hs => Eq.mpr (by kernel_rfl) (h hs))
def zD0 (_ : Nat) : List Bool := []
noncomputable def zD1 : Code := Tryz.f115.body.getD .skip
def zoy (t0 : AV) (H : zaa) (K : Kt) : Prop :=
 zao t0 H fun t1 H =>
 zau [(.bool false), .snil, .snil] H fun t2 H =>
 zae H (fun K' => zaf 1 t1 (K' · H)) fun t5 =>
 zae H (fun K' => zal false 1 t5 H (K' · H)) fun t6 =>
 zaG H (fun H K' => ACalls tP zh3 [t6] H K') fun t7 =>
 zae H (fun K' => zaf 2 t1 (K' · H)) fun t8 =>
 zae H (fun K' => zal false 1 t8 H (K' · H)) fun t9 =>
 zaG H (fun H K' => ACalls tP zh3 [t9] H K') fun t10 =>
 zae H (fun K' => K' t7 H) fun t3 =>
 zae H (fun K' => K' t10 H) fun t4 =>
 zah 1 t3 fun t12 =>
 zac .eql false t12 (.int .i64 0) fun t13 =>
 zab t13 false H (fun K' => K' t4 H) fun t15 H =>
 zab t13 false H (fun K' => zah 1 t15 (K' · H)) fun t16 H =>
 zab t13 false H (fun K' => zac .eql false t16 (.int .i64 0) (K' · H)) fun t17 H =>
 zai t13 (.bool true) t17 fun t18 =>
 zag t18
 (zaz 1 [(.int .u32 0)] 1 [(0, (.int .u32 1))] fun t19 =>
 zax [(.bool false), .snil, .snil] [(0, 1), (1, 1), (2, 1)] [(2, t19)] fun t20 =>
 zak 3 t2 t20 H fun H =>
 zad true 3 t2 H fun r0 =>
 K r0 H)
 (zaf 0 t1 fun t21 =>
 zad false 1 t21 H fun t22 =>
 zax [(.bool false), .snil, .snil] [(0, 1), (1, 1), (2, 1)] [(0, t22), (1, t3), (2, t4)] fun t25 =>
 zak 3 t2 t25 H fun H =>
 zad true 3 t2 H fun r0 =>
 K r0 H)
theorem zvN {t0 : AV} {H : zaa} {K : Kt} (h : HSc H → zoy t0 H K) : ACalls tP zdr [t0] H K :=
 zam (M := zD0) Tryz.func115 (c := zD1) (by kernel_rfl) (fun hs => Eq.mpr (by kernel_rfl) (h hs))
def zeS : Nat → List Bool
 | 5 => rl false [0,2,3,1,19,2,50]
 | 9 => rl false [0,2,3,3,17,2,3,2,45]
 | _ => []
noncomputable def zoB : Code := Tryz.f116.body.getD .skip
noncomputable def zD8 : List ResultVar := Tryz.f116.results.toList
def zi9 (t0 t1 t5 t25 t26 : AV) : List AV := t0 :: t1 :: ux 3 (t5 :: ux 19 (t25 :: t26 :: ux 50 []))
def zvR : List Bool := zeS 5
noncomputable def zoC : Code := zas [1, 1, 1, 0, 1, 0, 0] zoB
def zvO (K : Kt) : AExit → List AV → zaa → Prop := zat tP zeS [1, 1, 1, 0, 1, 0] zoB (zaA tP zD8 K)
def zvP (t0 t1 t5 t25 t26 : AV) (H : zaa) (K : Kt) : Prop := ALoop tP zoC (zvO K) (zi9 t0 t1 t5 t25 t26) H
def zg8 (t0 t1 t5 t6 t7 t25 t26 t30 t31 : AV) : List AV := t0 :: t1 :: ux 3 (t5 :: t6 :: t7 :: ux 17 (t25 :: t26 :: ux 3 (t30 :: t31 :: ux 45 [])))
def zD6 : List Bool := zeS 9
noncomputable def zD3 : Code := zas [1, 1, 0, 0, 1, 1, 0, 1, 0, 0] zoC
def zD2 (K : Kt) (Kb5 : Lt) : AExit → List AV → zaa → Prop := zat tP zeS [1, 1, 0, 0, 1, 1, 0, 1, 0] zoC (zbz zvR Kb5 (zvO K))
def zvQ (t0 t1 t5 t6 t7 t25 t26 t30 t31 : AV) (H : zaa) (K : Kt) (Kb5 : Lt) : Prop := ALoop tP zD3 (zD2 K Kb5) (zg8 t0 t1 t5 t6 t7 t25 t26 t30 t31) H
def zoA (t0 t1 t5 t6 t7 t25 t26 t30 t31 : AV) (H : zaa) (K : Kt) (Kb5 : Lt) (Kb9 : Lt) : Prop :=
 zac .lss false t31 t30 fun t32 =>
 zag t32
 (zae H (fun K' => K' t0 H) fun t34 =>
 zae H (fun K' => K' t6 H) fun t35 =>
 zae H (fun K' => zaj 1 t34 t35 (K' · H)) fun t36 =>
 zae H (fun K' => zal false 1 t36 H (K' · H)) fun t37 =>
 zae H (fun K' => zbo .u64 t37 (K' · H)) fun t38 =>
 zae H (fun K' => K' t1 H) fun t39 =>
 zae H (fun K' => K' t31 H) fun t40 =>
 zae H (fun K' => zaj 1 t39 t40 (K' · H)) fun t41 =>
 zae H (fun K' => zal false 1 t41 H (K' · H)) fun t42 =>
 zae H (fun K' => zbo .u64 t42 (K' · H)) fun t43 =>
 zae H (fun K' => zac .mul false t38 t43 (K' · H)) fun t44 =>
 zae H (fun K' => K' t5 H) fun t45 =>
 zae H (fun K' => K' t6 H) fun t46 =>
 zae H (fun K' => K' t31 H) fun t47 =>
 zae H (fun K' => zac .add false t46 t47 (K' · H)) fun t48 =>
 zae H (fun K' => zaj 1 t45 t48 (K' · H)) fun t49 =>
 zae H (fun K' => zal false 1 t49 H (K' · H)) fun t50 =>
 zae H (fun K' => zbo .u64 t50 (K' · H)) fun t51 =>
 zae H (fun K' => zac .add false t44 t51 (K' · H)) fun t52 =>
 zae H (fun K' => K' t7 H) fun t53 =>
 zae H (fun K' => zac .add false t52 t53 (K' · H)) fun t54 =>
 zae H (fun K' => K' t54 H) fun t9 =>
 zac .add false t6 t31 fun t58 =>
 zac .rem false t9 (.int .u64 1000000000) fun t60 =>
 zbo .u32 t60 fun t61 =>
 zaj 1 t5 t58 fun t62 =>
 zak 1 t62 t61 H fun H =>
 zac .quo false t9 (.int .u64 1000000000) fun t64 =>
 zac .add false t31 (.int .i64 1) fun t65 =>
 Kb9 (zg8 t0 t1 t5 t6 t64 t25 t26 t30 t65) H)
 (zah 1 t1 fun t69 =>
 zac .add false t6 t69 fun t70 =>
 zbo .u32 t7 fun t72 =>
 zaj 1 t5 t70 fun t73 =>
 zak 1 t73 t72 H fun H =>
 zac .add false t26 (.int .i64 1) fun t74 =>
 Kb5 (zi9 t0 t1 t5 t25 t74) H)
def zoz (t0 t1 t5 t25 t26 : AV) (H : zaa) (K : Kt) (Kb5 : Lt) : Prop :=
 zac .lss false t26 t25 fun t27 =>
 zag t27
 (zah 1 t1 fun t30 =>
 zvQ t0 t1 t5 t26 (.int .u64 0) t25 t26 t30 (.int .i64 0) H K Kb5)
 (ACalls tP zeG [t5] H fun t76 H =>
 K t76 H)
def zi8 (t0 t1 : AV) (H : zaa) (K : Kt) : Prop :=
 zah 1 t0 fun t11 =>
 zac .eql false t11 (.int .i64 0) fun t12 =>
 zab t12 false H (fun K' => K' t1 H) fun t14 H =>
 zab t12 false H (fun K' => zah 1 t14 (K' · H)) fun t15 H =>
 zab t12 false H (fun K' => zac .eql false t15 (.int .i64 0) (K' · H)) fun t16 H =>
 zai t12 (.bool true) t16 fun t17 =>
 zag t17
 (K .snil H)
 (zah 1 t0 fun t19 =>
 zah 1 t1 fun t21 =>
 zac .add false t19 t21 fun t22 =>
 zbp 4 [(.int .u32 0)] t22 t22 H fun t23 H =>
 zah 1 t0 fun t25 =>
 zvP t0 t1 t23 t25 (.int .i64 0) H K)
theorem zD5 {t0 t1 t5 t6 t7 t25 t26 t30 t31 : AV} {H : zaa} {K : Kt} {Kb5 : Lt} (Inv : Nat → AV → AV → zaa → Prop) (n : Nat) (h0 : HSc H → Inv n t7 t31 H)
  (round : Rd2 (fun t7 => fun t31 => zg8 t0 t1 t5 t6 t7 t25 t26 t30 t31) (fun t7 => fun t31 => fun H Kb9 => zoA t0 t1 t5 t6 t7 t25 t26 t30 t31 H K Kb5 Kb9) H Inv) : zvQ t0 t1 t5 t6 t7 t25 t26 t30 t31 H K Kb5 :=
 lp2 (M := zeS) zD6 t7 t31 (by kernel_rfl) Inv n h0 round
theorem zD4 {t0 t1 t5 t25 t26 : AV} {H : zaa} {K : Kt} (Inv : Nat → AV → zaa → Prop) (n : Nat) (h0 : HSc H → Inv n t26 H)
  (round : Rd1 (fun t26 => zi9 t0 t1 t5 t25 t26) (fun t26 => fun H Kb5 => zoz t0 t1 t5 t25 t26 H K Kb5) H Inv) : zvP t0 t1 t5 t25 t26 H K :=
 lp1 (M := zeS) zvR t26 (by kernel_rfl) Inv n h0 round
theorem zD7 {t0 t1 : AV} {H : zaa} {K : Kt} (h : HSc H → zi8 t0 t1 H K) : ACalls tP zcR [t0, t1] H K :=
 zam (M := zeS) Tryz.func116 (c := zoB) (by kernel_rfl) (fun hs => Eq.mpr (by kernel_rfl) (h hs))
def zD9 (_ : Nat) : List Bool := []
noncomputable def zEa : Code := Tryz.f117.body.getD .skip
def zvS (t0 t1 : AV) (H : zaa) (K : Kt) : Prop :=
 zao t0 H fun t2 H =>
 zao t1 H fun t3 H =>
 zau [(.bool false), .snil, .snil] H fun t4 H =>
 zae H (fun K' => zaf 1 t2 (K' · H)) fun t8 =>
 zae H (fun K' => zal false 1 t8 H (K' · H)) fun t9 =>
 zae H (fun K' => zaf 2 t3 (K' · H)) fun t10 =>
 zae H (fun K' => zal false 1 t10 H (K' · H)) fun t11 =>
 zaG H (fun H K' => ACalls tP zcR [t9, t11] H K') fun t12 =>
 zae H (fun K' => zaf 1 t3 (K' · H)) fun t13 =>
 zae H (fun K' => zal false 1 t13 H (K' · H)) fun t14 =>
 zae H (fun K' => zaf 2 t2 (K' · H)) fun t15 =>
 zae H (fun K' => zal false 1 t15 H (K' · H)) fun t16 =>
 zaG H (fun H K' => ACalls tP zcR [t14, t16] H K') fun t17 =>
 zae H (fun K' => K' t12 H) fun t5 =>
 zae H (fun K' => K' t17 H) fun t6 =>
 zaf 2 t2 fun t18 =>
 zad false 1 t18 H fun t19 =>
 zaf 2 t3 fun t20 =>
 zad false 1 t20 H fun t21 =>
 ACalls tP zcR [t19, t21] H fun t22 H =>
 zaf 0 t2 fun t23 =>
 zad false 1 t23 H fun t24 =>
 zaf 0 t3 fun t25 =>
 zad false 1 t25 H fun t26 =>
 zac .eql true t24 t26 fun t27 =>
 zag t27
 (zae H (fun K' => zaf 0 t2 (K' · H)) fun t28 =>
 zae H (fun K' => zal false 1 t28 H (K' · H)) fun t29 =>
 zae H (fun K' => K' t5 H) fun t30 =>
 zae H (fun K' => K' t6 H) fun t31 =>
 zaG H (fun H K' => ACalls tP zm4 [t30, t31] H K') fun t32 =>
 zae H (fun K' => K' t22 H) fun t33 =>
 zae H (fun K' => zax [(.bool false), .snil, .snil] [(0, 1), (1, 1), (2, 1)] [(0, t29), (1, t32), (2, t33)] (K' · H)) fun t34 =>
 zak 3 t4 t34 H fun H =>
 zad true 3 t4 H fun r0 =>
 K r0 H)
 (ACalls tP zgA [t5, t6] H fun t37 H =>
 zac .geq false t37 (.int .i64 0) fun t38 =>
 zag t38
 (zae H (fun K' => zaf 0 t2 (K' · H)) fun t39 =>
 zae H (fun K' => zal false 1 t39 H (K' · H)) fun t40 =>
 zae H (fun K' => K' t5 H) fun t41 =>
 zae H (fun K' => K' t6 H) fun t42 =>
 zaG H (fun H K' => ACalls tP ztF [t41, t42] H K') fun t43 =>
 zae H (fun K' => K' t22 H) fun t44 =>
 zae H (fun K' => zax [(.bool false), .snil, .snil] [(0, 1), (1, 1), (2, 1)] [(0, t40), (1, t43), (2, t44)] (K' · H)) fun t45 =>
 zak 3 t4 t45 H fun H =>
 zad true 3 t4 H fun r0 =>
 K r0 H)
 (zae H (fun K' => zaf 0 t3 (K' · H)) fun t46 =>
 zae H (fun K' => zal false 1 t46 H (K' · H)) fun t47 =>
 zae H (fun K' => K' t6 H) fun t48 =>
 zae H (fun K' => K' t5 H) fun t49 =>
 zaG H (fun H K' => ACalls tP ztF [t48, t49] H K') fun t50 =>
 zae H (fun K' => K' t22 H) fun t51 =>
 zae H (fun K' => zax [(.bool false), .snil, .snil] [(0, 1), (1, 1), (2, 1)] [(0, t47), (1, t50), (2, t51)] (K' · H)) fun t52 =>
 zak 3 t4 t52 H fun H =>
 zad true 3 t4 H fun r0 =>
 K r0 H))
theorem zEb {t0 t1 : AV} {H : zaa} {K : Kt} (h : HSc H → zvS t0 t1 H K) : ACalls tP zmV [t0, t1] H K :=
 zam (M := zD9) Tryz.func117 (c := zEa) (by kernel_rfl) (fun hs => Eq.mpr (by kernel_rfl) (h hs))
def zEc (_ : Nat) : List Bool := []
noncomputable def zEd : Code := Tryz.f118.body.getD .skip
def zoD (t0 : AV) (H : zaa) (K : Kt) : Prop :=
 zao t0 H fun t1 H =>
 zaf 1 t1 fun t4 =>
 zad false 1 t4 H fun t5 =>
 zah 1 t5 fun t6 =>
 zac .eql false t6 (.int .i64 0) fun t7 =>
 zag t7
 (K (.int .i64 0) H)
 (zaf 0 t1 fun t9 =>
 zad false 1 t9 H fun t10 =>
 zag t10
 (K (.int .i64 (-1)) H)
 (K (.int .i64 1) H))
theorem zEe {t0 : AV} {H : zaa} {K : Kt} (h : HSc H → zoD t0 H K) : ACalls tP zgz [t0] H K :=
 zam (M := zEc) Tryz.func118 (c := zEd) (by kernel_rfl) (fun hs => Eq.mpr (by kernel_rfl) (h hs))
def zjb : Nat → List Bool
 | 6 => rl false [0,2,3,1,37]
 | _ => []
noncomputable def zoE : Code := Tryz.f119.body.getD .skip
noncomputable def zEk : List ResultVar := Tryz.f119.results.toList
def zjc (t0 t1 t5 : AV) : List AV := t0 :: t1 :: ux 3 (t5 :: ux 37 [])
def zEi : List Bool := zjb 6
noncomputable def zEg : Code := zas [1, 1, 0, 1, 0, 0] zoE
def zEf (K : Kt) : AExit → List AV → zaa → Prop := zat tP zjb [1, 1, 0, 1, 0] zoE (zaA tP zEk K)
def zvT (t0 t1 t5 : AV) (H : zaa) (K : Kt) : Prop := ALoop tP zEg (zEf K) (zjc t0 t1 t5) H
def zg9 (t0 t1 t5 : AV) (H : zaa) (K : Kt) (Kb6 : Lt) : Prop :=
 zac .geq false t5 (.int .i64 0) fun t20 =>
 zag t20
 (zae H (fun K' => K' t0 H) fun t24 =>
 zae H (fun K' => K' t5 H) fun t25 =>
 zae H (fun K' => zaj 1 t24 t25 (K' · H)) fun t26 =>
 zae H (fun K' => zal false 1 t26 H (K' · H)) fun t27 =>
 zae H (fun K' => K' t1 H) fun t28 =>
 zae H (fun K' => K' t5 H) fun t29 =>
 zae H (fun K' => zaj 1 t28 t29 (K' · H)) fun t30 =>
 zae H (fun K' => zal false 1 t30 H (K' · H)) fun t31 =>
 zae H (fun K' => zac .lss false t27 t31 (K' · H)) fun t32 =>
 zae H (fun K' => K' t32 H) fun t23 =>
 zag t23
 (K (.int .i64 (-1)) H)
 (zae H (fun K' => K' t0 H) fun t34 =>
 zae H (fun K' => K' t5 H) fun t35 =>
 zae H (fun K' => zaj 1 t34 t35 (K' · H)) fun t36 =>
 zae H (fun K' => zal false 1 t36 H (K' · H)) fun t37 =>
 zae H (fun K' => K' t1 H) fun t38 =>
 zae H (fun K' => K' t5 H) fun t39 =>
 zae H (fun K' => zaj 1 t38 t39 (K' · H)) fun t40 =>
 zae H (fun K' => zal false 1 t40 H (K' · H)) fun t41 =>
 zae H (fun K' => zac .gtr false t37 t41 (K' · H)) fun t42 =>
 zae H (fun K' => K' t42 H) fun t33 =>
 zag t33
 (K (.int .i64 1) H)
 (zac .sub false t5 (.int .i64 1) fun t22 =>
 Kb6 (zjc t0 t1 t22) H)))
 (K (.int .i64 0) H)
def zja (t0 t1 : AV) (H : zaa) (K : Kt) : Prop :=
 zah 1 t0 fun t7 =>
 zah 1 t1 fun t9 =>
 zac .neq false t7 t9 fun t10 =>
 zag t10
 (zah 1 t0 fun t12 =>
 zah 1 t1 fun t14 =>
 zac .lss false t12 t14 fun t15 =>
 zag t15
 (K (.int .i64 (-1)) H)
 (K (.int .i64 1) H))
 (zah 1 t0 fun t17 =>
 zac .sub false t17 (.int .i64 1) fun t18 =>
 zvT t0 t1 t18 H K)
theorem zEh {t0 t1 t5 : AV} {H : zaa} {K : Kt} (Inv : Nat → AV → zaa → Prop) (n : Nat) (h0 : HSc H → Inv n t5 H)
  (round : Rd1 (fun t5 => zjc t0 t1 t5) (fun t5 => fun H Kb6 => zg9 t0 t1 t5 H K Kb6) H Inv) : zvT t0 t1 t5 H K :=
 lp1 (M := zjb) zEi t5 (by kernel_rfl) Inv n h0 round
theorem zEj {t0 t1 : AV} {H : zaa} {K : Kt} (h : HSc H → zja t0 t1 H K) : ACalls tP zgA [t0, t1] H K :=
 zam (M := zjb) Tryz.func119 (c := zoE) (by kernel_rfl) (fun hs => Eq.mpr (by kernel_rfl) (h hs))
def zjG : Nat → List Bool
 | 2 => rl false [0,1,2,1,11]
 | _ => []
noncomputable def zo9 : Code := Tryz.f152.body.getD .skip
noncomputable def zF3 : List ResultVar := Tryz.f152.results.toList
def zjH (t0 t3 : AV) : List AV := t0 :: ux 2 (t3 :: ux 11 [])
def zF1 : List Bool := zjG 2
noncomputable def zFZ : Code := zas [1, 1, 0, 0, 0] zo9
def zFY (K : Kt) : AExit → List AV → zaa → Prop := zat tP zjG [1, 1, 0, 0] zo9 (zaA tP zF3 K)
def zjI (t0 t3 : AV) (H : zaa) (K : Kt) : Prop := ALoop tP zFZ (zFY K) (zjH t0 t3) H
def zo8 (t0 t3 : AV) (H : zaa) (K : Kt) (Kb2 : Lt) : Prop :=
 zac .gtr false t0 (.int .u64 0) fun t5 =>
 zag t5
 (zac .rem false t0 (.int .u64 1000000000) fun t10 =>
 zbo .u32 t10 fun t11 =>
 zaz 1 [(.int .u32 0)] 1 [(0, t11)] fun t12 =>
 zaw zbM 1 4 t3 t12 H fun t13 H =>
 zac .quo false t0 (.int .u64 1000000000) fun t7 =>
 Kb2 (zjH t7 t13) H)
 (K t3 H)
def zwr (t0 : AV) (H : zaa) (K : Kt) : Prop :=
 zjI t0 .snil H K
theorem zF0 {t0 t3 : AV} {H : zaa} {K : Kt} (Inv : Nat → AV → AV → zaa → Prop) (n : Nat) (h0 : HSc H → Inv n t0 t3 H)
  (round : Rd2 (fun t0 => fun t3 => zjH t0 t3) (fun t0 => fun t3 => fun H Kb2 => zo8 t0 t3 H K Kb2) H Inv) : zjI t0 t3 H K :=
 lp2 (M := zjG) zF1 t0 t3 (by kernel_rfl) Inv n h0 round
theorem zF2 {t0 : AV} {H : zaa} {K : Kt} (h : HSc H → zwr t0 H K) : ACalls tP zfp [t0] H K :=
 zam (M := zjG) Tryz.func152 (c := zo9) (by kernel_rfl) (fun hs => Eq.mpr (by kernel_rfl) (h hs))
def zF4 (_ : Nat) : List Bool := []
noncomputable def zF5 : Code := Tryz.f153.body.getD .skip
def zjJ (t0 : AV) (H : zaa) (K : Kt) : Prop :=
 zao t0 H fun t1 H =>
 zau [(.bool false), .snil, .snil] H fun t2 H =>
 zaf 1 t1 fun t8 =>
 zad false 1 t8 H fun t9 =>
 zah 1 t9 fun t10 =>
 zac .eql false t10 (.int .i64 0) fun t11 =>
 zag t11
 (zaz 1 [(.int .u32 0)] 1 [(0, (.int .u32 1))] fun t12 =>
 zax [(.bool false), .snil, .snil] [(0, 1), (1, 1), (2, 1)] [(2, t12)] fun t13 =>
 zak 3 t2 t13 H fun H =>
 zad true 3 t2 H fun r0 =>
 K r0 H)
 (zaf 2 t1 fun t14 =>
 zad false 1 t14 H fun t15 =>
 ACalls tP zh8 [t15] H fun t16 H =>
 zag t16
 (zad true 3 t1 H fun t17 =>
 zak 3 t2 t17 H fun H =>
 zad true 3 t2 H fun r0 =>
 K r0 H)
 (zaf 1 t1 fun t18 =>
 zad false 1 t18 H fun t19 =>
 zaf 2 t1 fun t20 =>
 zad false 1 t20 H fun t21 =>
 ACalls tP znj [t19, t21] H fun t22 H =>
 ACalls tP zh8 [t22] H fun t24 H =>
 zag t24
 (zad true 3 t1 H fun t25 =>
 zak 3 t2 t25 H fun H =>
 zad true 3 t2 H fun r0 =>
 K r0 H)
 (zaf 1 t1 fun t27 =>
 zad false 1 t27 H fun t28 =>
 ACalls tP zgF [t28, t22] H fun t30 H =>
 zay t30 0 fun t31 =>
 zay t30 1 fun t32 =>
 zaf 2 t1 fun t34 =>
 zad false 1 t34 H fun t35 =>
 ACalls tP zgF [t35, t22] H fun t37 H =>
 zay t37 0 fun t38 =>
 zay t37 1 fun t39 =>
 zaf 0 t1 fun t40 =>
 zad false 1 t40 H fun t41 =>
 zax [(.bool false), .snil, .snil] [(0, 1), (1, 1), (2, 1)] [(0, t41), (1, t31), (2, t38)] fun t44 =>
 zak 3 t2 t44 H fun H =>
 zad true 3 t2 H fun r0 =>
 K r0 H)))
theorem zws {t0 : AV} {H : zaa} {K : Kt} (h : HSc H → zjJ t0 H K) : ACalls tP zh2 [t0] H K :=
 zam (M := zF4) Tryz.func153 (c := zF5) (by kernel_rfl) (fun hs => Eq.mpr (by kernel_rfl) (h hs))
def zjK : Nat → List Bool
 | 300000 => rl false [0,1]
 | 300001 => rl false [0,1]
 | 300002 => rl false [0,1]
 | 300003 => rl false [0,1]
 | 4 => rl false [0,1,2,2,7,2,27]
 | _ => []
noncomputable def zpa : Code := Tryz.f154.body.getD .skip
noncomputable def zGb : List ResultVar := Tryz.f154.results.toList
def zjM (t0 t3 t4 t12 t13 : AV) : List AV := t0 :: ux 2 (t3 :: t4 :: ux 7 (t12 :: t13 :: ux 27 []))
def zF9 : List Bool := zjK 4
noncomputable def zF7 : Code := zas [1, 1, 1, 0, 1, 0, 0] zpa
def zF6 (K : Kt) : AExit → List AV → zaa → Prop := zat tP zjK [1, 1, 1, 0, 1, 0] zpa (zaA tP zGb K)
def zwu (t0 t3 t4 t12 t13 : AV) (H : zaa) (K : Kt) : Prop := ALoop tP zF7 (zF6 K) (zjM t0 t3 t4 t12 t13) H
def zjN (t3 : AV) (H : zaa) (K : Kt) : Prop :=
 ACalls tP zeG [t3] H fun t40 H =>
 K t40 H
def zjL (t0 t3 t4 t12 t13 : AV) (H : zaa) (K : Kt) (Kb4 : Lt) : Prop :=
 zac .lss false t13 t12 fun t14 =>
 zag t14
 (zaj 1 t0 t13 fun t18 =>
 zad false 1 t18 H fun t19 =>
 zbo .u64 t19 fun t20 =>
 zac .add false t20 t4 fun t22 =>
 zac .rem false t22 (.int .u64 1000000000) fun t25 =>
 zbo .u32 t25 fun t26 =>
 zaz 1 [(.int .u32 0)] 1 [(0, t26)] fun t27 =>
 zaw zbM 1 4 t3 t27 H fun t28 H =>
 zac .quo false t22 (.int .u64 1000000000) fun t30 =>
 zac .add false t13 (.int .i64 1) fun t31 =>
 Kb4 (zjM t0 t28 t30 t12 t31) H)
 (zac .gtr false t4 (.int .u64 0) fun t33 =>
 zag t33
 (zbo .u32 t4 fun t36 =>
 zaz 1 [(.int .u32 0)] 1 [(0, t36)] fun t37 =>
 zaw zbM 1 4 t3 t37 H fun t38 H =>
 zjN t38 H K)
 (zjN t3 H K))
def zwt (t0 : AV) (H : zaa) (K : Kt) : Prop :=
 zah 1 t0 fun t8 =>
 zac .add false t8 (.int .i64 1) fun t9 =>
 zdX zbM 1 4 t9 H fun t10 H =>
 zah 1 t0 fun t12 =>
 zwu t0 t10 (.int .u64 0) t12 (.int .i64 0) H K
theorem zF8 {t0 t3 t4 t12 t13 : AV} {H : zaa} {K : Kt} (Inv : Nat → AV → AV → AV → zaa → Prop) (n : Nat) (h0 : HSc H → Inv n t3 t4 t13 H)
  (round : Rd3 (fun t3 => fun t4 => fun t13 => zjM t0 t3 t4 t12 t13) (fun t3 => fun t4 => fun t13 => fun H Kb4 => zjL t0 t3 t4 t12 t13 H K Kb4) H Inv) : zwu t0 t3 t4 t12 t13 H K :=
 lp3 (M := zjK) zF9 t3 t4 t13 (by kernel_rfl) Inv n h0 round
theorem zGa {t0 : AV} {H : zaa} {K : Kt} (h : HSc H → zwt t0 H K) : ACalls tP zh3 [t0] H K :=
 zam (M := zjK) Tryz.func154 (c := zpa) (by kernel_rfl) (fun hs => Eq.mpr (by kernel_rfl) (h hs))
def zjO : Nat → List Bool
 | 2 => rl false [0,1,2,1,17]
 | _ => []
noncomputable def zpb : Code := Tryz.f155.body.getD .skip
noncomputable def zGh : List ResultVar := Tryz.f155.results.toList
def zjQ (t0 t3 : AV) : List AV := t0 :: ux 2 (t3 :: ux 17 [])
def zGf : List Bool := zjO 2
noncomputable def zGd : Code := zas [1, 1, 0, 0, 0] zpb
def zGc (K : Kt) : AExit → List AV → zaa → Prop := zat tP zjO [1, 1, 0, 0] zpb (zaA tP zGh K)
def zww (t0 t3 : AV) (H : zaa) (K : Kt) : Prop := ALoop tP zGd (zGc K) (zjQ t0 t3) H
def zjP (t0 t3 : AV) (H : zaa) (K : Kt) (Kb2 : Lt) : Prop :=
 zac .gtr false t3 (.int .i64 0) fun t7 =>
 zab t7 true H (fun K' => K' t0 H) fun t9 H =>
 zab t7 true H (fun K' => K' t3 H) fun t10 H =>
 zab t7 true H (fun K' => zac .sub false t10 (.int .i64 1) (K' · H)) fun t11 H =>
 zab t7 true H (fun K' => zaj 1 t9 t11 (K' · H)) fun t12 H =>
 zab t7 true H (fun K' => zad false 1 t12 H (K' · H)) fun t13 H =>
 zab t7 true H (fun K' => zac .eql false t13 (.int .u32 0) (K' · H)) fun t14 H =>
 zai t7 t14 (.bool false) fun t15 =>
 zag t15
 (zac .sub false t3 (.int .i64 1) fun t17 =>
 Kb2 (zjQ t0 t17) H)
 (zaL 1 1 t0 none (some t3) fun t20 =>
 K t20 H)
def zwv (t0 : AV) (H : zaa) (K : Kt) : Prop :=
 zah 1 t0 fun t5 =>
 zww t0 t5 H K
theorem zGe {t0 t3 : AV} {H : zaa} {K : Kt} (Inv : Nat → AV → zaa → Prop) (n : Nat) (h0 : HSc H → Inv n t3 H)
  (round : Rd1 (fun t3 => zjQ t0 t3) (fun t3 => fun H Kb2 => zjP t0 t3 H K Kb2) H Inv) : zww t0 t3 H K :=
 lp1 (M := zjO) zGf t3 (by kernel_rfl) Inv n h0 round
theorem zGg {t0 : AV} {H : zaa} {K : Kt} (h : HSc H → zwv t0 H K) : ACalls tP zeG [t0] H K :=
 zam (M := zjO) Tryz.func155 (c := zpb) (by kernel_rfl) (fun hs => Eq.mpr (by kernel_rfl) (h hs))
def zjR : Nat → List Bool
 | 300000 => rl false [0,1]
 | 300001 => rl false [0,1]
 | 300002 => rl false [0,1]
 | 300003 => rl false [0,1]
 | 300004 => rl false [0,1]
 | 6 => rl false [0,2,3,2,14,2,33]
 | _ => []
noncomputable def zpd : Code := Tryz.f156.body.getD .skip
noncomputable def zGn : List ResultVar := Tryz.f156.results.toList
def zjS (t0 t1 t5 t6 t21 t22 : AV) : List AV := t0 :: t1 :: ux 3 (t5 :: t6 :: ux 14 (t21 :: t22 :: ux 33 []))
def zGl : List Bool := zjR 6
noncomputable def zGj : Code := zas [1, 1, 1, 1, 0, 1, 0, 0] zpd
def zGi (K : Kt) : AExit → List AV → zaa → Prop := zat tP zjR [1, 1, 1, 1, 0, 1, 0] zpd (zaA tP zGn K)
def zwx (t0 t1 t5 t6 t21 t22 : AV) (H : zaa) (K : Kt) : Prop := ALoop tP zGj (zGi K) (zjS t0 t1 t5 t6 t21 t22) H
def zjU (t0 t1 t5 t8 t21 t22 : AV) (H : zaa) (K : Kt) (Kb6 : Lt) : Prop :=
 zac .quo false t8 (.int .u32 1000000000) fun t42 =>
 zac .rem false t8 (.int .u32 1000000000) fun t45 =>
 zaz 1 [(.int .u32 0)] 1 [(0, t45)] fun t46 =>
 zaw zbM 1 4 t5 t46 H fun t47 H =>
 zac .add false t22 (.int .i64 1) fun t48 =>
 Kb6 (zjS t0 t1 t47 t42 t21 t48) H
def zjV (t5 : AV) (H : zaa) (K : Kt) : Prop :=
 K t5 H
def zhg (t0 t1 t5 t6 t21 t22 : AV) (H : zaa) (K : Kt) (Kb6 : Lt) : Prop :=
 zac .lss false t22 t21 fun t23 =>
 zag t23
 (zaj 1 t0 t22 fun t27 =>
 zad false 1 t27 H fun t28 =>
 zac .add false t28 t6 fun t30 =>
 zah 1 t1 fun t33 =>
 zac .lss false t22 t33 fun t34 =>
 zag t34
 (zaj 1 t1 t22 fun t38 =>
 zad false 1 t38 H fun t39 =>
 zac .add false t30 t39 fun t40 =>
 zjU t0 t1 t5 t40 t21 t22 H K Kb6)
 (zjU t0 t1 t5 t30 t21 t22 H K Kb6))
 (zac .gtr false t6 (.int .u32 0) fun t50 =>
 zag t50
 (zaz 1 [(.int .u32 0)] 1 [(0, t6)] fun t53 =>
 zaw zbM 1 4 t5 t53 H fun t54 H =>
 zjV t54 H K)
 (zjV t5 H K))
def zjT (t0 t1 : AV) (H : zaa) (K : Kt) : Prop :=
 zah 1 t0 fun t17 =>
 zac .add false t17 (.int .i64 1) fun t18 =>
 zdX zbM 1 4 t18 H fun t19 H =>
 zah 1 t0 fun t21 =>
 zwx t0 t1 t19 (.int .u32 0) t21 (.int .i64 0) H K
def zpc (t0 t1 : AV) (H : zaa) (K : Kt) : Prop :=
 zah 1 t0 fun t10 =>
 zah 1 t1 fun t12 =>
 zac .lss false t10 t12 fun t13 =>
 zag t13
 (zjT t1 t0 H K)
 (zjT t0 t1 H K)
theorem zGk {t0 t1 t5 t6 t21 t22 : AV} {H : zaa} {K : Kt} (Inv : Nat → AV → AV → AV → zaa → Prop) (n : Nat) (h0 : HSc H → Inv n t5 t6 t22 H)
  (round : Rd3 (fun t5 => fun t6 => fun t22 => zjS t0 t1 t5 t6 t21 t22) (fun t5 => fun t6 => fun t22 => fun H Kb6 => zhg t0 t1 t5 t6 t21 t22 H K Kb6) H Inv) : zwx t0 t1 t5 t6 t21 t22 H K :=
 lp3 (M := zjR) zGl t5 t6 t22 (by kernel_rfl) Inv n h0 round
theorem zGm {t0 t1 : AV} {H : zaa} {K : Kt} (h : HSc H → zpc t0 t1 H K) : ACalls tP zm4 [t0, t1] H K :=
 zam (M := zjR) Tryz.func156 (c := zpd) (by kernel_rfl) (fun hs => Eq.mpr (by kernel_rfl) (h hs))
def zIN (_ : Nat) : List Bool := []
noncomputable def zIO : Code := Tryz.f186.body.getD .skip
def zkv (t0 : AV) (H : zaa) (K : Kt) : Prop :=
 zah 1 t0 fun t4 =>
 zac .eql false t4 (.int .i64 1) fun t5 =>
 zab t5 true H (fun K' => K' t0 H) fun t7 H =>
 zab t5 true H (fun K' => zaj 1 t7 (.int .i64 0) (K' · H)) fun t8 H =>
 zab t5 true H (fun K' => zad false 1 t8 H (K' · H)) fun t9 H =>
 zab t5 true H (fun K' => zac .eql false t9 (.int .u32 1) (K' · H)) fun t10 H =>
 zai t5 t10 (.bool false) fun t11 =>
 K t11 H
theorem zIP {t0 : AV} {H : zaa} {K : Kt} (h : HSc H → zkv t0 H K) : ACalls tP zh8 [t0] H K :=
 zam (M := zIN) Tryz.func186 (c := zIO) (by kernel_rfl) (fun hs => Eq.mpr (by kernel_rfl) (h hs))
def zeZ : Nat → List Bool
 | 1 => rl false [0,2,47]
 | 5 => rl false [5,1,1,1,41]
 | _ => []
noncomputable def zpZ : Code := Tryz.f187.body.getD .skip
noncomputable def zIW : List ResultVar := Tryz.f187.results.toList
def zp1 (t0 t1 : AV) : List AV := t0 :: t1 :: ux 47 []
def zxE : List Bool := zeZ 1
noncomputable def zp0 : Code := zas [1, 0, 0, 0] zpZ
def zxB (K : Kt) : AExit → List AV → zaa → Prop := zat tP zeZ [1, 0, 0] zpZ (zaA tP zIW K)
def zxC (t0 t1 : AV) (H : zaa) (K : Kt) : Prop := ALoop tP zp0 (zxB K) (zp1 t0 t1) H
def zkw (t5 t7 : AV) : List AV := ux 5 (t5 :: ux 1 (t7 :: ux 41 []))
def zIU : List Bool := zeZ 5
noncomputable def zIR : Code := zas [1, 0, 0, 1, 0, 1, 1, 0, 0, 0] zp0
def zIQ (K : Kt) (Kb1 : Lt) : AExit → List AV → zaa → Prop := zat tP zeZ [1, 0, 0, 1, 0, 1, 1, 0, 0] zp0 (zbz zxE Kb1 (zxB K))
def zxD (t5 t7 : AV) (H : zaa) (K : Kt) (Kb1 : Lt) : Prop := ALoop tP zIR (zIQ K Kb1) (zkw t5 t7) H
def zpY (t5 t7 : AV) (H : zaa) (K : Kt) (Kb1 : Lt) (Kb5 : Lt) : Prop :=
 zac .gtr false t7 (.int .u64 0) fun t33 =>
 zag t33
 (zae H (fun K' => K' t7 H) fun t34 =>
 zae H (fun K' => K' t5 H) fun t35 =>
 zae H (fun K' => K' t7 H) fun t36 =>
 zae H (fun K' => zac .rem false t35 t36 (K' · H)) fun t37 =>
 zae H (fun K' => K' t34 H) fun t5 =>
 zae H (fun K' => K' t37 H) fun t7 =>
 Kb5 (zkw t5 t7) H)
 (ACalls tP zfp [t5] H fun t39 H =>
 K t39 H)
def zpX (t0 t1 : AV) (H : zaa) (K : Kt) (Kb1 : Lt) : Prop :=
 zah 1 t1 fun t12 =>
 zac .gtr false t12 (.int .i64 0) fun t13 =>
 zag t13
 (zah 1 t0 fun t15 =>
 zac .leq false t15 (.int .i64 2) fun t16 =>
 zab t16 true H (fun K' => K' t1 H) fun t18 H =>
 zab t16 true H (fun K' => zah 1 t18 (K' · H)) fun t19 H =>
 zab t16 true H (fun K' => zac .leq false t19 (.int .i64 2) (K' · H)) fun t20 H =>
 zai t16 t20 (.bool false) fun t21 =>
 zag t21
 (ACalls tP zib [t0] H fun t24 H =>
 zay t24 0 fun t25 =>
 zay t24 1 fun t26 =>
 ACalls tP zib [t1] H fun t29 H =>
 zay t29 0 fun t30 =>
 zay t29 1 fun t31 =>
 zxD t25 t30 H K Kb1)
 (ACalls tP zgF [t0, t1] H fun t43 H =>
 zay t43 0 fun t44 =>
 zay t43 1 fun t45 =>
 Kb1 (zp1 t1 t45) H))
 (K t0 H)
def zxA (t0 t1 : AV) (H : zaa) (K : Kt) : Prop :=
 zxC t0 t1 H K
theorem zIT {t5 t7 : AV} {H : zaa} {K : Kt} {Kb1 : Lt} (Inv : Nat → AV → AV → zaa → Prop) (n : Nat) (h0 : HSc H → Inv n t5 t7 H)
  (round : Rd2 (fun t5 => fun t7 => zkw t5 t7) (fun t5 => fun t7 => fun H Kb5 => zpY t5 t7 H K Kb1 Kb5) H Inv) : zxD t5 t7 H K Kb1 :=
 lp2 (M := zeZ) zIU t5 t7 (by kernel_rfl) Inv n h0 round
theorem zIS {t0 t1 : AV} {H : zaa} {K : Kt} (Inv : Nat → AV → AV → zaa → Prop) (n : Nat) (h0 : HSc H → Inv n t0 t1 H)
  (round : Rd2 (fun t0 => fun t1 => zp1 t0 t1) (fun t0 => fun t1 => fun H Kb1 => zpX t0 t1 H K Kb1) H Inv) : zxC t0 t1 H K :=
 lp2 (M := zeZ) zxE t0 t1 (by kernel_rfl) Inv n h0 round
theorem zIV {t0 t1 : AV} {H : zaa} {K : Kt} (h : HSc H → zxA t0 t1 H K) : ACalls tP znj [t0, t1] H K :=
 zam (M := zeZ) Tryz.func187 (c := zpZ) (by kernel_rfl) (fun hs => Eq.mpr (by kernel_rfl) (h hs))
def zxG : Nat → List Bool
 | 12 => rl false [8,6,77]
 | _ => []
noncomputable def zp2 : Code := Tryz.f188.body.getD .skip
noncomputable def zI2 : List ResultVar := Tryz.f188.results.toList
def zIZ (t8 t9 t10 t11 t12 t13 : AV) : List AV := ux 8 (t8 :: t9 :: t10 :: t11 :: t12 :: t13 :: ux 77 [])
noncomputable def zIY : Code := zas [1, 1, 1, 1, 1, 1, 1, 1, 0, 1, 0, 0] zp2
def zIX (K : Kt) : AExit → List AV → zaa → Prop := zat tP zxG [1, 1, 1, 1, 1, 1, 1, 1, 0, 1, 0] zp2 (zaA tP zI2 K)
def zI0 (t8 t9 t10 t11 t12 t13 : AV) (H : zaa) (K : Kt) : Prop := ALoop tP zIY (zIX K) (zIZ t8 t9 t10 t11 t12 t13) H
def zxF (t0 t1 : AV) (H : zaa) (K : Kt) : Prop :=
 ACalls tP zgA [t0, t1] H fun t18 H =>
 zac .lss false t18 (.int .i64 0) fun t19 =>
 zag t19
 (zaw zbM 1 4 .snil t0 H fun t21 H =>
 zaD [.snil, t21] (K · H))
 (zah 1 t1 fun t23 =>
 zac .eql false t23 (.int .i64 1) fun t24 =>
 zag t24
 (zaj 1 t1 (.int .i64 0) fun t28 =>
 zad false 1 t28 H fun t29 =>
 zbo .u64 t29 fun t30 =>
 ACalls tP znm [t0, t30] H fun t31 H =>
 zay t31 0 fun t32 =>
 zay t31 1 fun t33 =>
 ACalls tP zfp [t33] H fun t36 H =>
 zaD [t32, t36] (K · H))
 (zah 1 t1 fun t38 =>
 zac .sub false t38 (.int .i64 1) fun t41 =>
 zaj 1 t1 t41 fun t42 =>
 zad false 1 t42 H fun t43 =>
 zbo .u64 t43 fun t44 =>
 zac .add false t44 (.int .u64 1) fun t45 =>
 zac .quo false (.int .u64 1000000000) t45 fun t46 =>
 ACalls tP ztH [t0, t46] H fun t49 H =>
 ACalls tP ztH [t1, t46] H fun t52 H =>
 zaL 1 1 t52 none (some t38) fun t54 =>
 zah 1 t0 fun t56 =>
 zac .sub false t56 t38 fun t58 =>
 zac .add false t58 (.int .i64 1) fun t59 =>
 zbp 4 [(.int .u32 0)] t59 t59 H fun t60 H =>
 zah 1 t0 fun t62 =>
 zac .sub false t62 t38 fun t64 =>
 zI0 t38 t46 t49 t54 t60 t64 H K))
theorem zI1 {t0 t1 : AV} {H : zaa} {K : Kt} (h : HSc H → zxF t0 t1 H K) : ACalls tP zgF [t0, t1] H K :=
 zam (M := zxG) Tryz.func188 (c := zp2) (by kernel_rfl) (fun hs => Eq.mpr (by kernel_rfl) (h hs))
def zJj (_ : Nat) : List Bool := []
noncomputable def zJk : Code := Tryz.f200.body.getD .skip
def zxN (t0 t1 : AV) (H : zaa) (K : Kt) : Prop :=
 zau [(.bool false), .snil, .snil] H fun t4 H =>
 zac .eql false t1 (.int .i64 0) fun t6 =>
 zag t6
 (ACalls tP zde [(.int .i64 0)] H fun t7 H =>
 zak 3 t4 t7 H fun H =>
 zad true 3 t4 H fun r0 =>
 K r0 H)
 (zac .lss false t0 (.int .i64 0) fun t9 =>
 zac .lss false t1 (.int .i64 0) fun t11 =>
 zac .neq true t9 t11 fun t12 =>
 ACalls tP zgy [t0] H fun t14 H =>
 ACalls tP zgy [t1] H fun t16 H =>
 zax [(.bool false), .snil, .snil] [(0, 1), (1, 1), (2, 1)] [(0, t12), (1, t14), (2, t16)] fun t17 =>
 ACalls tP zeF [t17] H fun t18 H =>
 zak 3 t4 t18 H fun H =>
 zad true 3 t4 H fun r0 =>
 K r0 H)
theorem zJl {t0 t1 : AV} {H : zaa} {K : Kt} (h : HSc H → zxN t0 t1 H K) : ACalls tP znl [t0, t1] H K :=
 zam (M := zJj) Tryz.func200 (c := zJk) (by kernel_rfl) (fun hs => Eq.mpr (by kernel_rfl) (h hs))
def zky : Nat → List Bool
 | 3 => rl false [0,1,3,1,3,2,22]
 | _ => []
noncomputable def zp6 : Code := Tryz.f202.body.getD .skip
noncomputable def zJs : List ResultVar := Tryz.f202.results.toList
def zkz (t0 t4 t8 t9 : AV) : List AV := t0 :: ux 3 (t4 :: ux 3 (t8 :: t9 :: ux 22 []))
def zJq : List Bool := zky 3
noncomputable def zJo : Code := zas [1, 1, 0, 1, 0, 0] zp6
def zJn (K : Kt) : AExit → List AV → zaa → Prop := zat tP zky [1, 1, 0, 1, 0] zp6 (zaA tP zJs K)
def zxP (t0 t4 t8 t9 : AV) (H : zaa) (K : Kt) : Prop := ALoop tP zJo (zJn K) (zkz t0 t4 t8 t9) H
def zp5 (t0 t4 t8 t9 : AV) (H : zaa) (K : Kt) (Kb3 : Lt) : Prop :=
 zac .lss false t9 t8 fun t10 =>
 zag t10
 (zah 1 t0 fun t14 =>
 zac .sub false t14 (.int .i64 1) fun t15 =>
 zac .sub false t15 t9 fun t17 =>
 zaj 1 t0 t17 fun t18 =>
 zad false 1 t18 H fun t19 =>
 zbo .u64 t19 fun t20 =>
 zac .sub false (.int .u64 18446744073709551615) t20 fun t23 =>
 zac .quo false t23 (.int .u64 1000000000) fun t24 =>
 zac .gtr false t4 t24 fun t25 =>
 zag t25
 (zaD [(.int .u64 0), (.bool false)] (K · H))
 (zac .mul false t4 (.int .u64 1000000000) fun t27 =>
 zac .add false t27 t20 fun t29 =>
 zac .add false t9 (.int .i64 1) fun t30 =>
 Kb3 (zkz t0 t29 t8 t30) H))
 (zaD [t4, (.bool true)] (K · H))
def zxO (t0 : AV) (H : zaa) (K : Kt) : Prop :=
 zah 1 t0 fun t8 =>
 zxP t0 (.int .u64 0) t8 (.int .i64 0) H K
theorem zJp {t0 t4 t8 t9 : AV} {H : zaa} {K : Kt} (Inv : Nat → AV → AV → zaa → Prop) (n : Nat) (h0 : HSc H → Inv n t4 t9 H)
  (round : Rd2 (fun t4 => fun t9 => zkz t0 t4 t8 t9) (fun t4 => fun t9 => fun H Kb3 => zp5 t0 t4 t8 t9 H K Kb3) H Inv) : zxP t0 t4 t8 t9 H K :=
 lp2 (M := zky) zJq t4 t9 (by kernel_rfl) Inv n h0 round
theorem zJr {t0 : AV} {H : zaa} {K : Kt} (h : HSc H → zxO t0 H K) : ACalls tP zib [t0] H K :=
 zam (M := zky) Tryz.func202 (c := zp6) (by kernel_rfl) (fun hs => Eq.mpr (by kernel_rfl) (h hs))
def zkA : Nat → List Bool
 | 4 => rl false [0,2,4,3,32]
 | _ => []
noncomputable def zp8 : Code := Tryz.f203.body.getD .skip
noncomputable def zJy : List ResultVar := Tryz.f203.results.toList
def zkB (t0 t1 t6 t7 t8 : AV) : List AV := t0 :: t1 :: ux 4 (t6 :: t7 :: t8 :: ux 32 [])
def zJw : List Bool := zkA 4
noncomputable def zJu : Code := zas [1, 1, 1, 0, 1, 0, 0] zp8
def zJt (K : Kt) : AExit → List AV → zaa → Prop := zat tP zkA [1, 1, 1, 0, 1, 0] zp8 (zaA tP zJy K)
def zxR (t0 t1 t6 t7 t8 : AV) (H : zaa) (K : Kt) : Prop := ALoop tP zJu (zJt K) (zkB t0 t1 t6 t7 t8) H
def zp7 (t0 t1 t6 t7 t8 : AV) (H : zaa) (K : Kt) (Kb4 : Lt) : Prop :=
 zac .geq false t8 (.int .i64 0) fun t17 =>
 zag t17
 (zac .mul false t7 (.int .u64 1000000000) fun t21 =>
 zaj 1 t0 t8 fun t24 =>
 zad false 1 t24 H fun t25 =>
 zbo .u64 t25 fun t26 =>
 zac .add false t21 t26 fun t27 =>
 zac .quo false t27 t1 fun t32 =>
 zbo .u32 t32 fun t33 =>
 zaj 1 t6 t8 fun t34 =>
 zak 1 t34 t33 H fun H =>
 zac .rem false t27 t1 fun t37 =>
 zac .sub false t8 (.int .i64 1) fun t19 =>
 Kb4 (zkB t0 t1 t6 t37 t19) H)
 (ACalls tP zeG [t6] H fun t39 H =>
 zaD [t39, t7] (K · H))
def zxQ (t0 t1 : AV) (H : zaa) (K : Kt) : Prop :=
 zah 1 t0 fun t11 =>
 zbp 4 [(.int .u32 0)] t11 t11 H fun t12 H =>
 zah 1 t0 fun t14 =>
 zac .sub false t14 (.int .i64 1) fun t15 =>
 zxR t0 t1 t12 (.int .u64 0) t15 H K
theorem zJv {t0 t1 t6 t7 t8 : AV} {H : zaa} {K : Kt} (Inv : Nat → AV → AV → zaa → Prop) (n : Nat) (h0 : HSc H → Inv n t7 t8 H)
  (round : Rd2 (fun t7 => fun t8 => zkB t0 t1 t6 t7 t8) (fun t7 => fun t8 => fun H Kb4 => zp7 t0 t1 t6 t7 t8 H K Kb4) H Inv) : zxR t0 t1 t6 t7 t8 H K :=
 lp2 (M := zkA) zJw t7 t8 (by kernel_rfl) Inv n h0 round
theorem zJx {t0 t1 : AV} {H : zaa} {K : Kt} (h : HSc H → zxQ t0 t1 H K) : ACalls tP znm [t0, t1] H K :=
 zam (M := zkA) Tryz.func203 (c := zp8) (by kernel_rfl) (fun hs => Eq.mpr (by kernel_rfl) (h hs))
def zHZ (_ : Nat) : List Bool := []
noncomputable def zH0 : Code := Tryz.f170.body.getD .skip
def zxo (t0 : AV) (H : zaa) (K : Kt) : Prop :=
 zao t0 H fun t1 H =>
 zad true 3 t1 H fun t3 =>
 ACalls tP zdr [t3] H fun t4 H =>
 ACalls tP zgz [t4] H fun t5 H =>
 K t5 H
theorem zH2 {t0 : AV} {H : zaa} {K : Kt} (h : HSc H → zxo t0 H K) : ACalls tP zng [t0] H K :=
 zam (M := zHZ) Tryz.func170 (c := zH0) (by kernel_rfl) (fun hs => Eq.mpr (by kernel_rfl) (h hs))
def zEN (_ : Nat) : List Bool := []
noncomputable def zEO : Code := Tryz.f127.body.getD .skip
def zv4 (t0 t1 : AV) (H : zaa) (K : Kt) : Prop :=
 zau [(.bool false), .snil, .snil] H fun t4 H =>
 zac .lss false t1 (.int .i64 0) fun t7 =>
 zab t7 false H (fun K' => K' t1 H) fun t9 H =>
 zab t7 false H (fun K' => zac .gtr false t9 (.int .i64 64) (K' · H)) fun t10 H =>
 zai t7 (.bool true) t10 fun t11 =>
 zag t11
 (ACalls tP zde [(.int .i64 0)] H fun t12 H =>
 zak 3 t4 t12 H fun H =>
 zad true 3 t4 H fun r0 =>
 zaD [r0, (.bool false)] (K · H))
 (zfc (.int .i64 0) t0 fun t14 =>
 ACalls tP znf [t14, t1] H fun t16 H =>
 zak 3 t4 t16 H fun H =>
 zad true 3 t4 H fun r0 =>
 zaD [r0, (.bool true)] (K · H))
theorem zEP {t0 t1 : AV} {H : zaa} {K : Kt} (h : HSc H → zv4 t0 t1 H K) : ACalls tP zmY [t0, t1] H K :=
 zam (M := zEN) Tryz.func127 (c := zEO) (by kernel_rfl) (fun hs => Eq.mpr (by kernel_rfl) (h hs))
def zkb : Nat → List Bool
 | 3 => rl false [0,1,3,2,2,2,16]
 | _ => []
noncomputable def zpI : Code := Tryz.f169.body.getD .skip
noncomputable def zHY : List ResultVar := Tryz.f169.results.toList
def zkd (t0 t4 t5 t8 t9 : AV) : List AV := t0 :: ux 3 (t4 :: t5 :: ux 2 (t8 :: t9 :: ux 16 []))
def zHW : List Bool := zkb 3
noncomputable def zHU : Code := zas [1, 1, 0, 1, 0, 0] zpI
def zHT (K : Kt) : AExit → List AV → zaa → Prop := zat tP zkb [1, 1, 0, 1, 0] zpI (zaA tP zHY K)
def zxn (t0 t4 t5 t8 t9 : AV) (H : zaa) (K : Kt) : Prop := ALoop tP zHU (zHT K) (zkd t0 t4 t5 t8 t9) H
def zkc (t0 t4 t5 t8 t9 : AV) (H : zaa) (K : Kt) (Kb3 : Lt) : Prop :=
 zac .lss false t9 t8 fun t10 =>
 zag t10
 (zac .eql false t0 t9 fun t14 =>
 zag t14
 (ACalls tP zde [(.int .i64 0)] H fun t15 H =>
 zak 3 t4 t15 H fun H =>
 zad true 3 t4 H fun r0 =>
 K r0 H)
 (zae H (fun K' => zal true 3 t5 H (K' · H)) fun t16 =>
 zae H (fun K' => K' t0 H) fun t17 =>
 zae H (fun K' => K' t9 H) fun t18 =>
 zae H (fun K' => zac .sub false t17 t18 (K' · H)) fun t19 =>
 zae H (fun K' => K' t9 H) fun t20 =>
 zae H (fun K' => zac .add false t20 (.int .i64 1) (K' · H)) fun t21 =>
 zaG H (fun H K' => ACalls tP znl [t19, t21] H K') fun t22 =>
 zaG H (fun H K' => ACalls tP zeK [t16, t22] H K') fun t23 =>
 zak 3 t5 t23 H fun H =>
 zac .add false t9 (.int .i64 1) fun t24 =>
 Kb3 (zkd t0 t4 t5 t8 t24) H))
 (zad true 3 t5 H fun t25 =>
 zak 3 t4 t25 H fun H =>
 zad true 3 t4 H fun r0 =>
 K r0 H)
def zxm (t0 t1 : AV) (H : zaa) (K : Kt) : Prop :=
 zau [(.bool false), .snil, .snil] H fun t4 H =>
 ACalls tP zde [(.int .i64 1)] H fun t7 H =>
 zau [(.bool false), .snil, .snil] H fun t5 H =>
 zak 3 t5 t7 H fun H =>
 zxn t0 t4 t5 t1 (.int .i64 0) H K
theorem zHV {t0 t4 t5 t8 t9 : AV} {H : zaa} {K : Kt} (Inv : Nat → AV → zaa → Prop) (n : Nat) (h0 : HSc H → Inv n t9 H)
  (round : Rd1 (fun t9 => zkd t0 t4 t5 t8 t9) (fun t9 => fun H Kb3 => zkc t0 t4 t5 t8 t9 H K Kb3) H Inv) : zxn t0 t4 t5 t8 t9 H K :=
 lp1 (M := zkb) zHW t9 (by kernel_rfl) Inv n h0 round
theorem zHX {t0 t1 : AV} {H : zaa} {K : Kt} (h : HSc H → zxm t0 t1 H K) : ACalls tP znf [t0, t1] H K :=
 zam (M := zkb) Tryz.func169 (c := zpI) (by kernel_rfl) (fun hs => Eq.mpr (by kernel_rfl) (h hs))
end Go.Proofs.YtjkkonpjecoieaaGreat
namespace Go.Proofs.YtjkkonpjecoieaaGreat
open Go Go.Abs
set_option maxRecDepth 8000
theorem ztJ (L : List Nat) (hL : L.length ≤ 1000000) (H : zaa) (K : Kt) (hK : K (.sl (zap (zbH L)) .none) H) :
  ACalls tP zeG [.sl (zap L) .none] H K := by
 refine ACalls.out (zGg fun hs => ?_)
 simp [zwv]
 refine zGe (Inv := fun q t3 H' => ∃ n : Nat, n ≤ L.length ∧ n = q ∧ t3 = .int .i64 n ∧ H' = H ∧ zbH L = zbH (L.take n)) L.length ?_ ?_
 ·intro _; exact ⟨L.length, by omega, rfl, by simp, rfl, by simp⟩
 ·rintro q t3 H' ⟨n, hn, rfl, rfl, rfl, hst⟩ hsc' hlen hsF Kb hKb
  have hone : ∀ (l : List Nat), l = zbH L → Out (List.length H') K (AV.sl (zap l) .none) H' := fun l hl => Out.one0 hs (.atom (.sl _ _)) rfl rfl (by rw [hl]; exact hK)
  by_cases h0 : n = 0
  ·subst h0
   simp [zjP]
   exact ⟨zfJ L, hone [] (by simpa [zbH] using hst.symm)⟩
  ·have hw : IntKind.i64.wrap ((n : Int) - 1) = ((n - 1 : Nat) : Int) := by rw [zar (by omega) (by omega)]; omega
   have hlt : n - 1 < L.length := by omega
   by_cases hz : L[n - 1] = 0
   ·simp [zjP, show 0 < n by omega, hw, hlt, hz]
    exact hKb _ _ ⟨n - 1, by omega, Back.here (by simp) hs (by simp [zjQ, AV.sc, AV.scA, AV.scB, AV.scV]) ⟨_, rfl, n - 1, by omega, rfl, rfl, rfl, by rw [hst, zDf (by omega) hn hz]⟩⟩
   ·have hzb : (((L[n - 1] : Nat) : Int) == 0) = false := by simp; omega
    simp [zjP, show 0 < n by omega, hw, hlt, hzb]
    refine ⟨⟨hn, zfJ L⟩, ?_⟩
    rw [zDu]
    exact hone _ (by rw [hst, zDe (by omega) hn hz])
theorem zmD (n : Nat) (hn : n < 18446744073709551616) (H : zaa) (K : Kt) (hK : K (.sl (zap (lim n)) .none) H) :
  ACalls tP zfp [.int .u64 n] H K := by
 refine ACalls.out (zF2 fun hs => ?_)
 unfold zwr zjI
 refine ALoop.own 3 zbM 1 rfl ?_
 show zjI (.int .u64 n) (.sl [] (.own H.length)) (H ++ [.perm zbM 1 0]) (Out H.length K)
 refine zF0 (Inv := fun q t0 t3 H' => ∃ (m : Nat) (A : List Nat), m = q ∧ t0 = .int .u64 m ∧ t3 = .sl (zap A) (.own H.length) ∧ lim n = A ++ lim m ∧ m < 18446744073709551616 ∧
  H' = H ++ [.perm zbM 1 A.length]) n ?_ ?_
 ·intro _; exact ⟨n, [], rfl, rfl, rfl, by simp, hn, rfl⟩
 ·rintro q t0 t3 H' ⟨m, A, rfl, rfl, rfl, hA, hm, rfl⟩ hsc' hlen hsF Kb hKb
  by_cases h0 : m = 0
  ·subst h0
   simp [zo8]
   exact Out.one hs (.atom (.sl _ _)) rfl rfl (by simpa [hA] using hK)
  ·have hlA : A.length + 1 ≤ 1000 := by
    have h1 := congrArg List.length hA
    have h2 := zbO (n := n) (k := 3) (by omega)
    rw [zcm h0] at h1
    simp at h1
    omega
   obtain ⟨x, c, hx1, hx2, hx3, e1, e2⟩ := zhK m hm
   simp only [zo8]
   simp [show 0 < m by omega, e1, e2, hx3, zaz, za9, zaB, AV.pd, zaw, zaX, zaO]
   refine ⟨⟨by omega, by omega⟩, ?_⟩
   rw [sN]
   refine hKb _ _ ⟨c, by omega, Back.here (by simp) (hs.append (by simp [AB.sc])) (by simp [zjH, ux, AV.sc, AV.scA, AV.scB, AV.scV]) ⟨_, _, rfl, c, A ++ [x], rfl, rfl, rfl, ?_, by omega, by simp⟩⟩
   rw [hA, zcm h0, show m % 1000000000 = x by omega, show m / 1000000000 = c by omega]; simp
theorem _root_.Go.Abs.ACalls.frzV1 {P : Program} {H : zaa} {f : FuncId} {K : Kt} (id e size n : Nat) (cs : List AV) (es : List (List AV)) (hH : H[id]? = some (.vec e size n cs)) (hp : zaB cs = some es.flatten) (hlen : es.length = n) (hsz : ∀ c ∈ es, c.length = size)
  (h : ACalls P f [.sl es .none] (H.set id .dead) K) : ACalls P f [.ov id n] H K := by
 intro B w G vs hR hv
 obtain ⟨G', hE, hR', hd⟩ := hR.frzV hH hp hlen hsz
 refine (h B w G' vs hR' ?_).mono fun e w' ⟨v, r, H', G'', k1, k2, k3, k4, k5⟩ => ⟨v, r, H', G'', k1, hE.trans k2, k3, k4, k5⟩
 generalize vs.toList = l at *
 match l, hv with
 | [v], ⟨h1, _⟩ => exact ⟨hd v h1, trivial⟩
theorem zDp (L : List Nat) (hL : ∀ x ∈ L, x < 1000000000) (hl : L.length ≤ 100000) {id : Nat} {H : zaa} {K : Kt} (hid : H[id]? = some (.vec zbM 1 L.length (us L))) (hK : K (.sl (zap (lim (zaq L))) .none) (H.set id .dead)) :
  ACalls tP zeG [.ov id L.length] H K := by
 refine ACalls.frzV1 id zbM 1 L.length (us L) (zap L) hid (by rw [zor, zi5]) (by simp) (zfJ L) ?_
 refine ztJ L (by omega) _ _ ?_
 rw [ziV L hL]; exact hK
theorem zve (L : List Nat) (hL : ∀ x ∈ L, x < 1000000000) (hl : L.length ≤ 100000) {id : Nat} {H : zaa} {K : Kt} (hid : H[id]? = some (.cells (us L))) (hK : K (.sl (zap (lim (zaq L))) .none) (H.set id .dead)) :
  ACalls tP zeG [.ms id 0 L.length L.length] H K := by
 refine ACalls.frz id 0 L.length L.length 1 (us L) (zap L) hid (by simp) ?_ (by simp) (zfJ L) (Nat.le_refl _) (args' := [.sl (zap L) .none]) ⟨.one .ms, trivial⟩ ?_
 ·rw [List.drop_zero, List.take_of_length_le (by simp), zor, zi5]
 ·refine ztJ L (by omega) _ _ ?_
  rw [ziV L hL]; exact hK
theorem ziF (L : List Nat) (h32 : ∀ x ∈ L, x < 4294967296) (hL : L.length ≤ 50000) (H : zaa) (K : Kt) (hK : K (.sl (zap (lim (zaq L))) .none) H) :
  ACalls tP zh3 [.sl (zap L) .none] H K := by
 refine ACalls.out (zGa fun hs => ?_)
 have hsc : ∀ A : List Nat, HSc (H ++ [.vec zbM 1 A.length (us A)]) := fun A => hs.append (by simp [AB.sc, us, AV.scA, AV.scB])
 simp [zwt, wi L.length (by omega)]
 refine ⟨⟨by omega, by omega, by omega⟩, ?_⟩
 have hend : ∀ A : List Nat, (∀ x ∈ A, x < 1000000000) → zaq A = zaq L → A.length ≤ 100000 → zjN (.ov H.length A.length) (H ++ [.vec zbM 1 A.length (us A)]) (Out H.length K) := by
  intro A hA he hl
  unfold zjN
  refine zDp A hA hl (by simp) ?_
  rw [he]
  simp
  exact Out.one hs (.atom (.sl _ _)) rfl rfl hK
 refine zF8 (Inv := fun q t3 t4 t13 H' => ∃ (i c : Nat) (A : List Nat), i ≤ L.length ∧ L.length - i = q ∧ t13 = .int .i64 i ∧ t4 = .int .u64 c ∧ t3 = .ov H.length A.length ∧ A.length = i ∧ (∀ x ∈ A, x < 1000000000) ∧ c ≤ 5 ∧
  zaq A + 1000000000 ^ i * c = zaq (L.take i) ∧ H' = H ++ [.vec zbM 1 A.length (us A)]) L.length ?_ ?_
 ·intro _; exact ⟨0, 0, [], by omega, rfl, rfl, rfl, rfl, rfl, by simp, by omega, by simp [zaq], rfl⟩
 ·rintro q t3 t4 t13 H' ⟨i, c, A, hi, rfl, rfl, rfl, rfl, hAl, hA, hc, hv, rfl⟩ hsc' hlen hsF Kb hKb
  by_cases hlt : i < L.length
  ·have hx := h32 L[i] (List.getElem_mem hlt)
   have w1 : IntKind.u64.wrap ((L[i] : Nat) : Int) = L[i] := zb7 (by omega)
   obtain ⟨s, hs1⟩ : ∃ s, s = L[i] + c := ⟨_, rfl⟩
   have w2 : IntKind.u64.wrap (((L[i] : Nat) : Int) + (c : Int)) = (s : Int) := by rw [hs1, ← Int.natCast_add]; exact zb7 (by omega)
   obtain ⟨x, c', hx1, hx2, hx3, e1, e2⟩ := zhK s (by omega)
   simp only [zjL]
   simp [hlt, w1, w2, e1, e2, hx3, zaz, za9, zaB, AV.pd, zaw, zaX, zaO, wi i (by omega)]
   refine ⟨⟨by omega, by omega⟩, ?_⟩
   have e3 : us A ++ [AV.int .u32 (x : Int)] = us (A ++ [x]) := by simp [us]
   rw [e3]
   refine hKb _ _ ⟨L.length - (i + 1), by omega, Back.here (by simp) (by simpa using hsc (A ++ [x])) (by simp [zjM, ux, AV.sc, AV.scA, AV.scB, AV.scV]) ⟨_, _, _, rfl, i + 1, c', A ++ [x], by omega, rfl, rfl, rfl, by simp, by simp [hAl], ?_, by omega, ?_, by simp⟩⟩
   ·intro y hy
    rcases List.mem_append.1 hy with hy | hy
    ·exact hA y hy
    ·simp at hy; omega
   ·rw [zgt, zgu L i hlt, ← hv, hAl, Nat.pow_succ]
    grind
  ·obtain rfl : i = L.length := by omega
   rw [List.take_length] at hv
   by_cases h0 : c = 0
   ·subst h0
    simp [zjL]
    exact hend A hA (by simpa using hv) (by omega)
   ·simp only [zjL]
    simp [show 0 < c by omega, zeQ (show c < 4294967296 by omega), zaz, za9, zaB, AV.pd, zaw, zaX, zaO]
    refine ⟨⟨by omega, by omega⟩, ?_⟩
    have e3 : us A ++ [AV.int .u32 (c : Int)] = us (A ++ [c]) := by simp [us]
    rw [e3]
    have := hend (A ++ [c]) (fun y hy => by
     rcases List.mem_append.1 hy with hy | hy
     ·exact hA y hy
     ·simp at hy; omega) (by rw [zgt, hAl]; exact hv) (by simp; omega)
    simpa using this
theorem zvv (O : List Nat) (i x : Nat) (h : i < O.length) : List.take i (us O) ++ AV.int .u32 (x : Int) :: List.drop (i + 1) (us O) = us (O.set i x) := by rw [← zvu O i x h]; simp
theorem zuL {O : List Nat} (hO : ∀ x ∈ O, x < 1000000000) {i x : Nat} (hx : x < 1000000000) : ∀ y ∈ O.set i x, y < 1000000000 := by
 intro y hy
 rcases List.mem_or_eq_of_mem_set hy with hy | rfl
 ·exact hO y hy
 ·exact hx
theorem zBk {O : List Nat} {j : Nat} (h : zaq O < 1000000000 ^ j) : O.getD j 0 = 0 := by
 by_cases hj : j < O.length
 ·have e : zaq O = zaq (O.take j) + 1000000000 ^ j * (O[j] + 1000000000 * zaq (O.drop (j + 1))) := by
   conv => lhs; rw [← List.take_append_drop j O, zgs, List.drop_eq_getElem_cons hj, zaq]
   rw [List.length_take, Nat.min_eq_left (by omega)]
  rw [List.getD_eq_getElem?_getD, List.getElem?_eq_getElem hj, Option.getD_some]
  refine Nat.eq_zero_of_not_pos fun hp => ?_
  have h2 : 1000000000 ^ j * 1 ≤ 1000000000 ^ j * (O[j] + 1000000000 * zaq (O.drop (j + 1))) := Nat.mul_le_mul_left _ (by omega)
  omega
 ·simp [List.getD_eq_getElem?_getD, show O.length ≤ j by omega]
theorem zBp (A B : List Nat) (lA : ∀ x ∈ A, x < 1000000000) (lB : ∀ x ∈ B, x < 1000000000) (ha : A.length ≤ 1000) (hb : B.length ≤ 1000) (H : zaa) (K : Kt)
  (hK : K (.sl (zap (lim (zaq A * zaq B))) .none) H) :
  ACalls tP zcR [.sl (zap A) .none, .sl (zap B) .none] H K := by
 refine ACalls.out (zD7 fun hs => ?_)
 by_cases hA0 : A = []
 ·subst hA0
  simp [zi8, zaq] at hK ⊢
  exact Out.one0 hs (.atom .snil) rfl rfl (by simpa [zap] using hK)
 by_cases hB0 : B = []
 ·subst hB0
  have hAb : ((A.length : Int) == 0) = false := by
   have : A.length ≠ 0 := fun h => hA0 (List.eq_nil_of_length_eq_zero h)
   generalize A.length = q at this
   simp; omega
  simp [zi8, zaq, hAb, hA0] at hK ⊢
  exact Out.one0 hs (.atom .snil) rfl rfl (by simpa [zap] using hK)
 have hAl0 : A.length ≠ 0 := fun h => hA0 (List.eq_nil_of_length_eq_zero h)
 have hBl0 : B.length ≠ 0 := fun h => hB0 (List.eq_nil_of_length_eq_zero h)
 have hAb : ((A.length : Int) == 0) = false := by
  generalize A.length = q at hAl0
  simp; omega
 have hBb : ((B.length : Int) == 0) = false := by
  generalize B.length = q at hBl0
  simp; omega
 have hw : IntKind.i64.wrap ((A.length : Int) + B.length) = ((A.length + B.length : Nat) : Int) := by rw [zar (by omega) (by omega)]; omega
 simp [zi8, hAb, hBb, hA0, hB0, hw, zbp]
 have hN : ((A.length : Int) + B.length).toNat = A.length + B.length := by omega
 rw [hN, zvw]
 refine ⟨⟨by omega, by omega, by omega⟩, ?_⟩
 have hsc : ∀ O : List Nat, HSc (H ++ [.cells (us O)]) := fun O => hs.append (by simp [AB.sc, us, AV.scA, AV.scB])
 have hBlt := zeE B lB
 refine zD4 (Inv := fun q t26 H' => ∃ (i : Nat) (O : List Nat), i ≤ A.length ∧ A.length - i = q ∧ t26 = .int .i64 i ∧ O.length = A.length + B.length ∧ (∀ x ∈ O, x < 1000000000) ∧ zaq O = zaq (A.take i) * zaq B ∧ H' = H ++ [.cells (us O)]) A.length ?_ ?_
 ·intro _; exact ⟨0, _, by omega, rfl, rfl, by simp, by simp, by rw [zBl]; simp [zaq], rfl⟩
 ·rintro q t26 H' ⟨i, O, hi, rfl, rfl, hOl, hO, hv, rfl⟩ hsc' hlen hsF Kb hKb
  by_cases hlt : i < A.length
  ·have hxa := lA A[i] (List.getElem_mem hlt)
   have hAl := zeE (A.take i) (fun y hy => lA y (List.mem_of_mem_take hy))
   rw [List.length_take, Nat.min_eq_left (by omega)] at hAl
   have hO0 : O.getD (i + B.length) 0 = 0 := by
    refine zBk ?_
    rw [hv, Nat.pow_add]
    exact Nat.mul_lt_mul'' hAl hBlt
   simp [zoz, hlt]
   refine zD5 (Inv := fun q t7 t31 H' => ∃ (k c : Nat) (R : List Nat), k ≤ B.length ∧ B.length - k = q ∧ t31 = .int .i64 k ∧ t7 = .int .u64 c ∧ R.length = A.length + B.length ∧ (∀ x ∈ R, x < 1000000000) ∧ c < 1000000000 ∧ R.getD (i + B.length) 0 = 0 ∧
    zaq R + c * 1000000000 ^ (i + k) = zaq O + A[i] * zaq (B.take k) * 1000000000 ^ i ∧ H' = H ++ [.cells (us R)]) B.length ?_ ?_
   ·intro _; exact ⟨0, 0, O, by omega, rfl, rfl, rfl, hOl, hO, by omega, hO0, by simp [zaq], rfl⟩
   ·rintro q t7 t31 H' ⟨k, c, R, hk, rfl, rfl, rfl, hRl, hR, hc, hR0, hr, rfl⟩ hsc'' hlen' hsF' Kb2 hKb2
    by_cases hkb : k < B.length
    ·have hik : IntKind.i64.wrap ((i : Int) + k) = ((i + k : Nat) : Int) := by rw [zar (by omega) (by omega)]; omega
     have hR2 : i + k < R.length := by omega
     have hxb := lB B[k] (List.getElem_mem hkb)
     have hxr := hR R[i + k] (List.getElem_mem hR2)
     have eT : ((i : Int) + k).toNat = i + k := by omega
     have w1 : IntKind.u64.wrap ((R[i + k] : Nat) : Int) = R[i + k] := zb7 (by omega)
     have w2 : IntKind.u64.wrap ((A[i] : Nat) : Int) = A[i] := zb7 (by omega)
     have w3 : IntKind.u64.wrap ((B[k] : Nat) : Int) = B[k] := zb7 (by omega)
     have hmul : A[i] * B[k] ≤ 999999999 * 999999999 := Nat.mul_le_mul (by omega) (by omega)
     obtain ⟨m, hm⟩ : ∃ m, m = A[i] * B[k] := ⟨_, rfl⟩
     have w4 : IntKind.u64.wrap (((A[i] : Nat) : Int) * (B[k] : Nat)) = (m : Int) := by rw [hm, ← Int.natCast_mul]; exact zb7 (by omega)
     obtain ⟨s1, hs1⟩ : ∃ s, s = m + R[i + k] := ⟨_, rfl⟩
     have w5 : IntKind.u64.wrap ((m : Int) + (R[i + k] : Nat)) = (s1 : Int) := by rw [hs1, ← Int.natCast_add]; exact zb7 (by omega)
     obtain ⟨s, hs2⟩ : ∃ s, s = s1 + c := ⟨_, rfl⟩
     have w6 : IntKind.u64.wrap ((s1 : Int) + (c : Int)) = (s : Int) := by rw [hs2, ← Int.natCast_add]; exact zb7 (by omega)
     obtain ⟨x, c', hx1, hx2, hx3, e1, e2⟩ := zhK s (by omega)
     have hnext : Kb2 (zg8 (.sl (zap A) .none) (.sl (zap B) .none) (.ms H.length 0 (A.length + B.length) (A.length + B.length)) (.int .i64 i) (.int .u64 c') (.int .i64 A.length) (.int .i64 i) (.int .i64 B.length) (.int .i64 ((k : Int) + 1))) (H ++ [.cells (us (R.set (i + k) x))]) := by
      have hls := zmQ R (i + k) x hR2
      have hb1 := zgu B k hkb
      refine hKb2 _ _ ⟨B.length - (k + 1), by omega, Back.here (by simp) (hsc _) (by simp [zg8, ux, AV.sc, AV.scA, AV.scB, AV.scV]) ⟨_, _, rfl, k + 1, c', R.set (i + k) x, by omega, rfl, by simp, rfl, by simp [hRl], zuL hR hx1, ?_, ?_, ?_, rfl⟩⟩
      ·refine Nat.lt_of_not_le fun h => ?_
       have := Nat.mul_le_mul_left 1000000000 h
       omega
      ·rw [List.getD_eq_getElem?_getD, List.getElem?_set_ne (by omega), ← List.getD_eq_getElem?_getD]; exact hR0
      ·rw [hb1, show i + (k + 1) = i + k + 1 by omega, Nat.pow_succ]
       rw [Nat.pow_add] at hr hls ⊢
       rw [hs2, hs1, hm] at hx2
       clear e1 e2 hx3 hKb hKb2 hsc' hsc'' hsF hsF' hBlt hK hs hR0 hO0 w1 w2 w3 w4 w5 w6
       generalize zaq (R.set (i + k) x) = vS at *
       generalize R[i + k] = r at *
       generalize A[i] = a at *
       generalize B[k] = b at *
       generalize zaq (List.take k B) = T at *
       generalize 1000000000 ^ i = P at *
       generalize 1000000000 ^ k = Q at *
       generalize zaq R = vR at *
       generalize zaq O = vO at *
       grind
     simp only [zoA]
     simp [hkb, hlt, hik, eT, w1, w2, w3, w4]
     refine ⟨⟨by omega, by omega⟩, ?_⟩
     rw [zzV R _ hR2]
     simp [w1, w5, w6, e1, e2, hx3, hik, eT, wi k (by omega), zvv R (i + k) x hR2]
     exact ⟨⟨by omega, by omega⟩, by omega, hnext⟩
    ·obtain rfl : k = B.length := by omega
     have hib : IntKind.i64.wrap ((i : Int) + B.length) = ((i + B.length : Nat) : Int) := by rw [zar (by omega) (by omega)]; omega
     have eT : ((i : Int) + B.length).toNat = i + B.length := by omega
     have hR2 : i + B.length < R.length := by omega
     have hls := zmQ R (i + B.length) c hR2
     rw [List.getD_eq_getElem?_getD, List.getElem?_eq_getElem hR2, Option.getD_some] at hR0
     rw [hR0] at hls
     simp only [zoA]
     simp [hib, eT, zeQ (show c < 4294967296 by omega), wi i (by omega), zvv R (i + B.length) c hR2]
     refine ⟨⟨by omega, hlt⟩, by omega, ?_⟩
     refine hKb _ _ ⟨A.length - (i + 1), by omega, Back.here (by simp) (hsc _) (by simp [zi9, ux, AV.sc, AV.scA, AV.scB, AV.scV]) ⟨_, rfl, i + 1, R.set (i + B.length) c, by omega, rfl, rfl, by simp [hRl], zuL hR hc, ?_, rfl⟩⟩
     rw [List.take_of_length_le (Nat.le_refl _)] at hr
     rw [zgu A i hlt]
     rw [hv] at hr
     clear hKb hKb2 hsc' hsc'' hsF hsF' hBlt hK hs hO0 hsc
     grind
  ·obtain rfl : i = A.length := by omega
   rw [List.take_length] at hv
   simp [zoz]
   rw [← hOl]
   refine zve O hO (by omega) (by simp) ?_
   rw [hv]
   simp
   exact Out.one hs (.atom (.sl _ _)) rfl rfl hK
theorem zmM (L : List Nat) (hL : L.length ≤ 100000) (H : zaa) (K : Kt) (hK : K (.bool (decide (L = [1]))) H) : ACalls tP zh8 [.sl (zap L) .none] H K := by
 refine ACalls.out (zIP fun hs => ?_)
 have hO : ∀ b, b = decide (L = [1]) → Out H.length K (.bool b) H := fun b hb => Out.bool (J := []) (by simp) (Nat.le_refl _) hs (by rw [hb]; exact hK)
 match L with
 | [] => simp [zkv]; exact hO false (by simp)
 | [x] =>
  simp [zkv, zap]
  refine hO _ ?_
  by_cases h : x = 1
  ·subst h; rfl
  ·have hb : ((x : Int) == 1) = false := by simp; omega
   rw [hb]; simp [h]
 | x :: y :: l =>
  have hb : ((l.length : Int) + 1 + 1 == 1) = false := by simp; omega
  simp [zkv, hb]
  exact hO false (by simp)
theorem zBj (neg : Bool) (n : Nat) (hn : (lim n).length ≤ 1000) (H : zaa) (K : Kt) (hK : K (.agg (zan (if neg = true then -(n : Int) else n))) H) :
  ACalls tP zh2 [.agg [.bool neg, .sl (zap (lim n)) .none, .sl (zap [1]) .none]] H K := by
 refine ACalls.out (zws fun hs => ?_)
 by_cases h0 : n = 0
 ·subst h0
  have e0 : (if neg = true then -((0 : Nat) : Int) else ((0 : Nat) : Int)) = 0 := by cases neg <;> rfl
  have e1 : zan 0 = [.bool false, .sl [] .none, .sl [[.int .u32 1]] .none] := by simp [zan, zap]
  rw [e0, e1] at hK
  simp [zjJ, zaz, za9, zaB, AV.pd, zax, zaP, zct, Nat.add_assoc]
  exact Out.one hs (WkV.agg (ds := [.bool false, .sl [] .none, .sl [[.int .u32 1]] .none]) ⟨.refl _, .snil, .sl _ _, trivial⟩) rfl (by simp [AV.scV, AV.scA, AV.scB]) hK
 ·have hp : 0 < (lim n).length := by rw [zcm h0]; simp
  have hb : (((lim n).length : Int) == 0) = false := by
   generalize (lim n).length = q at hp
   simp; omega
  have e1 : zan (if neg = true then -(n : Int) else n) = [.bool neg, .sl (zap (lim n)) .none, .sl (zap [1]) .none] := by
   cases neg
   ·simp [zan]
   ·simp [zan]; omega
  rw [e1] at hK
  simp [zjJ, hb, Nat.add_assoc]
  refine zmM [1] (by simp) _ _ ?_
  simp [Nat.add_assoc]
  exact Out.one hs (WkV.agg (ds := [.bool neg, .sl (zap (lim n)) .none, .sl (zap [1]) .none]) ⟨.refl _, .sl _ _, .sl _ _, trivial⟩) rfl (by simp [AV.scV, AV.scA, AV.scB]) hK
theorem zoe (neg : Bool) (n : Nat) (hn : (lim n).length ≤ 1000) {z : Int} (hz : (if neg = true then -(n : Int) else n) = z) (H : zaa) (K : Kt) (hK : K (.agg (zan z)) H) :
  ACalls tP zeF [.agg [.bool neg, .sl (zap (lim n)) .none, .sl (zap [1]) .none]] H K := by
 refine ACalls.out (zvM fun hs => ?_)
 simp [zox, Nat.add_assoc]
 refine zBj neg n hn _ _ ?_
 rw [hz]
 simp [zan, zax, zaP, zct, AV.known, Nat.add_assoc]
 exact zcE hs hK
theorem zeD (z : Int) (hz : (lim z.natAbs).length ≤ 1000) (H : zaa) (K : Kt) (hK : K (.agg (zan z)) H) : ACalls tP zdr [.agg (zan z)] H K := by
 refine ACalls.out (zvN fun hs => ?_)
 simp [zoy, zan, Nat.add_assoc]
 refine zaF (.sl (zap (lim z.natAbs)) .none) (fun J => ziF _ (zmN _) (by omega) _ _ (by rw [zca]; exact ⟨rfl, rfl⟩)) ?_
 refine zaF (.sl (zap [1]) .none) (fun J => ziF [1] (by simp) (by simp) _ _ (by simp [zaq, zdI])) ?_
 by_cases h0 : z = 0
 ·subst h0
  have e1 : zan 0 = [.bool false, .sl [] .none, .sl [[.int .u32 1]] .none] := by simp [zan, zap]
  rw [e1] at hK
  simp [zaz, za9, zaB, AV.pd, zax, zaP, zct, Nat.add_assoc]
  exact Out.one hs (WkV.agg (ds := [.bool false, .sl [] .none, .sl [[.int .u32 1]] .none]) ⟨.refl _, .snil, .sl _ _, trivial⟩) rfl (by simp [AV.scV, AV.scA, AV.scB]) hK
 ·have hp : 0 < (lim z.natAbs).length := by rw [zcm (by omega)]; simp
  have hb : (((lim z.natAbs).length : Int) == 0) = false := by
   generalize (lim z.natAbs).length = q at hp
   simp; omega
  simp [hb, zax, zaP, zct, AV.known, Nat.add_assoc]
  exact zcE hs hK
theorem zmS (n : Nat) (hn : n < 9223372036854775808) (H : zaa) (K : Kt) (hK : K (.sl (zap (lim n)) .none) H) : ACalls tP zgy [.int .i64 n] H K := by
 refine ACalls.out (zDX fun hs => ?_)
 have w1 : IntKind.u64.wrap (n : Int) = n := zb7 (by omega)
 have h0 : ¬ ((n : Int) < 0) := by omega
 simp [zvL, h0, w1]
 refine zmD n (by omega) _ _ ?_
 exact Out.one0 hs (.atom (.sl _ _)) rfl rfl hK
theorem zdC (n : Nat) (hn : n < 9223372036854775808) (H : zaa) (K : Kt) (hK : K (.agg (zan n)) H) : ACalls tP zde [.int .i64 n] H K := by
 refine ACalls.out (zMY fun hs => ?_)
 have h0 : decide ((n : Int) < 0) = false := by simp
 have hl := zbO (n := n) (k := 3) (by omega)
 simp [zy5, Nat.add_assoc]
 refine zmS n hn _ _ ?_
 simp [h0, zaz, za9, zaB, AV.pd, zax, zaP, zct, AV.known, Nat.add_assoc]
 refine ACalls.wk (args' := [.agg [.bool false, .sl (zap (lim n)) .none, .sl (zap [1]) .none]]) (zoe false n (by omega) (z := n) (by simp) _ _ ?_) ⟨.agg ⟨.refl _, .refl _, .sl _ _, trivial⟩, trivial⟩
 simp [zB0, Nat.add_assoc]
 exact zcE hs hK
theorem zgx (a b : Nat) (ha : a < 1000000000 ^ 30) (hb : b < 1000000000 ^ 30) (H : zaa) (K : Kt) (hK : K (.sl (zap (lim (a * b))) .none) H) : ACalls tP zcR [.sl (zap (lim a)) .none, .sl (zap (lim b)) .none] H K := by
 have h1 := zbO ha
 have h2 := zbO hb
 refine zBp (lim a) (lim b) (zcQ a) (zcQ b) (by omega) (by omega) _ _ ?_
 rw [zca, zca]; exact hK
theorem ztE (H : zaa) (K : Kt) (hK : K (.sl (zap [1]) .none) H) : ACalls tP zcR [.sl (zap [1]) .none, .sl (zap [1]) .none] H K := by
 have := zgx 1 1 ziG ziG H K (by rw [Nat.mul_one, zdI]; exact hK)
 rwa [zdI] at this
theorem zrc (a b : Int) (ha : Sm a) (hb : Sm b) (H : zaa) (K : Kt) (hK : K (.agg (zan (a * b))) H) : ACalls tP zeK [.agg (zan a), .agg (zan b)] H K := by
 refine ACalls.out (zy6 fun hs => ?_)
 have la := ha.len
 have lb := hb.len
 have hm := zbO (zBo ha hb)
 simp [zrb, zan, Nat.add_assoc]
 refine zaF (.agg (zan a)) (fun J => zeD a (by omega) _ _ ⟨rfl, rfl⟩) ?_
 refine zaF (.agg (zan b)) (fun J => zeD b (by omega) _ _ ⟨rfl, rfl⟩) ?_
 simp [zan, AV.known, Nat.add_assoc]
 refine zaF (.sl (zap (lim (a.natAbs * b.natAbs))) .none) (fun J => zgx _ _ ha hb _ _ ⟨rfl, rfl⟩) ?_
 refine zaF (.sl (zap [1]) .none) (fun J => ztE _ _ ⟨rfl, rfl⟩) ?_
 simp [zax, zaP, zct, AV.known, Nat.add_assoc]
 refine zaF (.agg (zan (a * b))) (fun J => zoe _ _ (by omega) (zCt a b) _ _ ⟨rfl, rfl⟩) ?_
 simp [Nat.add_assoc]
 exact zcE hs hK
theorem zsC (a b : Nat) (ha : (lim a).length ≤ 1000) (hb : (lim b).length ≤ 1000) (H : zaa) (K : Kt) (hK : K (.int .i64 (zc2 a b)) H) :
  ACalls tP zgA [.sl (zap (lim a)) .none, .sl (zap (lim b)) .none] H K := by
 refine ACalls.out (zEj fun hs => ?_)
 have hO : ∀ r, r = zc2 a b → Out H.length K (.int .i64 r) H := fun r hr => Out.int (J := []) (by simp) (Nat.le_refl _) hs (by rw [hr]; exact hK)
 have lA := zcQ a
 have lB := zcQ b
 have vA := zca a
 have vB := zca b
 by_cases hne : (lim a).length = (lim b).length
 ·simp [zja, hne]
  generalize hLA : lim a = A at *
  generalize hLB : lim b = B at *
  have hstart : IntKind.i64.wrap ((B.length : Int) - 1) = (B.length : Int) - 1 := zar (by omega) (by omega)
  rw [hstart]
  refine zEh (Inv := fun q t5 H' => ∃ i : Nat, i ≤ B.length ∧ i = q ∧ t5 = .int .i64 ((i : Int) - 1) ∧ H' = H ∧ A.drop i = B.drop i) B.length ?_ ?_
  ·intro _; exact ⟨B.length, by omega, rfl, rfl, rfl, by rw [List.drop_of_length_le (by omega), List.drop_of_length_le (by omega)]⟩
  ·rintro q t5 H' ⟨i, hi, rfl, rfl, rfl, hd⟩ hsc' hlen hsF Kb hKb
   by_cases h0 : i = 0
   ·subst h0
    simp [zg9]
    refine hO _ ?_
    simp at hd
    rw [← vA, ← vB, hd]
    simp [zc2]
   ·obtain ⟨j, rfl⟩ : ∃ j, i = j + 1 := ⟨i - 1, by omega⟩
    have hja : j < A.length := by omega
    have hjb : j < B.length := by omega
    have ej : ((j + 1 : Nat) : Int) - 1 = (j : Int) := by omega
    have hstep : IntKind.i64.wrap ((j : Int) - 1) = (j : Int) - 1 := zar (by omega) (by omega)
    rw [ej]
    rcases Nat.lt_trichotomy A[j] B[j] with h | h | h
    ·have := ztv hne lA j hja hd h
     simp [zg9, hja, hjb, h]
     exact hO _ (by rw [← vA, ← vB]; simp [zc2, this])
    ·simp [zg9, hja, hjb, h, hstep]
     refine hKb _ _ ⟨j, by omega, Back.here (by simp) hs (by simp [zjc, ux, AV.sc, AV.scA, AV.scB, AV.scV]) ⟨_, rfl, j, by omega, rfl, rfl, rfl, ?_⟩⟩
     rw [List.drop_eq_getElem_cons hja, List.drop_eq_getElem_cons hjb, hd, h]
    ·have := ztv hne.symm lB j hjb hd.symm h
     simp [zg9, hja, hjb, h, Nat.le_of_lt h, Nat.not_lt.2 (Nat.le_of_lt h)]
     exact hO _ (by rw [← vA, ← vB]; simp [zc2, this, Nat.not_lt.2 (Nat.le_of_lt this)])
 ·have hnb : (((lim a).length : Int) != ((lim b).length : Int)) = true := by simp; omega
  by_cases hlt : (lim a).length < (lim b).length
  ·have := ztu hlt
   simp [zja, hnb, hlt]
   exact hO (-1) (by simp [zc2, this])
  ·have := ztu (show (lim b).length < (lim a).length by omega)
   simp [zja, hnb, hlt]
   exact hO 1 (by simp [zc2, this, Nat.not_lt.2 (Nat.le_of_lt this)])
theorem zAM (A : List Nat) (lA : ∀ x ∈ A, x < 1000000000) (ha : A.length ≤ 1000) (d : Nat) (hd0 : 0 < d) (hd : d < 4294967296) (hdB : d ≤ 1000000000) (H : zaa) (K : Kt)
  (hK : K (.tup [.sl (zap (lim (zaq A / d))) .none, .int .u64 ((zaq A % d : Nat) : Int)]) H) :
  ACalls tP znm [.sl (zap A) .none, .int .u64 d] H K := by
 refine ACalls.out (zJx fun hs => ?_)
 have hst : IntKind.i64.wrap ((A.length : Int) - 1) = (A.length : Int) - 1 := zar (by omega) (by omega)
 simp [zxQ, zbp, hst]
 rw [zvw]
 refine ⟨⟨by omega, by omega⟩, ?_⟩
 have hsc : ∀ O : List Nat, HSc (H ++ [.cells (us O)]) := fun O => hs.append (by simp [AB.sc, us, AV.scA, AV.scB])
 refine zJv (Inv := fun q t7 t8 H' => ∃ (i r : Nat) (O : List Nat), i ≤ A.length ∧ i = q ∧ t8 = .int .i64 ((i : Int) - 1) ∧ t7 = .int .u64 r ∧ r < d ∧ O.length = A.length ∧ (∀ x ∈ O, x < 1000000000) ∧
  zaq (A.drop i) = d * zaq (O.drop i) + r ∧ H' = H ++ [.cells (us O)]) A.length ?_ ?_
 ·intro _; exact ⟨A.length, 0, _, by omega, rfl, rfl, rfl, by omega, by simp, by simp, by simp [zaq], rfl⟩
 ·rintro q t7 t8 H' ⟨i, r, O, hi, rfl, rfl, rfl, hr, hOl, hO, hv, rfl⟩ hsc' hlen hsF Kb hKb
  by_cases h0 : i = 0
  ·subst h0
   simp [zp7]
   rw [List.drop_zero, List.drop_zero] at hv
   rw [← hOl]
   refine zve O hO (by omega) (by simp) ?_
   have e1 : zaq A / d = zaq O := by rw [hv, Nat.mul_add_div hd0, Nat.div_eq_of_lt hr]; simp
   have e2 : zaq A % d = r := by rw [hv, Nat.mul_add_mod, Nat.mod_eq_of_lt hr]
   rw [e1, e2] at hK
   simp
   exact ⟨⟨rfl, rfl⟩, Out.tup (bs := [.sl (zap (lim (zaq O))) .none, .int .u64 (r : Int)]) hs hK ⟨slV, za1 rfl rfl, trivial⟩⟩
  ·obtain ⟨j, rfl⟩ : ∃ j, i = j + 1 := ⟨i - 1, by omega⟩
   have hja : j < A.length := by omega
   have hjO : j < O.length := by omega
   have hxa := lA A[j] (List.getElem_mem hja)
   have ej : ((j + 1 : Nat) : Int) - 1 = (j : Int) := by omega
   have hstep : IntKind.i64.wrap ((j : Int) - 1) = (j : Int) - 1 := zar (by omega) (by omega)
   have hrB : r * 1000000000 ≤ 1000000000 * 1000000000 := Nat.mul_le_mul_right _ (by omega)
   obtain ⟨m, hm⟩ : ∃ m, m = r * 1000000000 := ⟨_, rfl⟩
   have w1 : IntKind.u64.wrap ((r : Int) * 1000000000) = (m : Int) := by rw [show (r : Int) * 1000000000 = (m : Int) by omega]; exact zb7 (by omega)
   have w2 : IntKind.u64.wrap ((A[j] : Nat) : Int) = A[j] := zb7 (by omega)
   obtain ⟨s, hs1⟩ : ∃ s, s = m + A[j] := ⟨_, rfl⟩
   have w3 : IntKind.u64.wrap ((m : Int) + (A[j] : Nat)) = (s : Int) := by rw [hs1, ← Int.natCast_add]; exact zb7 (by omega)
   obtain ⟨x, c, hx1, hx2, e1, e2⟩ := zsR s d hd0 (by omega)
   have hcB : c < 1000000000 := by
    refine Nat.lt_of_not_le fun h => ?_
    have h1 : d * 1000000000 ≤ d * c := Nat.mul_le_mul_left _ h
    have h2 : r * 1000000000 + 1000000000 ≤ d * 1000000000 := by
     rw [← Nat.succ_mul]; exact Nat.mul_le_mul_right _ hr
    omega
   have w4 : IntKind.u32.wrap (c : Int) = c := zeQ (by omega)
   rw [ej]
   simp only [zp7]
   simp [hja, w1, w2, w3, e1, e2, w4, hstep, zDy O j c hjO, hOl]
   refine ⟨by omega, hKb _ _ ⟨j, by omega, Back.here (by simp) (hsc _) (by simp [zkB, ux, AV.sc, AV.scA, AV.scB, AV.scV]) ⟨_, _, rfl, j, x, O.set j c, by omega, rfl, rfl, rfl, hx1, by simp [hOl], zCs hO hcB, ?_, rfl⟩⟩⟩
   rw [zmP A j hja, zmP (O.set j c) j (by simpa using hjO), List.getElem_set_self, List.drop_set_of_lt (by omega), hv]
   rw [hs1, hm] at hx2
   generalize zaq (O.drop (j + 1)) = Z at *
   grind
theorem zsQ (a b : Nat) (ha : (lim a).length ≤ 1000) (hb0 : 0 < b) (hb : b < 1000000000) (H : zaa) (K : Kt)
  (hK : K (.tup [.sl (zap (lim (a / b))) .none, .sl (zap (lim (a % b))) .none]) H) :
  ACalls tP zgF [.sl (zap (lim a)) .none, .sl (zap (lim b)) .none] H K := by
 refine ACalls.out (zI1 fun hs => ?_)
 have hlb : lim b = [b] := ztq (by omega) hb
 simp only [zxF]
 refine zsC a b ha (by rw [hlb]; simp) _ _ ?_
 have hcz : (zc2 a b < 0) ↔ a < b := by
  unfold zc2
  split
  ·simp; assumption
  ·split <;> simp <;> omega
 by_cases hlt : a < b
 ·simp [hcz, hlt]
  rw [Nat.div_eq_of_lt hlt, Nat.mod_eq_of_lt hlt, zBh] at hK
  simp [zaw, zaX, zaO]
  refine ⟨zfJ _, ⟨by omega, by omega⟩, ⟨rfl, rfl⟩, ?_⟩
  exact Out.tup (bs := [.sl (zap []) .none, .sl (zap (lim a)) .none]) hs hK ⟨zeg, slV, trivial⟩
 ·have w1 : IntKind.u64.wrap (b : Int) = b := zb7 (by omega)
  have hm : a % b < b := Nat.mod_lt _ hb0
  simp [hcz, hlt, hlb, w1]
  refine zAM (lim a) (zcQ a) ha b hb0 (by omega) (by omega) _ _ ?_
  rw [zca]
  simp
  refine zmD (a % b) (by omega) _ _ ?_
  refine ⟨⟨rfl, rfl⟩, ?_⟩
  exact Out.tup0 (bs := [.sl (zap (lim (a / b))) .none, .sl (zap (lim (a % b))) .none]) hs hK ⟨slV, slV, trivial⟩
end Go.Proofs.YtjkkonpjecoieaaGreat
