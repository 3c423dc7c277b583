import Derived.Test.YtjkkonpjecoieaaGreatKNum
import Derived.Test.YtjkkonpjecoieaaGreatProg
import Derived.KernelRfl
import Derived.Test.YtjkkonpjecoieaaGreatAbsQ1
import Derived.IntWalk
set_option linter.unusedSimpArgs false
set_option linter.unusedVariables false
namespace Go.Proofs.YtjkkonpjecoieaaGreat
open Go Go.Abs
set_option maxRecDepth 100000
def zG9 (_ : Nat) : List Bool := []
noncomputable def zHa : Code := Tryz.f20.body.getD .skip
def zwt (t0 : AV) (H : zaa) (K : Kt) : Prop :=
 zaw [(.bool false), .snil, .snil] H fun t2 H =>
 zac .lss false t0 (.int .i64 0) fun t4 =>
 zag t4
 (zac .add false t0 (.int .i64 1) fun t6 =>
 aUn .neg t6 fun t7 =>
 zbt .u64 t7 fun t8 =>
 zac .add false t8 (.int .u64 1) fun t9 =>
 ACalls tP zgo [t9] H fun t10 H =>
 zaz 1 [(.int .u32 0)] 1 [(0, (.int .u32 1))] fun t11 =>
 ACalls tP zcG [(.bool true), t10, t11] H fun t12 H =>
 zak 3 t2 t12 H fun H =>
 zad true 3 t2 H fun r0 =>
 K r0 H)
 (zbt .u64 t0 fun t14 =>
 ACalls tP zgo [t14] H fun t15 H =>
 zaz 1 [(.int .u32 0)] 1 [(0, (.int .u32 1))] fun t16 =>
 ACalls tP zcG [(.bool false), t15, t16] H fun t17 H =>
 zak 3 t2 t17 H fun H =>
 zad true 3 t2 H fun r0 =>
 K r0 H)
theorem zHb {t0 : AV} {H : zaa} {K : Kt} (h : HSc H → zwt t0 H K) : ACalls tP zcu [t0] H K :=
 zam (M := zG9) Tryz.func20 (c := zHa) (by kernel_rfl) (fun hs => Eq.mpr (by kernel_rfl) (h hs))
def zHf (_ : Nat) : List Bool := []
noncomputable def zHg : Code := Tryz.f21.body.getD .skip
def zwz (t0 t1 : AV) (H : zaa) (K : Kt) : Prop :=
 zap t0 H fun t2 H =>
 zap t1 H fun t3 H =>
 zaw [(.bool false), .snil, .snil] H fun t4 H =>
 zae H (fun K' => zal true 3 t2 H (K' · H)) fun t5 =>
 zaE H (fun H K' => ACalls tP zdy [t5] H K') fun t6 =>
 zae H (fun K' => zal true 3 t3 H (K' · H)) fun t7 =>
 zaE H (fun H K' => ACalls tP zdy [t7] H K') fun t8 =>
 zak 3 t2 t6 H fun H =>
 zak 3 t3 t8 H fun H =>
 zae H (fun K' => zaf 0 t2 (K' · H)) fun t9 =>
 zae H (fun K' => zal false 1 t9 H (K' · H)) fun t10 =>
 zae H (fun K' => zaf 0 t3 (K' · H)) fun t11 =>
 zae H (fun K' => zal false 1 t11 H (K' · H)) fun t12 =>
 zae H (fun K' => zac .neq true t10 t12 (K' · H)) fun t13 =>
 zae H (fun K' => zaf 1 t2 (K' · H)) fun t14 =>
 zae H (fun K' => zal false 1 t14 H (K' · H)) fun t15 =>
 zae H (fun K' => zaf 1 t3 (K' · H)) fun t16 =>
 zae H (fun K' => zal false 1 t16 H (K' · H)) fun t17 =>
 zaE H (fun H K' => ACalls tP zcH [t15, t17] H K') fun t18 =>
 zae H (fun K' => zaf 2 t2 (K' · H)) fun t19 =>
 zae H (fun K' => zal false 1 t19 H (K' · H)) fun t20 =>
 zae H (fun K' => zaf 2 t3 (K' · H)) fun t21 =>
 zae H (fun K' => zal false 1 t21 H (K' · H)) fun t22 =>
 zaE H (fun H K' => ACalls tP zcH [t20, t22] H K') fun t23 =>
 zaE H (fun H K' => ACalls tP zcG [t13, t18, t23] H K') fun t24 =>
 zak 3 t4 t24 H fun H =>
 zad true 3 t4 H fun r0 =>
 K r0 H
theorem zHh {t0 t1 : AV} {H : zaa} {K : Kt} (h : HSc H → zwz t0 t1 H K) : ACalls tP zfb [t0, t1] H K :=
 zam (M := zHf) Tryz.func21 (c := zHg) (by kernel_rfl) (fun hs => Eq.mpr (by kernel_rfl) (h hs))
def zHz (_ : Nat) : List Bool := []
noncomputable def zHA : Code := Tryz.f22.body.getD .skip
def zwB (t0 t1 : AV) (H : zaa) (K : Kt) : Prop :=
 zap t0 H fun t2 H =>
 zap t1 H fun t3 H =>
 zaw [(.bool false), .snil, .snil] H fun t4 H =>
 zae H (fun K' => zal true 3 t2 H (K' · H)) fun t8 =>
 zaE H (fun H K' => ACalls tP zdy [t8] H K') fun t9 =>
 zae H (fun K' => zal true 3 t3 H (K' · H)) fun t10 =>
 zaE H (fun H K' => ACalls tP zdy [t10] H K') fun t11 =>
 zak 3 t2 t9 H fun H =>
 zak 3 t3 t11 H fun H =>
 zae H (fun K' => zaf 1 t2 (K' · H)) fun t12 =>
 zae H (fun K' => zal false 1 t12 H (K' · H)) fun t13 =>
 zae H (fun K' => zaf 2 t3 (K' · H)) fun t14 =>
 zae H (fun K' => zal false 1 t14 H (K' · H)) fun t15 =>
 zaE H (fun H K' => ACalls tP zcH [t13, t15] H K') fun t16 =>
 zae H (fun K' => zaf 1 t3 (K' · H)) fun t17 =>
 zae H (fun K' => zal false 1 t17 H (K' · H)) fun t18 =>
 zae H (fun K' => zaf 2 t2 (K' · H)) fun t19 =>
 zae H (fun K' => zal false 1 t19 H (K' · H)) fun t20 =>
 zaE H (fun H K' => ACalls tP zcH [t18, t20] H K') fun t21 =>
 zae H (fun K' => K' t16 H) fun t5 =>
 zae H (fun K' => K' t21 H) fun t6 =>
 zaf 2 t2 fun t22 =>
 zad false 1 t22 H fun t23 =>
 zaf 2 t3 fun t24 =>
 zad false 1 t24 H fun t25 =>
 ACalls tP zcH [t23, t25] H fun t26 H =>
 zaf 0 t2 fun t27 =>
 zad false 1 t27 H fun t28 =>
 zaf 0 t3 fun t29 =>
 zad false 1 t29 H fun t30 =>
 zac .eql true t28 t30 fun t31 =>
 zag t31
 (zae H (fun K' => zaf 0 t2 (K' · H)) fun t32 =>
 zae H (fun K' => zal false 1 t32 H (K' · H)) fun t33 =>
 zae H (fun K' => K' t5 H) fun t34 =>
 zae H (fun K' => K' t6 H) fun t35 =>
 zaE H (fun H K' => ACalls tP zm5 [t34, t35] H K') fun t36 =>
 zae H (fun K' => K' t26 H) fun t37 =>
 zaE H (fun H K' => ACalls tP zcG [t33, t36, t37] H K') fun t38 =>
 zak 3 t4 t38 H fun H =>
 zad true 3 t4 H fun r0 =>
 K r0 H)
 (ACalls tP zh0 [t5, t6] H fun t41 H =>
 zac .geq false t41 (.int .i64 0) fun t42 =>
 zag t42
 (zae H (fun K' => zaf 0 t2 (K' · H)) fun t43 =>
 zae H (fun K' => zal false 1 t43 H (K' · H)) fun t44 =>
 zae H (fun K' => K' t5 H) fun t45 =>
 zae H (fun K' => K' t6 H) fun t46 =>
 zaE H (fun H K' => ACalls tP zgp [t45, t46] H K') fun t47 =>
 zae H (fun K' => K' t26 H) fun t48 =>
 zaE H (fun H K' => ACalls tP zcG [t44, t47, t48] H K') fun t49 =>
 zak 3 t4 t49 H fun H =>
 zad true 3 t4 H fun r0 =>
 K r0 H)
 (zae H (fun K' => zaf 0 t3 (K' · H)) fun t50 =>
 zae H (fun K' => zal false 1 t50 H (K' · H)) fun t51 =>
 zae H (fun K' => K' t6 H) fun t52 =>
 zae H (fun K' => K' t5 H) fun t53 =>
 zaE H (fun H K' => ACalls tP zgp [t52, t53] H K') fun t54 =>
 zae H (fun K' => K' t26 H) fun t55 =>
 zaE H (fun H K' => ACalls tP zcG [t51, t54, t55] H K') fun t56 =>
 zak 3 t4 t56 H fun H =>
 zad true 3 t4 H fun r0 =>
 K r0 H))
theorem zHB {t0 t1 : AV} {H : zaa} {K : Kt} (h : HSc H → zwB t0 t1 H K) : ACalls tP zgh [t0, t1] H K :=
 zam (M := zHz) Tryz.func22 (c := zHA) (by kernel_rfl) (fun hs => Eq.mpr (by kernel_rfl) (h hs))
def zkM : Nat → List Bool
 | 2 => rl false [0,1,2,1,11]
 | _ => []
noncomputable def zqj : Code := Tryz.f57.body.getD .skip
noncomputable def zKO : List ResultVar := Tryz.f57.results.toList
def zkN (t0 t3 : AV) : List AV := t0 :: ux 2 (t3 :: ux 11 [])
def zKM : List Bool := zkM 2
noncomputable def zKK : Code := zar [1, 1, 0, 0, 0] zqj
def zKJ (K : Kt) : AExit → List AV → zaa → Prop := zat tP zkM [1, 1, 0, 0] zqj (zay tP zKO K)
def zkO (t0 t3 : AV) (H : zaa) (K : Kt) : Prop := ALoop tP zKK (zKJ K) (zkN t0 t3) H
def zqi (t0 t3 : AV) (H : zaa) (K : Kt) (Kb2 : Lt) : Prop :=
 zac .gtr false t0 (.int .u64 0) fun t5 =>
 zag t5
 (zac .rem false t0 (.int .u64 1000000000) fun t8 =>
 zbt .u32 t8 fun t9 =>
 zaz 1 [(.int .u32 0)] 1 [(0, t9)] fun t10 =>
 zax zce 1 4 t3 t10 H fun t11 H =>
 zac .quo false t0 (.int .u64 1000000000) fun t13 =>
 Kb2 (zkN t13 t11) H)
 (K t3 H)
def zxS (t0 : AV) (H : zaa) (K : Kt) : Prop :=
 zkO t0 .snil H K
theorem zKL {t0 t3 : AV} {H : zaa} {K : Kt} (Inv : Nat → AV → AV → zaa → Prop) (n : Nat) (h0 : HSc H → Inv n t0 t3 H)
  (round : Rd2 (fun t0 => fun t3 => zkN t0 t3) (fun t0 => fun t3 => fun H Kb2 => zqi t0 t3 H K Kb2) H Inv) : zkO t0 t3 H K :=
 lp2 (M := zkM) zKM t0 t3 (by kernel_rfl) Inv n h0 round
theorem zKN {t0 : AV} {H : zaa} {K : Kt} (h : HSc H → zxS t0 H K) : ACalls tP zgo [t0] H K :=
 zam (M := zkM) Tryz.func57 (c := zqj) (by kernel_rfl) (fun hs => Eq.mpr (by kernel_rfl) (h hs))
def zKP (_ : Nat) : List Bool := []
noncomputable def zKQ : Code := Tryz.f58.body.getD .skip
def zxU (t0 : AV) (H : zaa) (K : Kt) : Prop :=
 zap t0 H fun t1 H =>
 zaw [(.bool false), .snil, .snil] H fun t2 H =>
 zaf 0 t1 fun t3 =>
 zad false 1 t3 H fun t4 =>
 zaf 1 t1 fun t5 =>
 zad false 1 t5 H fun t6 =>
 zaf 2 t1 fun t7 =>
 zad false 1 t7 H fun t8 =>
 ACalls tP zcG [t4, t6, t8] H fun t9 H =>
 zak 3 t2 t9 H fun H =>
 zad true 3 t2 H fun r0 =>
 K r0 H
theorem zKR {t0 : AV} {H : zaa} {K : Kt} (h : HSc H → zxU t0 H K) : ACalls tP zdy [t0] H K :=
 zam (M := zKP) Tryz.func58 (c := zKQ) (by kernel_rfl) (fun hs => Eq.mpr (by kernel_rfl) (h hs))
def zeS : Nat → List Bool
 | 3 => rl false [0,2,3,2,63]
 | 7 => rl false [0,2,3,4,61]
 | _ => []
noncomputable def zql : Code := Tryz.f59.body.getD .skip
noncomputable def zKY : List ResultVar := Tryz.f59.results.toList
def zkQ (t0 t1 t5 t6 : AV) : List AV := t0 :: t1 :: ux 3 (t5 :: t6 :: ux 63 [])
def zxZ : List Bool := zeS 3
noncomputable def zqm : Code := zar [1, 1, 0, 1, 0, 0] zql
def zxW (K : Kt) : AExit → List AV → zaa → Prop := zat tP zeS [1, 1, 0, 1, 0] zql (zay tP zKY K)
def zxX (t0 t1 t5 t6 : AV) (H : zaa) (K : Kt) : Prop := ALoop tP zqm (zxW K) (zkQ t0 t1 t5 t6) H
def zkR (t0 t1 t5 t6 t7 t8 : AV) : List AV := t0 :: t1 :: ux 3 (t5 :: t6 :: t7 :: t8 :: ux 61 [])
def zKW : List Bool := zeS 7
noncomputable def zKT : Code := zar [1, 0, 0, 1, 1, 0, 0] zqm
def zKS (K : Kt) (Kb3 : Lt) : AExit → List AV → zaa → Prop := zat tP zeS [1, 0, 0, 1, 1, 0] zqm (zbF zxZ Kb3 (zxW K))
def zxY (t0 t1 t5 t6 t7 t8 : AV) (H : zaa) (K : Kt) (Kb3 : Lt) : Prop := ALoop tP zKT (zKS K Kb3) (zkR t0 t1 t5 t6 t7 t8) H
def zkS (t0 t1 t5 t6 t7 t8 : AV) (H : zaa) (K : Kt) (Kb3 : Lt) (Kb7 : Lt) : Prop :=
 zac .add false t6 t8 fun t61 =>
 zac .rem false t7 (.int .u64 1000000000) fun t63 =>
 zbt .u32 t63 fun t64 =>
 zaj 1 t5 t61 fun t65 =>
 zak 1 t65 t64 H fun H =>
 zac .quo false t7 (.int .u64 1000000000) fun t67 =>
 zac .add false t8 (.int .i64 1) fun t31 =>
 Kb7 (zkR t0 t1 t5 t6 t67 t31) H
def zkP (t0 t1 t5 t6 t7 t8 : AV) (H : zaa) (K : Kt) (Kb3 : Lt) (Kb7 : Lt) : Prop :=
 zah 1 t1 fun t24 =>
 zac .lss false t8 t24 fun t25 =>
 zab t25 false H (fun K' => K' t7 H) fun t27 H =>
 zab t25 false H (fun K' => zac .gtr false t27 (.int .u64 0) (K' · H)) fun t28 H =>
 zai t25 (.bool true) t28 fun t29 =>
 zag t29
 (zac .add false t6 t8 fun t36 =>
 zaj 1 t5 t36 fun t37 =>
 zad false 1 t37 H fun t38 =>
 zbt .u64 t38 fun t39 =>
 zac .add false t7 t39 fun t40 =>
 zah 1 t1 fun t43 =>
 zac .lss false t8 t43 fun t44 =>
 zag t44
 (zae H (fun K' => K' t40 H) fun t45 =>
 zae H (fun K' => K' t0 H) fun t46 =>
 zae H (fun K' => K' t6 H) fun t47 =>
 zae H (fun K' => zaj 1 t46 t47 (K' · H)) fun t48 =>
 zae H (fun K' => zal false 1 t48 H (K' · H)) fun t49 =>
 zae H (fun K' => zbt .u64 t49 (K' · H)) fun t50 =>
 zae H (fun K' => K' t1 H) fun t51 =>
 zae H (fun K' => K' t8 H) fun t52 =>
 zae H (fun K' => zaj 1 t51 t52 (K' · H)) fun t53 =>
 zae H (fun K' => zal false 1 t53 H (K' · H)) fun t54 =>
 zae H (fun K' => zbt .u64 t54 (K' · H)) fun t55 =>
 zae H (fun K' => zac .mul false t50 t55 (K' · H)) fun t56 =>
 zae H (fun K' => zac .add false t45 t56 (K' · H)) fun t57 =>
 zae H (fun K' => K' t57 H) fun t7 =>
 zkS t0 t1 t5 t6 t7 t8 H K Kb3 Kb7)
 (zkS t0 t1 t5 t6 t40 t8 H K Kb3 Kb7))
 (zac .add false t6 (.int .i64 1) fun t21 =>
 Kb3 (zkQ t0 t1 t5 t21) H)
def zqk (t0 t1 t5 t6 : AV) (H : zaa) (K : Kt) (Kb3 : Lt) : Prop :=
 zah 1 t0 fun t18 =>
 zac .lss false t6 t18 fun t19 =>
 zag t19
 (zxY t0 t1 t5 t6 (.int .u64 0) (.int .i64 0) H K Kb3)
 (ACalls tP zd4 [t5] H fun t69 H =>
 K t69 H)
def zxV (t0 t1 : AV) (H : zaa) (K : Kt) : Prop :=
 zah 1 t0 fun t10 =>
 zah 1 t1 fun t12 =>
 zac .add false t10 t12 fun t13 =>
 zac .add false t13 (.int .i64 1) fun t14 =>
 zbe 4 [(.int .u32 0)] t14 t14 H fun t15 H =>
 zxX t0 t1 t15 (.int .i64 0) H K
theorem zKV {t0 t1 t5 t6 t7 t8 : AV} {H : zaa} {K : Kt} {Kb3 : Lt} (Inv : Nat → AV → AV → zaa → Prop) (n : Nat) (h0 : HSc H → Inv n t7 t8 H)
  (round : Rd2 (fun t7 => fun t8 => zkR t0 t1 t5 t6 t7 t8) (fun t7 => fun t8 => fun H Kb7 => zkP t0 t1 t5 t6 t7 t8 H K Kb3 Kb7) H Inv) : zxY t0 t1 t5 t6 t7 t8 H K Kb3 :=
 lp2 (M := zeS) zKW t7 t8 (by kernel_rfl) Inv n h0 round
theorem zKU {t0 t1 t5 t6 : AV} {H : zaa} {K : Kt} (Inv : Nat → AV → zaa → Prop) (n : Nat) (h0 : HSc H → Inv n t6 H)
  (round : Rd1 (fun t6 => zkQ t0 t1 t5 t6) (fun t6 => fun H Kb3 => zqk t0 t1 t5 t6 H K Kb3) H Inv) : zxX t0 t1 t5 t6 H K :=
 lp1 (M := zeS) zxZ t6 (by kernel_rfl) Inv n h0 round
theorem zKX {t0 t1 : AV} {H : zaa} {K : Kt} (h : HSc H → zxV t0 t1 H K) : ACalls tP zcH [t0, t1] H K :=
 zam (M := zeS) Tryz.func59 (c := zql) (by kernel_rfl) (fun hs => Eq.mpr (by kernel_rfl) (h hs))
def zkT : Nat → List Bool
 | 4 => rl false [0,2,3,3,46]
 | _ => []
noncomputable def zqn : Code := Tryz.f60.body.getD .skip
noncomputable def zK5 : List ResultVar := Tryz.f60.results.toList
def zkU (t0 t1 t5 t6 t7 : AV) : List AV := t0 :: t1 :: ux 3 (t5 :: t6 :: t7 :: ux 46 [])
def zK3 : List Bool := zkT 4
noncomputable def zK1 : Code := zar [1, 1, 1, 0, 1, 0, 0] zqn
def zK0 (K : Kt) : AExit → List AV → zaa → Prop := zat tP zkT [1, 1, 1, 0, 1, 0] zqn (zay tP zK5 K)
def zkW (t0 t1 t5 t6 t7 : AV) (H : zaa) (K : Kt) : Prop := ALoop tP zK1 (zK0 K) (zkU t0 t1 t5 t6 t7) H
def zkV (t0 t1 t5 t7 t8 : AV) (H : zaa) (K : Kt) (Kb4 : Lt) : Prop :=
 zac .quo false t8 (.int .u32 1000000000) fun t47 =>
 zac .rem false t8 (.int .u32 1000000000) fun t50 =>
 zaz 1 [(.int .u32 0)] 1 [(0, t50)] fun t51 =>
 zax zce 1 4 t5 t51 H fun t52 H =>
 zac .add false t7 (.int .i64 1) fun t24 =>
 Kb4 (zkU t0 t1 t52 t47 t24) H
def zfB (t0 t1 t5 t7 t8 : AV) (H : zaa) (K : Kt) (Kb4 : Lt) : Prop :=
 zah 1 t1 fun t38 =>
 zac .lss false t7 t38 fun t39 =>
 zag t39
 (zaj 1 t1 t7 fun t43 =>
 zad false 1 t43 H fun t44 =>
 zac .add false t8 t44 fun t45 =>
 zkV t0 t1 t5 t7 t45 H K Kb4)
 (zkV t0 t1 t5 t7 t8 H K Kb4)
def zfA (t0 t1 t5 t6 t7 : AV) (H : zaa) (K : Kt) (Kb4 : Lt) : Prop :=
 zah 1 t0 fun t11 =>
 zac .lss false t7 t11 fun t12 =>
 zab t12 false H (fun K' => K' t7 H) fun t14 H =>
 zab t12 false H (fun K' => K' t1 H) fun t15 H =>
 zab t12 false H (fun K' => zah 1 t15 (K' · H)) fun t16 H =>
 zab t12 false H (fun K' => zac .lss false t14 t16 (K' · H)) fun t17 H =>
 zai t12 (.bool true) t17 fun t18 =>
 zab t18 false H (fun K' => K' t6 H) fun t20 H =>
 zab t18 false H (fun K' => zac .gtr false t20 (.int .u32 0) (K' · H)) fun t21 H =>
 zai t18 (.bool true) t21 fun t22 =>
 zag t22
 (zah 1 t0 fun t28 =>
 zac .lss false t7 t28 fun t29 =>
 zag t29
 (zaj 1 t0 t7 fun t33 =>
 zad false 1 t33 H fun t34 =>
 zac .add false t6 t34 fun t35 =>
 zfB t0 t1 t5 t7 t35 H K Kb4)
 (zfB t0 t1 t5 t7 t6 H K Kb4))
 (K t5 H)
def zx0 (t0 t1 : AV) (H : zaa) (K : Kt) : Prop :=
 zkW t0 t1 .snil (.int .u32 0) (.int .i64 0) H K
theorem zK2 {t0 t1 t5 t6 t7 : AV} {H : zaa} {K : Kt} (Inv : Nat → AV → AV → AV → zaa → Prop) (n : Nat) (h0 : HSc H → Inv n t5 t6 t7 H)
  (round : Rd3 (fun t5 => fun t6 => fun t7 => zkU t0 t1 t5 t6 t7) (fun t5 => fun t6 => fun t7 => fun H Kb4 => zfA t0 t1 t5 t6 t7 H K Kb4) H Inv) : zkW t0 t1 t5 t6 t7 H K :=
 lp3 (M := zkT) zK3 t5 t6 t7 (by kernel_rfl) Inv n h0 round
theorem zK4 {t0 t1 : AV} {H : zaa} {K : Kt} (h : HSc H → zx0 t0 t1 H K) : ACalls tP zm5 [t0, t1] H K :=
 zam (M := zkT) Tryz.func60 (c := zqn) (by kernel_rfl) (fun hs => Eq.mpr (by kernel_rfl) (h hs))
def zkY : Nat → List Bool
 | 6 => rl false [0,2,3,1,35]
 | _ => []
noncomputable def zqo : Code := Tryz.f61.body.getD .skip
noncomputable def zLc : List ResultVar := Tryz.f61.results.toList
def zkZ (t0 t1 t5 : AV) : List AV := t0 :: t1 :: ux 3 (t5 :: ux 35 [])
def zLa : List Bool := zkY 6
noncomputable def zK8 : Code := zar [1, 1, 0, 1, 0, 0] zqo
def zK7 (K : Kt) : AExit → List AV → zaa → Prop := zat tP zkY [1, 1, 0, 1, 0] zqo (zay tP zLc K)
def zx1 (t0 t1 t5 : AV) (H : zaa) (K : Kt) : Prop := ALoop tP zK8 (zK7 K) (zkZ t0 t1 t5) H
def zgZ (t0 t1 t5 : AV) (H : zaa) (K : Kt) (Kb6 : Lt) : Prop :=
 zac .geq false t5 (.int .i64 0) fun t20 =>
 zag t20
 (zae H (fun K' => K' t0 H) fun t23 =>
 zae H (fun K' => K' t5 H) fun t24 =>
 zae H (fun K' => zaj 1 t23 t24 (K' · H)) fun t25 =>
 zae H (fun K' => zal false 1 t25 H (K' · H)) fun t26 =>
 zae H (fun K' => K' t1 H) fun t27 =>
 zae H (fun K' => K' t5 H) fun t28 =>
 zae H (fun K' => zaj 1 t27 t28 (K' · H)) fun t29 =>
 zae H (fun K' => zal false 1 t29 H (K' · H)) fun t30 =>
 zae H (fun K' => zac .lss false t26 t30 (K' · H)) fun t31 =>
 zag t31
 (K (.int .i64 (-1)) H)
 (zae H (fun K' => K' t0 H) fun t32 =>
 zae H (fun K' => K' t5 H) fun t33 =>
 zae H (fun K' => zaj 1 t32 t33 (K' · H)) fun t34 =>
 zae H (fun K' => zal false 1 t34 H (K' · H)) fun t35 =>
 zae H (fun K' => K' t1 H) fun t36 =>
 zae H (fun K' => K' t5 H) fun t37 =>
 zae H (fun K' => zaj 1 t36 t37 (K' · H)) fun t38 =>
 zae H (fun K' => zal false 1 t38 H (K' · H)) fun t39 =>
 zae H (fun K' => zac .gtr false t35 t39 (K' · H)) fun t40 =>
 zag t40
 (K (.int .i64 1) H)
 (zac .sub false t5 (.int .i64 1) fun t22 =>
 Kb6 (zkZ t0 t1 t22) H)))
 (K (.int .i64 0) H)
def zkX (t0 t1 : AV) (H : zaa) (K : Kt) : Prop :=
 zah 1 t0 fun t7 =>
 zah 1 t1 fun t9 =>
 zac .neq false t7 t9 fun t10 =>
 zag t10
 (zah 1 t0 fun t12 =>
 zah 1 t1 fun t14 =>
 zac .lss false t12 t14 fun t15 =>
 zag t15
 (K (.int .i64 (-1)) H)
 (K (.int .i64 1) H))
 (zah 1 t0 fun t17 =>
 zac .sub false t17 (.int .i64 1) fun t18 =>
 zx1 t0 t1 t18 H K)
theorem zK9 {t0 t1 t5 : AV} {H : zaa} {K : Kt} (Inv : Nat → AV → zaa → Prop) (n : Nat) (h0 : HSc H → Inv n t5 H)
  (round : Rd1 (fun t5 => zkZ t0 t1 t5) (fun t5 => fun H Kb6 => zgZ t0 t1 t5 H K Kb6) H Inv) : zx1 t0 t1 t5 H K :=
 lp1 (M := zkY) zLa t5 (by kernel_rfl) Inv n h0 round
theorem zLb {t0 t1 : AV} {H : zaa} {K : Kt} (h : HSc H → zkX t0 t1 H K) : ACalls tP zh0 [t0, t1] H K :=
 zam (M := zkY) Tryz.func61 (c := zqo) (by kernel_rfl) (fun hs => Eq.mpr (by kernel_rfl) (h hs))
def zk0 : Nat → List Bool
 | 4 => rl false [0,2,3,3,48]
 | _ => []
noncomputable def zqp : Code := Tryz.f62.body.getD .skip
noncomputable def zLi : List ResultVar := Tryz.f62.results.toList
def zg0 (t0 t1 t5 t6 t7 : AV) : List AV := t0 :: t1 :: ux 3 (t5 :: t6 :: t7 :: ux 48 [])
def zLg : List Bool := zk0 4
noncomputable def zLe : Code := zar [1, 1, 1, 0, 1, 0, 0] zqp
def zLd (K : Kt) : AExit → List AV → zaa → Prop := zat tP zk0 [1, 1, 1, 0, 1, 0] zqp (zay tP zLi K)
def zx4 (t0 t1 t5 t6 t7 : AV) (H : zaa) (K : Kt) : Prop := ALoop tP zLe (zLd K) (zg0 t0 t1 t5 t6 t7) H
def zqq (t0 t1 t5 t6 t7 : AV) (H : zaa) (K : Kt) (Kb4 : Lt) : Prop :=
 zac .add false t7 (.int .i64 1) fun t17 =>
 Kb4 (zg0 t0 t1 t5 t6 t17) H
def zk2 (t0 t1 t5 t6 t7 : AV) (H : zaa) (K : Kt) (Kb4 : Lt) : Prop :=
 zqq t0 t1 t5 t6 t7 H K Kb4
def zg1 (t0 t1 t5 t7 t8 : AV) (H : zaa) (K : Kt) (Kb4 : Lt) : Prop :=
 zaj 1 t0 t7 fun t31 =>
 zad false 1 t31 H fun t32 =>
 zac .geq false t32 t8 fun t34 =>
 zag t34
 (zaj 1 t0 t7 fun t39 =>
 zad false 1 t39 H fun t40 =>
 zac .sub false t40 t8 fun t42 =>
 zaj 1 t5 t7 fun t43 =>
 zak 1 t43 t42 H fun H =>
 zk2 t0 t1 t5 (.int .u32 0) t7 H K Kb4)
 (zaj 1 t0 t7 fun t48 =>
 zad false 1 t48 H fun t49 =>
 zac .add false t49 (.int .u32 1000000000) fun t50 =>
 zac .sub false t50 t8 fun t52 =>
 zaj 1 t5 t7 fun t53 =>
 zak 1 t53 t52 H fun H =>
 zk2 t0 t1 t5 (.int .u32 1) t7 H K Kb4)
def zk1 (t0 t1 t5 t6 t7 : AV) (H : zaa) (K : Kt) (Kb4 : Lt) : Prop :=
 zah 1 t0 fun t14 =>
 zac .lss false t7 t14 fun t15 =>
 zag t15
 (zah 1 t1 fun t21 =>
 zac .lss false t7 t21 fun t22 =>
 zag t22
 (zaj 1 t1 t7 fun t26 =>
 zad false 1 t26 H fun t27 =>
 zac .add false t6 t27 fun t28 =>
 zg1 t0 t1 t5 t7 t28 H K Kb4)
 (zg1 t0 t1 t5 t7 t6 H K Kb4))
 (ACalls tP zd4 [t5] H fun t55 H =>
 K t55 H)
def zx3 (t0 t1 : AV) (H : zaa) (K : Kt) : Prop :=
 zah 1 t0 fun t10 =>
 zbe 4 [(.int .u32 0)] t10 t10 H fun t11 H =>
 zx4 t0 t1 t11 (.int .u32 0) (.int .i64 0) H K
theorem zLf {t0 t1 t5 t6 t7 : AV} {H : zaa} {K : Kt} (Inv : Nat → AV → AV → zaa → Prop) (n : Nat) (h0 : HSc H → Inv n t6 t7 H)
  (round : Rd2 (fun t6 => fun t7 => zg0 t0 t1 t5 t6 t7) (fun t6 => fun t7 => fun H Kb4 => zk1 t0 t1 t5 t6 t7 H K Kb4) H Inv) : zx4 t0 t1 t5 t6 t7 H K :=
 lp2 (M := zk0) zLg t6 t7 (by kernel_rfl) Inv n h0 round
theorem zLh {t0 t1 : AV} {H : zaa} {K : Kt} (h : HSc H → zx3 t0 t1 H K) : ACalls tP zgp [t0, t1] H K :=
 zam (M := zk0) Tryz.func62 (c := zqp) (by kernel_rfl) (fun hs => Eq.mpr (by kernel_rfl) (h hs))
def zLq (_ : Nat) : List Bool := []
noncomputable def zLr : Code := Tryz.f66.body.getD .skip
def zx8 (t0 : AV) (H : zaa) (K : Kt) : Prop :=
 zap t0 H fun t1 H =>
 zad true 3 t1 H fun t3 =>
 ACalls tP zdy [t3] H fun t4 H =>
 zak 3 t1 t4 H fun H =>
 zaf 1 t1 fun t6 =>
 zad false 1 t6 H fun t7 =>
 zah 1 t7 fun t8 =>
 zac .eql false t8 (.int .i64 0) fun t9 =>
 zag t9
 (K (.int .i64 0) H)
 (zaf 0 t1 fun t11 =>
 zad false 1 t11 H fun t12 =>
 zag t12
 (K (.int .i64 (-1)) H)
 (K (.int .i64 1) H))
theorem zLs {t0 : AV} {H : zaa} {K : Kt} (h : HSc H → zx8 t0 H K) : ACalls tP zm6 [t0] H K :=
 zam (M := zLq) Tryz.func66 (c := zLr) (by kernel_rfl) (fun hs => Eq.mpr (by kernel_rfl) (h hs))
def zLu (_ : Nat) : List Bool := []
noncomputable def zLv : Code := Tryz.f67.body.getD .skip
def zx9 (t0 t1 : AV) (H : zaa) (K : Kt) : Prop :=
 zap t0 H fun t2 H =>
 zap t1 H fun t3 H =>
 zaw [(.bool false), .snil, .snil] H fun t4 H =>
 zae H (fun K' => zal true 3 t2 H (K' · H)) fun t5 =>
 zae H (fun K' => zal true 3 t3 H (K' · H)) fun t6 =>
 zaE H (fun H K' => ACalls tP zmt [t6] H K') fun t7 =>
 zaE H (fun H K' => ACalls tP zgh [t5, t7] H K') fun t8 =>
 zak 3 t4 t8 H fun H =>
 zad true 3 t4 H fun r0 =>
 K r0 H
theorem zLw {t0 t1 : AV} {H : zaa} {K : Kt} (h : HSc H → zx9 t0 t1 H K) : ACalls tP zm7 [t0, t1] H K :=
 zam (M := zLu) Tryz.func67 (c := zLv) (by kernel_rfl) (fun hs => Eq.mpr (by kernel_rfl) (h hs))
def ziI : Nat → List Bool
 | 4 => rl false [0,1,2,3,30]
 | _ => []
noncomputable def znZ : Code := Tryz.f103.body.getD .skip
noncomputable def zCH : List ResultVar := Tryz.f103.results.toList
def ziK (t0 t3 t4 t5 : AV) : List AV := t0 :: ux 2 (t3 :: t4 :: t5 :: ux 30 [])
def zCF : List Bool := ziI 4
noncomputable def zCD : Code := zar [1, 1, 1, 0, 1, 0, 0] znZ
def zCC (K : Kt) : AExit → List AV → zaa → Prop := zat tP ziI [1, 1, 1, 0, 1, 0] znZ (zay tP zCH K)
def ziM (t0 t3 t4 t5 : AV) (H : zaa) (K : Kt) : Prop := ALoop tP zCD (zCC K) (ziK t0 t3 t4 t5) H
def ziL (t3 : AV) (H : zaa) (K : Kt) : Prop :=
 ACalls tP zd4 [t3] H fun t35 H =>
 K t35 H
def ziJ (t0 t3 t4 t5 : AV) (H : zaa) (K : Kt) (Kb4 : Lt) : Prop :=
 zah 1 t0 fun t8 =>
 zac .lss false t5 t8 fun t9 =>
 zag t9
 (zaj 1 t0 t5 fun t15 =>
 zad false 1 t15 H fun t16 =>
 zbt .u64 t16 fun t17 =>
 zac .add false t4 t17 fun t18 =>
 zac .rem false t18 (.int .u64 1000000000) fun t21 =>
 zbt .u32 t21 fun t22 =>
 zaz 1 [(.int .u32 0)] 1 [(0, t22)] fun t23 =>
 zax zce 1 4 t3 t23 H fun t24 H =>
 zac .quo false t18 (.int .u64 1000000000) fun t26 =>
 zac .add false t5 (.int .i64 1) fun t11 =>
 Kb4 (ziK t0 t24 t26 t11) H)
 (zac .gtr false t4 (.int .u64 0) fun t28 =>
 zag t28
 (zbt .u32 t4 fun t31 =>
 zaz 1 [(.int .u32 0)] 1 [(0, t31)] fun t32 =>
 zax zce 1 4 t3 t32 H fun t33 H =>
 ziL t33 H K)
 (ziL t3 H K))
def zuR (t0 : AV) (H : zaa) (K : Kt) : Prop :=
 ziM t0 .snil (.int .u64 0) (.int .i64 0) H K
theorem zCE {t0 t3 t4 t5 : AV} {H : zaa} {K : Kt} (Inv : Nat → AV → AV → AV → zaa → Prop) (n : Nat) (h0 : HSc H → Inv n t3 t4 t5 H)
  (round : Rd3 (fun t3 => fun t4 => fun t5 => ziK t0 t3 t4 t5) (fun t3 => fun t4 => fun t5 => fun H Kb4 => ziJ t0 t3 t4 t5 H K Kb4) H Inv) : ziM t0 t3 t4 t5 H K :=
 lp3 (M := ziI) zCF t3 t4 t5 (by kernel_rfl) Inv n h0 round
theorem zCG {t0 : AV} {H : zaa} {K : Kt} (h : HSc H → zuR t0 H K) : ACalls tP zhA [t0] H K :=
 zam (M := ziI) Tryz.func103 (c := znZ) (by kernel_rfl) (fun hs => Eq.mpr (by kernel_rfl) (h hs))
def ziN : Nat → List Bool
 | 1 => rl false [0,2,17]
 | _ => []
noncomputable def zn1 : Code := Tryz.f104.body.getD .skip
noncomputable def zCN : List ResultVar := Tryz.f104.results.toList
def ziO (t0 t1 : AV) : List AV := t0 :: t1 :: ux 17 []
def zCL : List Bool := ziN 1
noncomputable def zCJ : Code := zar [1, 0, 0, 0] zn1
def zCI (K : Kt) : AExit → List AV → zaa → Prop := zat tP ziN [1, 0, 0] zn1 (zay tP zCN K)
def zuU (t0 t1 : AV) (H : zaa) (K : Kt) : Prop := ALoop tP zCJ (zCI K) (ziO t0 t1) H
def zn0 (t0 t1 : AV) (H : zaa) (K : Kt) (Kb1 : Lt) : Prop :=
 zah 1 t1 fun t8 =>
 zac .gtr false t8 (.int .i64 0) fun t9 =>
 zag t9
 (ACalls tP zgc [t0, t1] H fun t13 H =>
 zav t13 0 fun t14 =>
 zav t13 1 fun t15 =>
 Kb1 (ziO t1 t15) H)
 (K t0 H)
def zuT (t0 t1 : AV) (H : zaa) (K : Kt) : Prop :=
 zuU t0 t1 H K
theorem zCK {t0 t1 : AV} {H : zaa} {K : Kt} (Inv : Nat → AV → AV → zaa → Prop) (n : Nat) (h0 : HSc H → Inv n t0 t1 H)
  (round : Rd2 (fun t0 => fun t1 => ziO t0 t1) (fun t0 => fun t1 => fun H Kb1 => zn0 t0 t1 H K Kb1) H Inv) : zuU t0 t1 H K :=
 lp2 (M := ziN) zCL t0 t1 (by kernel_rfl) Inv n h0 round
theorem zCM {t0 t1 : AV} {H : zaa} {K : Kt} (h : HSc H → zuT t0 t1 H K) : ACalls tP zmr [t0, t1] H K :=
 zam (M := ziN) Tryz.func104 (c := zn1) (by kernel_rfl) (fun hs => Eq.mpr (by kernel_rfl) (h hs))
def ziP : Nat → List Bool
 | 2 => rl false [0,1,2,1,18]
 | _ => []
noncomputable def zn4 : Code := Tryz.f106.body.getD .skip
noncomputable def zC0 : List ResultVar := Tryz.f106.results.toList
def ziR (t0 t3 : AV) : List AV := t0 :: ux 2 (t3 :: ux 18 [])
def zCY : List Bool := ziP 2
noncomputable def zCW : Code := zar [1, 1, 0, 0, 0] zn4
def zCV (K : Kt) : AExit → List AV → zaa → Prop := zat tP ziP [1, 1, 0, 0] zn4 (zay tP zC0 K)
def zuY (t0 t3 : AV) (H : zaa) (K : Kt) : Prop := ALoop tP zCW (zCV K) (ziR t0 t3) H
def ziQ (t0 t3 : AV) (H : zaa) (K : Kt) (Kb2 : Lt) : Prop :=
 zac .gtr false t3 (.int .i64 0) fun t7 =>
 zab t7 true H (fun K' => K' t0 H) fun t9 H =>
 zab t7 true H (fun K' => K' t3 H) fun t10 H =>
 zab t7 true H (fun K' => zac .sub false t10 (.int .i64 1) (K' · H)) fun t11 H =>
 zab t7 true H (fun K' => zaj 1 t9 t11 (K' · H)) fun t12 H =>
 zab t7 true H (fun K' => zad false 1 t12 H (K' · H)) fun t13 H =>
 zab t7 true H (fun K' => zac .eql false t13 (.int .u32 0) (K' · H)) fun t14 H =>
 zai t7 t14 (.bool false) fun t15 =>
 zag t15
 (zac .sub false t3 (.int .i64 1) fun t17 =>
 Kb2 (ziR t0 t17) H)
 (zaK 1 1 t0 none (some t3) fun t20 =>
 zax zce 1 4 .snil t20 H fun t21 H =>
 K t21 H)
def zuX (t0 : AV) (H : zaa) (K : Kt) : Prop :=
 zah 1 t0 fun t5 =>
 zuY t0 t5 H K
theorem zCX {t0 t3 : AV} {H : zaa} {K : Kt} (Inv : Nat → AV → zaa → Prop) (n : Nat) (h0 : HSc H → Inv n t3 H)
  (round : Rd1 (fun t3 => ziR t0 t3) (fun t3 => fun H Kb2 => ziQ t0 t3 H K Kb2) H Inv) : zuY t0 t3 H K :=
 lp1 (M := ziP) zCY t3 (by kernel_rfl) Inv n h0 round
theorem zCZ {t0 : AV} {H : zaa} {K : Kt} (h : HSc H → zuX t0 H K) : ACalls tP zd4 [t0] H K :=
 zam (M := ziP) Tryz.func106 (c := zn4) (by kernel_rfl) (fun hs => Eq.mpr (by kernel_rfl) (h hs))
def zjf : Nat → List Bool
 | 4 => rl false [0,2,4,3,31]
 | _ => []
noncomputable def zos : Code := Tryz.f145.body.getD .skip
noncomputable def zEw : List ResultVar := Tryz.f145.results.toList
def zjg (t0 t1 t6 t7 t8 : AV) : List AV := t0 :: t1 :: ux 4 (t6 :: t7 :: t8 :: ux 31 [])
def zEu : List Bool := zjf 4
noncomputable def zEs : Code := zar [1, 1, 1, 0, 1, 0, 0] zos
def zEr (K : Kt) : AExit → List AV → zaa → Prop := zat tP zjf [1, 1, 1, 0, 1, 0] zos (zay tP zEw K)
def zvo (t0 t1 t6 t7 t8 : AV) (H : zaa) (K : Kt) : Prop := ALoop tP zEs (zEr K) (zjg t0 t1 t6 t7 t8) H
def zor (t0 t1 t6 t7 t8 : AV) (H : zaa) (K : Kt) (Kb4 : Lt) : Prop :=
 zac .geq false t8 (.int .i64 0) fun t16 =>
 zag t16
 (zac .mul false t7 (.int .u64 1000000000) fun t20 =>
 zaj 1 t0 t8 fun t23 =>
 zad false 1 t23 H fun t24 =>
 zbt .u64 t24 fun t25 =>
 zac .add false t20 t25 fun t26 =>
 zac .quo false t26 t1 fun t31 =>
 zbt .u32 t31 fun t32 =>
 zaj 1 t6 t8 fun t33 =>
 zak 1 t33 t32 H fun H =>
 zac .rem false t26 t1 fun t36 =>
 zac .sub false t8 (.int .i64 1) fun t18 =>
 Kb4 (zjg t0 t1 t6 t36 t18) H)
 (ACalls tP zd4 [t6] H fun t38 H =>
 zaA [t38, t7] (K · H))
def zvn (t0 t1 : AV) (H : zaa) (K : Kt) : Prop :=
 zah 1 t0 fun t10 =>
 zbe 4 [(.int .u32 0)] t10 t10 H fun t11 H =>
 zah 1 t0 fun t13 =>
 zac .sub false t13 (.int .i64 1) fun t14 =>
 zvo t0 t1 t11 (.int .u64 0) t14 H K
theorem zEt {t0 t1 t6 t7 t8 : AV} {H : zaa} {K : Kt} (Inv : Nat → AV → AV → zaa → Prop) (n : Nat) (h0 : HSc H → Inv n t7 t8 H)
  (round : Rd2 (fun t7 => fun t8 => zjg t0 t1 t6 t7 t8) (fun t7 => fun t8 => fun H Kb4 => zor t0 t1 t6 t7 t8 H K Kb4) H Inv) : zvo t0 t1 t6 t7 t8 H K :=
 lp2 (M := zjf) zEu t7 t8 (by kernel_rfl) Inv n h0 round
theorem zEv {t0 t1 : AV} {H : zaa} {K : Kt} (h : HSc H → zvn t0 t1 H K) : ACalls tP zmz [t0, t1] H K :=
 zam (M := zjf) Tryz.func145 (c := zos) (by kernel_rfl) (fun hs => Eq.mpr (by kernel_rfl) (h hs))
def zC5 (_ : Nat) : List Bool := []
noncomputable def zC6 : Code := Tryz.f112.body.getD .skip
def zu0 (t0 : AV) (H : zaa) (K : Kt) : Prop :=
 zap t0 H fun t1 H =>
 zaw [(.bool false), .snil, .snil] H fun t2 H =>
 zaf 0 t1 fun t3 =>
 zad false 1 t3 H fun t4 =>
 aUn .not t4 fun t5 =>
 zaf 1 t1 fun t6 =>
 zad false 1 t6 H fun t7 =>
 zaf 2 t1 fun t8 =>
 zad false 1 t8 H fun t9 =>
 ACalls tP zcG [t5, t7, t9] H fun t10 H =>
 zak 3 t2 t10 H fun H =>
 zad true 3 t2 H fun r0 =>
 K r0 H
theorem zC7 {t0 : AV} {H : zaa} {K : Kt} (h : HSc H → zu0 t0 H K) : ACalls tP zmt [t0] H K :=
 zam (M := zC5) Tryz.func112 (c := zC6) (by kernel_rfl) (fun hs => Eq.mpr (by kernel_rfl) (h hs))
def zEy (_ : Nat) : List Bool := []
noncomputable def zEz : Code := Tryz.f150.body.getD .skip
def zvp (t0 t1 : AV) (H : zaa) (K : Kt) : Prop :=
 zap t0 H fun t2 H =>
 zap t1 H fun t3 H =>
 zaw [(.bool false), .snil, .snil] H fun t4 H =>
 zae H (fun K' => zal true 3 t2 H (K' · H)) fun t6 =>
 zaE H (fun H K' => ACalls tP zdy [t6] H K') fun t7 =>
 zae H (fun K' => zal true 3 t3 H (K' · H)) fun t8 =>
 zaE H (fun H K' => ACalls tP zdy [t8] H K') fun t9 =>
 zak 3 t2 t7 H fun H =>
 zak 3 t3 t9 H fun H =>
 zaf 1 t3 fun t10 =>
 zad false 1 t10 H fun t11 =>
 zah 1 t11 fun t12 =>
 zac .eql false t12 (.int .i64 0) fun t13 =>
 zag t13
 (ACalls tP zcu [(.int .i64 0)] H fun t14 H =>
 zak 3 t4 t14 H fun H =>
 zad true 3 t4 H fun r0 =>
 zaA [r0, (.bool false)] (K · H))
 (zae H (fun K' => zaf 0 t2 (K' · H)) fun t15 =>
 zae H (fun K' => zal false 1 t15 H (K' · H)) fun t16 =>
 zae H (fun K' => zaf 0 t3 (K' · H)) fun t17 =>
 zae H (fun K' => zal false 1 t17 H (K' · H)) fun t18 =>
 zae H (fun K' => zac .neq true t16 t18 (K' · H)) fun t19 =>
 zae H (fun K' => zaf 1 t2 (K' · H)) fun t20 =>
 zae H (fun K' => zal false 1 t20 H (K' · H)) fun t21 =>
 zae H (fun K' => zaf 2 t3 (K' · H)) fun t22 =>
 zae H (fun K' => zal false 1 t22 H (K' · H)) fun t23 =>
 zaE H (fun H K' => ACalls tP zcH [t21, t23] H K') fun t24 =>
 zae H (fun K' => zaf 2 t2 (K' · H)) fun t25 =>
 zae H (fun K' => zal false 1 t25 H (K' · H)) fun t26 =>
 zae H (fun K' => zaf 1 t3 (K' · H)) fun t27 =>
 zae H (fun K' => zal false 1 t27 H (K' · H)) fun t28 =>
 zaE H (fun H K' => ACalls tP zcH [t26, t28] H K') fun t29 =>
 zaE H (fun H K' => ACalls tP zcG [t19, t24, t29] H K') fun t30 =>
 zak 3 t4 t30 H fun H =>
 zae H (fun K' => K' (.bool true) H) fun t5 =>
 zad true 3 t4 H fun r0 =>
 zaA [r0, t5] (K · H))
theorem zEA {t0 t1 : AV} {H : zaa} {K : Kt} (h : HSc H → zvp t0 t1 H K) : ACalls tP zmA [t0, t1] H K :=
 zam (M := zEy) Tryz.func150 (c := zEz) (by kernel_rfl) (fun hs => Eq.mpr (by kernel_rfl) (h hs))
def zKF (_ : Nat) : List Bool := []
noncomputable def zKG : Code := Tryz.f56.body.getD .skip
def zkL (t0 t1 t2 t6 : AV) (H : zaa) (K : Kt) : Prop :=
 zaC [(.bool false), .snil, .snil] [(0, 1), (1, 1), (2, 1)] [(0, t0), (1, t1), (2, t2)] fun t49 =>
 zak 3 t6 t49 H fun H =>
 zad true 3 t6 H fun r0 =>
 K r0 H
def zxR (t0 t1 t2 : AV) (H : zaa) (K : Kt) : Prop :=
 zaw [(.bool false), .snil, .snil] H fun t6 H =>
 ACalls tP zhA [t1] H fun t9 H =>
 ACalls tP zhA [t2] H fun t11 H =>
 zah 1 t9 fun t13 =>
 zac .eql false t13 (.int .i64 0) fun t14 =>
 zab t14 false H (fun K' => K' t11 H) fun t16 H =>
 zab t14 false H (fun K' => zah 1 t16 (K' · H)) fun t17 H =>
 zab t14 false H (fun K' => zac .eql false t17 (.int .i64 0) (K' · H)) fun t18 H =>
 zai t14 (.bool true) t18 fun t19 =>
 zag t19
 (zaz 1 [(.int .u32 0)] 1 [(0, (.int .u32 1))] fun t20 =>
 zaC [(.bool false), .snil, .snil] [(0, 1), (1, 1), (2, 1)] [(2, t20)] fun t21 =>
 zak 3 t6 t21 H fun H =>
 zad true 3 t6 H fun r0 =>
 K r0 H)
 (ACalls tP zmr [t9, t11] H fun t24 H =>
 zah 1 t24 fun t26 =>
 zac .neq false t26 (.int .i64 1) fun t27 =>
 zab t27 false H (fun K' => K' t24 H) fun t29 H =>
 zab t27 false H (fun K' => zaj 1 t29 (.int .i64 0) (K' · H)) fun t30 H =>
 zab t27 false H (fun K' => zad false 1 t30 H (K' · H)) fun t31 H =>
 zab t27 false H (fun K' => zac .neq false t31 (.int .u32 1) (K' · H)) fun t32 H =>
 zai t27 (.bool true) t32 fun t33 =>
 zag t33
 (ACalls tP zgc [t9, t24] H fun t37 H =>
 zav t37 0 fun t38 =>
 zav t37 1 fun t39 =>
 ACalls tP zgc [t11, t24] H fun t43 H =>
 zav t43 0 fun t44 =>
 zav t43 1 fun t45 =>
 zkL t0 t38 t44 t6 H K)
 (zkL t0 t9 t11 t6 H K))
theorem zKH {t0 t1 t2 : AV} {H : zaa} {K : Kt} (h : HSc H → zxR t0 t1 t2 H K) : ACalls tP zcG [t0, t1, t2] H K :=
 zam (M := zKF) Tryz.func56 (c := zKG) (by kernel_rfl) (fun hs => Eq.mpr (by kernel_rfl) (h hs))
def zuW : Nat → List Bool
 | 9 => rl false [0,2,6,3,79]
 | 13 => rl false [0,2,6,4,78]
 | 16 => rl false [0,2,6,4,78]
 | _ => []
noncomputable def zn2 : Code := Tryz.f105.body.getD .skip
noncomputable def zCU : List ResultVar := Tryz.f105.results.toList
def zCR (t0 t1 t8 t9 t10 : AV) : List AV := t0 :: t1 :: ux 6 (t8 :: t9 :: t10 :: ux 79 [])
noncomputable def zCQ : Code := zar [1, 1, 1, 1, 1, 0, 1, 0, 0] zn2
def zCP (K : Kt) : AExit → List AV → zaa → Prop := zat tP zuW [1, 1, 1, 1, 1, 0, 1, 0] zn2 (zay tP zCU K)
def zCS (t0 t1 t8 t9 t10 : AV) (H : zaa) (K : Kt) : Prop := ALoop tP zCQ (zCP K) (zCR t0 t1 t8 t9 t10) H
def zuV (t0 t1 : AV) (H : zaa) (K : Kt) : Prop :=
 ACalls tP zh0 [t0, t1] H fun t14 H =>
 zac .lss false t14 (.int .i64 0) fun t15 =>
 zag t15
 (ACalls tP zd4 [t0] H fun t17 H =>
 zaA [.snil, t17] (K · H))
 (zah 1 t1 fun t19 =>
 zac .eql false t19 (.int .i64 1) fun t20 =>
 zag t20
 (zaj 1 t1 (.int .i64 0) fun t24 =>
 zad false 1 t24 H fun t25 =>
 zbt .u64 t25 fun t26 =>
 ACalls tP zmz [t0, t26] H fun t27 H =>
 zav t27 0 fun t28 =>
 zav t27 1 fun t29 =>
 ACalls tP zgo [t29] H fun t32 H =>
 zaA [t28, t32] (K · H))
 (zah 1 t0 fun t34 =>
 zbe 4 [(.int .u32 0)] t34 t34 H fun t35 H =>
 zah 1 t0 fun t37 =>
 zac .sub false t37 (.int .i64 1) fun t38 =>
 zCS t0 t1 t35 .snil t38 H K))
theorem zCT {t0 t1 : AV} {H : zaa} {K : Kt} (h : HSc H → zuV t0 t1 H K) : ACalls tP zgc [t0, t1] H K :=
 zam (M := zuW) Tryz.func105 (c := zn2) (by kernel_rfl) (fun hs => Eq.mpr (by kernel_rfl) (h hs))
end Go.Proofs.YtjkkonpjecoieaaGreat
namespace Go.Abs
def zao : List Nat → Nat
 | [] => 0
 | x :: l => x + 1000000000 * zao l
def lim (n : Nat) : List Nat := if _h : n = 0 then [] else n % 1000000000 :: lim (n / 1000000000)
termination_by n
decreasing_by exact Nat.div_lt_self (by omega) (by decide)
@[simp] theorem zAe : lim 0 = [] := by rw [lim]; rfl
theorem zcW {n : Nat} (h : n ≠ 0) : lim n = n % 1000000000 :: lim (n / 1000000000) := by rw [lim, dif_neg h]
theorem zbX (n : Nat) : zao (lim n) = n := by
 induction n using Nat.strongRecOn with
 | _ n ih =>
  by_cases h : n = 0
  ·subst h; simp [zao]
  ·rw [zcW h, zao, ih _ (Nat.div_lt_self (by omega) (by decide))]
   exact Nat.mod_add_div n 1000000000
theorem zct (n : Nat) : ∀ x ∈ lim n, x < 1000000000 := by
 induction n using Nat.strongRecOn with
 | _ n ih =>
  by_cases h : n = 0
  ·subst h; simp
  ·rw [zcW h]
   intro x hx
   rcases List.mem_cons.1 hx with rfl | hx
   ·exact Nat.mod_lt _ (by decide)
   ·exact ih _ (Nat.div_lt_self (by omega) (by decide)) x hx
theorem lim_nil {n : Nat} : lim n = [] ↔ n = 0 := by
 by_cases h : n = 0
 ·simp [h]
 ·rw [zcW h]; simp [h]
def zbG : List Nat → List Nat
 | [] => []
 | x :: l => if x = 0 ∧ zbG l = [] then [] else x :: zbG l
theorem zhw : ∀ (a b : List Nat), zao (a ++ b) = zao a + 1000000000 ^ a.length * zao b
 | [], b => by simp [zao]
 | x :: a, b => by
  simp only [List.cons_append, zao, zhw a b, List.length_cons, Nat.pow_succ]
  grind
theorem zgG : ∀ (l : List Nat), (∀ x ∈ l, x < 1000000000) → zbG l = lim (zao l)
 | [], _ => by simp [zbG, zao]
 | x :: l, h => by
  have hx := h x (by simp)
  have ih := zgG l (fun y hy => h y (by simp [hy]))
  rw [zbG, zao, ih]
  have e1 : (x + 1000000000 * zao l) % 1000000000 = x := by rw [Nat.add_mul_mod_self_left, Nat.mod_eq_of_lt hx]
  have e2 : (x + 1000000000 * zao l) / 1000000000 = zao l := by rw [Nat.add_mul_div_left _ _ (by decide), Nat.div_eq_of_lt hx]; omega
  by_cases h0 : x = 0 ∧ lim (zao l) = []
  ·rw [if_pos h0]
   have := lim_nil.1 h0.2
   rw [this, h0.1]; simp
  ·rw [if_neg h0]
   have : x + 1000000000 * zao l ≠ 0 := by
    intro h1
    refine h0 ⟨by omega, lim_nil.2 ?_⟩
    have : 1000000000 * zao l = 0 := by omega
    rcases Nat.mul_eq_zero.1 this with h2 | h2
    ·cases h2
    ·exact h2
   rw [zcW this, e1, e2]
theorem zd0 : ∀ (l : List Nat), (∀ x ∈ l, x < 1000000000) → zao l < 1000000000 ^ l.length
 | [], _ => by simp [zao]
 | x :: l, h => by
  have hx := h x (by simp)
  have ih := zd0 l (fun y hy => h y (by simp [hy]))
  simp only [zao, List.length_cons, Nat.pow_succ]
  have : 1000000000 * (zao l + 1) ≤ 1000000000 * 1000000000 ^ l.length := Nat.mul_le_mul_left _ ih
  rw [Nat.mul_comm (1000000000 ^ l.length)]
  rw [Nat.mul_succ] at this
  omega
theorem zev {n k : Nat} (h : n < 1000000000 ^ k) : (lim n).length ≤ k := by
 induction k generalizing n with
 | zero => have : n = 0 := by simp at h; omega
           subst this; simp
 | succ k ih =>
  by_cases h0 : n = 0
  ·subst h0; simp
  ·rw [zcW h0, List.length_cons]
   have := ih (n := n / 1000000000) (Nat.div_lt_of_lt_mul (by rw [Nat.pow_succ, Nat.mul_comm] at h; exact h))
   omega
theorem zml {n : Nat} (h : n ≠ 0) : 1000000000 ^ ((lim n).length - 1) ≤ n := by
 induction n using Nat.strongRecOn with
 | _ n ih =>
  rw [zcW h, List.length_cons, Nat.add_sub_cancel]
  by_cases h1 : n / 1000000000 = 0
  ·rw [h1]; simp; omega
  ·have := ih (n / 1000000000) (Nat.div_lt_self (by omega) (by decide)) h1
   have hl : 0 < (lim (n / 1000000000)).length := by rw [zcW h1]; simp
   have e : (lim (n / 1000000000)).length = (lim (n / 1000000000)).length - 1 + 1 := by omega
   rw [e, Nat.pow_succ]
   calc _ ≤ (n / 1000000000) * 1000000000 := Nat.mul_le_mul_right _ this
    _ ≤ n := Nat.div_mul_le_self _ _
theorem zew {n : Nat} (h0 : n ≠ 0) (h : n < 1000000000) : lim n = [n] := by
 rw [zcW h0, Nat.mod_eq_of_lt h, Nat.div_eq_of_lt h]; simp
theorem zsI : ∀ (l : List Nat) (j : Nat) (x : Nat) (h : j < l.length), zao (l.set j x) + l[j] * 1000000000 ^ j = zao l + x * 1000000000 ^ j
 | [], j, x, h => by simp at h
 | y :: l, 0, x, h => by simp [zao]; omega
 | y :: l, j + 1, x, h => by
  have := zsI l j x (by simpa using h)
  simp only [List.set_cons_succ, zao, List.getElem_cons_succ, Nat.pow_succ]
  grind
theorem zd1 (l : List Nat) (i : Nat) (h : i < l.length) : zao (l.take (i + 1)) = zao (l.take i) + l[i] * 1000000000 ^ i := by
 rw [List.take_succ_eq_append_getElem h, zhw]
 simp [zao, Nat.min_eq_left (Nat.le_of_lt h)]
 exact Nat.mul_comm _ _
theorem zAf (n : Nat) : zao (List.replicate n 0) = 0 := by
 induction n with
 | zero => rfl
 | succ n ih => rw [List.replicate_succ, zao, ih]
theorem zsG (l : List Nat) (i : Nat) (h : i < l.length) : zao (l.drop i) = l[i] + 1000000000 * zao (l.drop (i + 1)) := by
 rw [List.drop_eq_getElem_cons h, zao]
theorem zmn {a b : Nat} (h : (lim a).length < (lim b).length) : a < b := by
 by_cases hb : b = 0
 ·subst hb; simp at h
 ·have h1 := zml hb
  have h2 := zd0 (lim a) (zct a)
  rw [zbX] at h2
  exact Nat.lt_of_lt_of_le h2 (Nat.le_trans (Nat.pow_le_pow_right (by decide) (by omega)) h1)
end Go.Abs
namespace Go.Abs
open Go Go.RowKit

section
variable {H : zaa} {K : AV → zaa → Prop} {k : AV → Prop}
@[simp] theorem zOQ (p q : Prop) : aIf true p q = p := propext Iff.rfl
@[simp] theorem zOP (p q : Prop) : aIf false p q = q := propext Iff.rfl
theorem zrt (b : Bool) (p q : Prop) : zag (.bool b) p q = (if b = true then p else q) := rfl
@[simp] theorem zQg (p q : Prop) : zag (.bool true) p q = p := propext Iff.rfl
@[simp] theorem zQf (p q : Prop) : zag (.bool false) p q = q := propext Iff.rfl
@[simp] theorem zPE (x y : AV) : zai (.bool true) x y k = k x := propext Iff.rfl
@[simp] theorem zPD (x y : AV) : zai (.bool false) x y k = k y := propext Iff.rfl
@[simp] theorem zOG (p q : Prop) : zcR (.bool true) true p q = p := propext Iff.rfl
@[simp] theorem zOD (p q : Prop) : zcR (.bool false) false p q = p := propext Iff.rfl
@[simp] theorem zOF (p q : Prop) : zcR (.bool true) false p q = q := propext Iff.rfl
@[simp] theorem zOE (p q : Prop) : zcR (.bool false) true p q = q := propext Iff.rfl
@[simp] theorem zOH (want : Bool) (p q : Prop) : zcR (.tup []) want p q = q := propext Iff.rfl
@[simp] theorem zOA (p : (AV → zaa → Prop) → Prop) (J : AV → zaa → Prop) : zab (.bool true) true H p J = p J := propext Iff.rfl
@[simp] theorem zOx (p : (AV → zaa → Prop) → Prop) (J : AV → zaa → Prop) : zab (.bool false) false H p J = p J := propext Iff.rfl
@[simp] theorem zOz (p : (AV → zaa → Prop) → Prop) (J : AV → zaa → Prop) : zab (.bool true) false H p J = J (.tup []) H := propext Iff.rfl
@[simp] theorem zOy (p : (AV → zaa → Prop) → Prop) (J : AV → zaa → Prop) : zab (.bool false) true H p J = J (.tup []) H := propext Iff.rfl
@[simp] theorem zOB (want : Bool) (p : (AV → zaa → Prop) → Prop) (J : AV → zaa → Prop) : zab (.tup []) want H p J = J (.tup []) H := propext Iff.rfl
@[simp] theorem zQm (cs : List AV) : (AV.agg cs).cs? = some cs := rfl
@[simp] theorem zQp (j : IntKind) (n : Int) : (AV.int j n).cs? = some [.int j n] := rfl
@[simp] theorem zQn (b : Bool) : (AV.bool b).cs? = some [.bool b] := rfl
@[simp] theorem zQz (s : List UInt8) : (AV.str s).cs? = some [.str s] := rfl
@[simp] theorem zQx (es : List (List AV)) (t : Tok) : (AV.sl es t).cs? = some [.sl es t] := rfl
@[simp] theorem zQy : (AV.snil).cs? = some [.snil] := rfl
@[simp] theorem zQw (i o : Nat) : (AV.ptr i o).cs? = some [.ptr i o] := rfl
@[simp] theorem zQr (i o l c : Nat) : (AV.ms i o l c).cs? = some [.ms i o l c] := rfl
@[simp] theorem zQo (f : Nat) (c : List AV) : (AV.fn f c).cs? = some [.fn f c] := rfl
@[simp] theorem zQu : (AV.nilp).cs? = some [.nilp] := rfl
@[simp] theorem zQt : (AV.nili).cs? = some [.nili] := rfl
@[simp] theorem zQv (i n : Nat) : (AV.ov i n).cs? = some [.ov i n] := rfl
@[simp] theorem zQA (i n o : Nat) : (AV.vp i n o).cs? = some [.vp i n o] := rfl
@[simp] theorem zQs : (AV.nilfn).cs? = some [.nilfn] := rfl
@[simp] theorem zPr (cs : List AV) : zaw cs H K = K (.ptr H.length 0) (H ++ [.cells cs]) := propext Iff.rfl
@[simp] theorem zNT (cs : List AV) : zap (.agg cs) H K = K (.ptr H.length 0) (H ++ [.cells cs]) := propext Iff.rfl
@[simp] theorem zNX (j : IntKind) (n : Int) : zap (.int j n) H K = K (.ptr H.length 0) (H ++ [.cells [.int j n]]) := propext Iff.rfl
@[simp] theorem zN4 (s : List UInt8) : zap (.str s) H K = K (.ptr H.length 0) (H ++ [.cells [.str s]]) := propext Iff.rfl
@[simp] theorem zNU (b : Bool) : zap (.bool b) H K = K (.ptr H.length 0) (H ++ [.cells [.bool b]]) := propext Iff.rfl
@[simp] theorem zN2 (es : List (List AV)) (t : Tok) : zap (.sl es t) H K = K (.ptr H.length 0) (H ++ [.cells [.sl es t]]) := propext Iff.rfl
@[simp] theorem zN8 (n off : Nat) (cs : List AV) : za9 true n off cs k = (off + n ≤ cs.length ∧ k (.agg ((cs.drop off).take n))) := propext Iff.rfl
theorem zyU {cs : List AV} {off : Nat} {c : AV} (n : Nat) (h : cs[off]? = some c) : za9 false n off cs k = k c := by simp [za9, h]
@[simp] theorem zOb (n : Nat) (c : AV) (cs : List AV) : za9 false n 0 (c :: cs) k = k c := propext Iff.rfl
@[simp] theorem zOa (n i : Nat) (c : AV) (cs : List AV) : za9 false n (i + 1) (c :: cs) k = za9 false n i cs k := by simp [za9]
@[simp] theorem zPa (g : Bool) (n : Nat) (cs : List AV) : zad g n (.view cs) H k = za9 g n 0 cs k := propext Iff.rfl
def zhb (g : Bool) (n off : Nat) (b : Option AB) (k : AV → Prop) : Prop :=
 match b with
 | some (.cells cs) => za9 g n off cs k
 | _ => False
@[simp] theorem zO4 (g : Bool) (n off : Nat) (cs : List AV) : zhb g n off (some (.cells cs)) k = za9 g n off cs k := propext Iff.rfl
@[simp] theorem zO9 (g : Bool) (n id off : Nat) : zad g n (.ptr id off) H k = zhb g n off H[id]? k := by
 rw [zfG]; rfl
def zem (n off id : Nat) (xs : Option (List AV)) (b : Option AB) (H : zaa) (K : zaa → Prop) : Prop :=
 match xs, b with
 | some xs, some (.cells cs) => (xs.length = n ∧ off + n ≤ cs.length ∧ xs.all AV.known = true) ∧ K (H.set id (.cells (cs.take off ++ xs ++ cs.drop (off + n))))
 | _, _ => False
@[simp] theorem zP8 {K' : zaa → Prop} (n off id : Nat) (xs cs : List AV) : zem n off id (some xs) (some (.cells cs)) H K' = ((xs.length = n ∧ off + n ≤ cs.length ∧ xs.all AV.known = true) ∧ K' (H.set id (.cells (cs.take off ++ xs ++ cs.drop (off + n))))) := propext Iff.rfl
@[simp] theorem zQb {K' : zaa → Prop} (n id off : Nat) (x : AV) : zak n (.ptr id off) x H K' = zem n off id x.cs? H[id]? H K' := by
 cases hx : x.cs? with
 | none => simp [zdQ, zem, hx]
 | some xs => cases hb : H[id]? with
  | none => simp [zdQ, zem, hx, hb]
  | some b => cases b <;> simp [zdQ, zem, hx, hb]
def zrn (g : Bool) (n m off : Nat) (b : Option AB) (k : AV → Prop) : Prop :=
 match b with
 | some (.vec _ _ m' cs) => m' = m ∧ za9 g n off cs k
 | _ => False
@[simp] theorem zO7 (g : Bool) (n m off e s m' : Nat) (cs : List AV) : zrn g n m off (some (.vec e s m' cs)) k = (m' = m ∧ za9 g n off cs k) := propext Iff.rfl
@[simp] theorem zPb (g : Bool) (n id m off : Nat) : zad g n (.vp id m off) H k = zrn g n m off H[id]? k := by
 rw [zfG]; rfl
def zfH (n m off id : Nat) (xs : Option (List AV)) (b : Option AB) (H : zaa) (K' : zaa → Prop) : Prop :=
 match xs, b with
 | some xs, some (.vec e s m' cs) => (m' = m ∧ xs.length = n ∧ off + n ≤ cs.length ∧ xs.all AV.known = true) ∧ K' (H.set id (.vec e s m' (cs.take off ++ xs ++ cs.drop (off + n))))
 | _, _ => False
@[simp] theorem zP9 {K' : zaa → Prop} (n m off id e s m' : Nat) (xs cs : List AV) : zfH n m off id (some xs) (some (.vec e s m' cs)) H K' = ((m' = m ∧ xs.length = n ∧ off + n ≤ cs.length ∧ xs.all AV.known = true) ∧ K' (H.set id (.vec e s m' (cs.take off ++ xs ++ cs.drop (off + n))))) := propext Iff.rfl
@[simp] theorem zQc {K' : zaa → Prop} (n id m off : Nat) (x : AV) : zak n (.vp id m off) x H K' = zfH n m off id x.cs? H[id]? H K' := by
 cases hx : x.cs? with
 | none => simp [zdQ, zfH, hx]
 | some xs => cases hb : H[id]? with
  | none => simp [zdQ, zfH, hx, hb]
  | some b => cases b <;> simp [zdQ, zfH, hx, hb]
def zlJ (e size bytes n id : Nat) (ys : List (List AV)) (b : Option AB) (H : zaa) (K : AV → zaa → Prop) : Prop :=
 match b with
 | some (.vec e' s' n' cs) => ((e' = e ∧ s' = size ∧ n' = n) ∧ (n + ys.length) * bytes ≤ 140737488355328 ∧ n + ys.length ≤ 9223372036854775807) ∧ K (.ov id (n + ys.length)) (H.set id (.vec e size (n + ys.length) (cs ++ ys.flatten)))
 | _ => False
@[simp] theorem zNP (e size bytes n id e' s' n' : Nat) (ys : List (List AV)) (cs : List AV) : zlJ e size bytes n id ys (some (.vec e' s' n' cs)) H K = (((e' = e ∧ s' = size ∧ n' = n) ∧ (n + ys.length) * bytes ≤ 140737488355328 ∧ n + ys.length ≤ 9223372036854775807) ∧ K (.ov id (n + ys.length)) (H.set id (.vec e size (n + ys.length) (cs ++ ys.flatten)))) := propext Iff.rfl
@[simp] theorem zNO (e size bytes id n : Nat) (ys : List (List AV)) : zaN e size bytes (.ov id n) ys H K = zlJ e size bytes n id ys H[id]? H K := by
 unfold zaN zlJ; rfl
@[simp] theorem zOK (esz id m : Nat) (j : IntKind) (n : Int) : zaj esz (.ov id m) (.int j n) k = ((0 ≤ n ∧ n < m) ∧ k (.vp id m (n.toNat * esz))) := zha ..
@[simp] theorem zOT (id n : Nat) : zah 1 (.ov id n) k = k (.int .i64 n) := propext Iff.rfl
@[simp] theorem zOt (off i m o : Nat) : zaf off (.vp i m o) k = k (.vp i m (o + off)) := propext Iff.rfl
@[simp] theorem zPA (i m o : Nat) : za4 (.vp i m o) k = k (.vp i m o) := propext Iff.rfl
@[simp] theorem zN0 (i n : Nat) : zap (.ov i n) H K = K (.ptr H.length 0) (H ++ [.cells [.ov i n]]) := propext Iff.rfl
@[simp] theorem zQL (i n : Nat) : (AV.ov i n).known = true := rfl
@[simp] theorem zQZ (m i n : Nat) : (AV.ov i n).scA m = decide (i < m) := rfl
@[simp] theorem zPy (i o : Nat) : za4 (.ptr i o) k = k (.ptr i o) := propext Iff.rfl
@[simp] theorem zPz (cs : List AV) : za4 (.view cs) k = k (.view cs) := propext Iff.rfl
@[simp] theorem zPx (f : Nat) (c : List AV) : za4 (.fn f c) k = k (.fn f c) := propext Iff.rfl
@[simp] theorem zOr (off i o : Nat) : zaf off (.ptr i o) k = k (.ptr i (o + off)) := propext Iff.rfl
@[simp] theorem zOs (off : Nat) (cs : List AV) : zaf off (.view cs) k = (off ≤ cs.length ∧ k (.view (cs.drop off))) := zrm ..
@[simp] theorem zOo (g : Bool) (n off : Nat) (cs : List AV) : zdd g n off (.agg cs) k = za9 g n off cs k := propext Iff.rfl
@[simp] theorem zOL (esz : Nat) (es : List (List AV)) (t : Tok) (j : IntKind) (n : Int) : zaj esz (.sl es t) (.int j n) k = ((0 ≤ n ∧ n < es.length) ∧ ((es.getD n.toNat []).length = esz ∧ k (.view (es.getD n.toNat [])))) := zha ..
@[simp] theorem zOJ (esz id off len cap : Nat) (j : IntKind) (n : Int) : zaj esz (.ms id off len cap) (.int j n) k = ((0 ≤ n ∧ n < len) ∧ k (.ptr id (off + n.toNat * esz))) := zha ..
@[simp] theorem zON (s : List UInt8) (j : IntKind) (n : Int) : zbu (.str s) (.int j n) k = ((0 ≤ n ∧ n < s.length) ∧ k (.int .u8 (s.getD n.toNat 0).toNat)) := propext Iff.rfl
@[simp] theorem zOW (s : List UInt8) : zah 0 (.str s) k = k (.int .i64 s.length) := propext Iff.rfl
@[simp] theorem zOU (es : List (List AV)) (t : Tok) : zah 1 (.sl es t) k = k (.int .i64 es.length) := propext Iff.rfl
@[simp] theorem zOV : zah 1 .snil k = k (.int .i64 0) := propext Iff.rfl
@[simp] theorem zOS (i o l c : Nat) : zah 1 (.ms i o l c) k = k (.int .i64 l) := propext Iff.rfl
@[simp] theorem zyT (d : Nat) (q : Nat → Prop) : zby none d q = q d := propext Iff.rfl
@[simp] theorem zyS (j : IntKind) (n : Int) (d : Nat) (q : Nat → Prop) : zby (some (.int j n)) d q = (0 ≤ n ∧ q n.toNat) := propext Iff.rfl
@[simp] theorem zy1 (s : List UInt8) (lo hi : Option AV) : zaK 0 0 (.str s) lo hi k = zby hi s.length fun h => zby lo 0 fun l => (l ≤ h ∧ h ≤ s.length) ∧ k (.str ((s.take h).drop l)) := propext Iff.rfl
@[simp] theorem zP5 (esz : Nat) (es : List (List AV)) (t : Tok) (lo hi : Option AV) : zaK 1 esz (.sl es t) lo hi k = zby hi es.length fun h => zby lo 0 fun l => (l ≤ h ∧ h ≤ es.length ∧ ∀ c ∈ es, c.length = esz) ∧ k (.sl ((es.take h).drop l) .none) := propext Iff.rfl
@[simp] theorem zNL (b : Bool) (j : IntKind) (m n : Int) : zac .add b (.int j m) (.int j n) k = k (.int j (j.wrap (m + n))) := by simp [zb0]
@[simp] theorem zQd (b : Bool) (j : IntKind) (m n : Int) : zac .sub b (.int j m) (.int j n) k = k (.int j (j.wrap (m - n))) := by simp [zb0]
@[simp] theorem zPl (b : Bool) (j : IntKind) (m n : Int) : zac .mul b (.int j m) (.int j n) k = k (.int j (j.wrap (m * n))) := by simp [zb0]
@[simp] theorem zOj (b : Bool) (j : IntKind) (m n : Int) : zac .eql b (.int j m) (.int j n) k = k (.bool (m == n)) := by simp [zb0]
@[simp] theorem zPo (b : Bool) (j : IntKind) (m n : Int) : zac .neq b (.int j m) (.int j n) k = k (.bool (m != n)) := by simp [zb0]
@[simp] theorem zPc (b : Bool) (j : IntKind) (m n : Int) : zac .lss b (.int j m) (.int j n) k = k (.bool (decide (m < n))) := by simp [zb0]
@[simp] theorem zOX (b : Bool) (j : IntKind) (m n : Int) : zac .leq b (.int j m) (.int j n) k = k (.bool (decide (m ≤ n))) := by simp [zb0]
@[simp] theorem zOv (b : Bool) (j : IntKind) (m n : Int) : zac .gtr b (.int j m) (.int j n) k = k (.bool (decide (m > n))) := by simp [zb0]
@[simp] theorem zOu (b : Bool) (j : IntKind) (m n : Int) : zac .geq b (.int j m) (.int j n) k = k (.bool (decide (m ≥ n))) := by simp [zb0]
@[simp] theorem zOk (b : Bool) (s t : List UInt8) : zac .eql b (.str s) (.str t) k = k (.bool (s == t)) := propext Iff.rfl
@[simp] theorem zPp (b : Bool) (s t : List UInt8) : zac .neq b (.str s) (.str t) k = k (.bool (!(s == t))) := rfl
@[simp] theorem zNM (b : Bool) (s t : List UInt8) : zac .add b (.str s) (.str t) k = (s.length + t.length ≤ 9223372036854775807 ∧ k (.str (s ++ t))) := zb0 ..
@[simp] theorem zOi (m n : Bool) : zac .eql true (.bool m) (.bool n) k = k (.bool (m == n)) := by simp [zb0]
@[simp] theorem zPn (m n : Bool) : zac .neq true (.bool m) (.bool n) k = k (.bool (!(m == n))) := by simp [zb0]
@[simp] theorem zPB (b : Bool) : aUn .not (.bool b) k = k (.bool (!b)) := rfl
@[simp] theorem zPm (j : IntKind) (n : Int) : aUn .neg (.int j n) k = k (.int j (j.wrap (0 - n))) := rfl
@[simp] theorem zyW (j i : IntKind) (n : Int) : zbt j (.int i n) k = k (.int j (j.wrap n)) := propext Iff.rfl
@[simp] theorem zOg (s : List UInt8) : zdc (.str s) k = k (.str s) := propext Iff.rfl
@[simp] theorem zOl (v : AV) (vs : List AV) : zav (.tup (v :: vs)) 0 k = k v := propext Iff.rfl
@[simp] theorem zOn (v : AV) (vs : List AV) (i : Nat) : zav (.tup (v :: vs)) (i + 1) k = zav (.tup vs) i k := by simp [zav]
@[simp] theorem zOd (f : Nat) (caps : List AV) : zb4 f caps k = (caps.all AV.isB = true ∧ k (.fn f caps)) := propext Iff.rfl
@[simp] theorem zP2 (v : AV) : zaA [v] k = k v := propext Iff.rfl
@[simp] theorem zP3 (v u : AV) (vs : List AV) : zaA (v :: u :: vs) k = ((v :: u :: vs).all AV.isV = true ∧ k (.tup (v :: u :: vs))) := propext Iff.rfl
end


section
variable {H : zaa} {K : AV → zaa → Prop} {k : AV → Prop} {kh : zaa → Prop}
@[simp] theorem zQq (i : Nat) : (AV.map i).cs? = some [.map i] := rfl
@[simp] theorem zPk : zdP H K = K (.map H.length) (H ++ [.map []]) := propext Iff.rfl
def zeX (zero : AV) (ok : Bool) (s : List UInt8) (b : Option AB) (k : AV → Prop) : Prop :=
 match b with
 | some (.map kvs) => k (match ok with
   | true => .tup [(zbY kvs s).getD zero, .bool (zbY kvs s).isSome]
   | false => (zbY kvs s).getD zero)
 | _ => False
@[simp] theorem zO2 (z : AV) (ok : Bool) (id : Nat) (s : List UInt8) : zde z ok (.map id) (.str s) H k = zeX z ok s H[id]? k := by unfold zde zeX; rfl
@[simp] theorem zOZ (z : AV) (s : List UInt8) (kvs : List (List UInt8 × AV)) : zeX z false s (some (.map kvs)) k = k ((zbY kvs s).getD z) := propext Iff.rfl
@[simp] theorem zO0 (z : AV) (s : List UInt8) (kvs : List (List UInt8 × AV)) : zeX z true s (some (.map kvs)) k = k (.tup [(zbY kvs s).getD z, .bool (zbY kvs s).isSome]) := propext Iff.rfl
def zeY (id : Nat) (s : List UInt8) (x : AV) (b : Option AB) (H : zaa) (kh : zaa → Prop) : Prop :=
 match b with
 | some (.map kvs) => (match x with
   | .tup _ => False
   | x => kh (H.set id (.map (zcX kvs s x))))
 | _ => False
@[simp] theorem zPh (id : Nat) (s : List UInt8) (x : AV) : zcA (.map id) (.str s) x H kh = zeY id s x H[id]? H kh := by unfold zcA zeY; rfl
@[simp] theorem zPd (id : Nat) (s : List UInt8) (b : Bool) (kvs : List (List UInt8 × AV)) : zeY id s (.bool b) (some (.map kvs)) H kh = kh (H.set id (.map (zcX kvs s (.bool b)))) := propext Iff.rfl
@[simp] theorem zPf (id : Nat) (s : List UInt8) (j : IntKind) (n : Int) (kvs : List (List UInt8 × AV)) : zeY id s (.int j n) (some (.map kvs)) H kh = kh (H.set id (.map (zcX kvs s (.int j n)))) := propext Iff.rfl
@[congr] theorem zPj {H' : zaa} (hH : H = H') : zdP H K = zdP H' K := by rw [hH]
@[congr] theorem zO1 {H' : zaa} {z : AV} {ok : Bool} {m m' x x' : AV} (hm : m = m') (hx : x = x') (hH : H = H') : zde z ok m x H k = zde z ok m' x' H' k := by rw [hm, hx, hH]
@[congr] theorem zOY {z : AV} {ok : Bool} {s s' : List UInt8} {b b' : Option AB} (hs : s = s') (hb : b = b') : zeX z ok s b k = zeX z ok s' b' k := by rw [hs, hb]
@[congr] theorem zPg {H' : zaa} {m m' y y' x x' : AV} (hm : m = m') (hy : y = y') (hx : x = x') (hH : H = H') : zcA m y x H kh = zcA m' y' x' H' kh := by rw [hm, hy, hx, hH]
@[congr] theorem zPe {H' : zaa} {id id' : Nat} {s s' : List UInt8} {x x' : AV} {b b' : Option AB} (hi : id = id') (hs : s = s') (hx : x = x') (hb : b = b') (hH : H = H') : zeY id s x b H kh = zeY id' s' x' b' H' kh := by rw [hi, hs, hx, hb, hH]
end

section
variable {H H' : zaa} {K : AV → zaa → Prop} {k : AV → Prop} {kh : zaa → Prop}
@[congr] theorem zOO {b b' : Bool} {p q : Prop} (h : b = b') : aIf b p q = aIf b' p q := by rw [h]
@[congr] theorem zQe {c c' : AV} {p q : Prop} (h : c = c') : zag c p q = zag c' p q := by rw [h]
@[congr] theorem zOC {c c' : AV} {w : Bool} {p q : Prop} (h : c = c') : zcR c w p q = zcR c' w p q := by rw [h]
@[congr] theorem zOw {c c' : AV} {w : Bool} {p : (AV → zaa → Prop) → Prop} {J : AV → zaa → Prop} (h : c = c') (hH : H = H') : zab c w H p J = zab c' w H' p J := by rw [h, hH]
@[congr] theorem zPC {c c' a a' b b' : AV} (h : c = c') (ha : a = a') (hb : b = b') : zai c a b k = zai c' a' b' k := by rw [h, ha, hb]
@[congr] theorem zNV {x x' : AV} (h : x = x') (hH : H = H') : zap x H K = zap x' H' K := by rw [h, hH]
@[congr] theorem zPq {x x' : List AV} (h : x = x') (hH : H = H') : zaw x H K = zaw x' H' K := by rw [h, hH]
@[congr] theorem zN9 {g : Bool} {n n' o o' : Nat} {c c' : List AV} (hn : n = n') (ho : o = o') (hc : c = c') : za9 g n o c k = za9 g n' o' c' k := by rw [hn, ho, hc]
@[congr] theorem zO8 {g : Bool} {n : Nat} {x x' : AV} (h : x = x') (hH : H = H') : zad g n x H k = zad g n x' H' k := by rw [h, hH]
@[congr] theorem zO3 {g : Bool} {n o o' : Nat} {b b' : Option AB} (ho : o = o') (h : b = b') : zhb g n o b k = zhb g n o' b' k := by rw [h, ho]
@[congr] theorem zQa {n : Nat} {a a' x x' : AV} (ha : a = a') (h : x = x') (hH : H = H') : zak n a x H kh = zak n a' x' H' kh := by rw [ha, h, hH]
@[congr] theorem zP7 {n o o' i i' : Nat} {x x' : Option (List AV)} {b b' : Option AB} (ho : o = o') (hi : i = i') (h : x = x') (hb : b = b') (hH : H = H') : zem n o i x b H kh = zem n o' i' x' b' H' kh := by rw [ho, hi, h, hb, hH]
@[congr] theorem zOq {n : Nat} {x x' : AV} (h : x = x') : zaf n x k = zaf n x' k := by rw [h]
@[congr] theorem zOp {g : Bool} {n o : Nat} {x x' : AV} (h : x = x') : zdd g n o x k = zdd g n o x' k := by rw [h]
@[congr] theorem zOI {n : Nat} {x x' i i' : AV} (h : x = x') (hi : i = i') : zaj n x i k = zaj n x' i' k := by rw [h, hi]
@[congr] theorem zOM {x x' i i' : AV} (h : x = x') (hi : i = i') : zbu x i k = zbu x' i' k := by rw [h, hi]
@[congr] theorem zOR {u : Nat} {x x' : AV} (h : x = x') : zah u x k = zah u x' k := by rw [h]
@[congr] theorem zNS {x x' : Option AV} {d d' : Nat} {q : Nat → Prop} (h : x = x') (hd : d = d') : zby x d q = zby x' d' q := by rw [h, hd]
@[congr] theorem zP4 {u e : Nat} {x x' : AV} {l l' h h' : Option AV} (hx : x = x') (hl : l = l') (hh : h = h') : zaK u e x l h k = zaK u e x' l' h' k := by rw [hx, hl, hh]
@[congr] theorem zNR {o : BinOp} {b : Bool} {x x' y y' : AV} (h : x = x') (hy : y = y') : zac o b x y k = zac o b x' y' k := by rw [h, hy]
@[congr] theorem zQh {o : UnOp} {x x' : AV} (h : x = x') : aUn o x k = aUn o x' k := by rw [h]
@[congr] theorem zOh {o : IntKind} {x x' : AV} (h : x = x') : zbt o x k = zbt o x' k := by rw [h]
@[congr] theorem zOe {x x' : AV} (h : x = x') : zdc x k = zdc x' k := by rw [h]
@[congr] theorem zOm {x x' : AV} {i : Nat} (h : x = x') : zav x i k = zav x' i k := by rw [h]
@[congr] theorem zOc {f : Nat} {x x' : List AV} (h : x = x') : zb4 f x k = zb4 f x' k := by rw [h]
@[congr] theorem zPw {x x' : AV} (h : x = x') : za4 x k = za4 x' k := by rw [h]
@[congr] theorem zN6 {z : List AV} {p : List (Nat × Nat)} {x x' : List (Nat × AV)} (h : x = x') : zaC z p x k = zaC z p x' k := by rw [h]
@[congr] theorem zN5 {e : Nat} {z : List AV} {l : Nat} {x x' : List (Nat × AV)} (h : x = x') : zaz e z l x k = zaz e z l x' k := by rw [h]
@[congr] theorem zPi {b : Nat} {z : List AV} {l l' c c' : AV} (h : l = l') (hc : c = c') (hH : H = H') : zbe b z l c H K = zbe b z l' c' H' K := by rw [h, hc, hH]
@[congr] theorem zNQ {e s b : Nat} {x x' y y' : AV} (h : x = x') (hy : y = y') (hH : H = H') : zax e s b x y H K = zax e s b x' y' H' K := by rw [h, hy, hH]
@[congr] theorem zNN {e s b : Nat} {x x' : AV} {y y' : List (List AV)} (h : x = x') (hy : y = y') (hH : H = H') : zaN e s b x y H K = zaN e s b x' y' H' K := by rw [h, hy, hH]
@[congr] theorem zP6 {x x' : AV} {q : List (List AV) → Prop} (h : x = x') : zaW x q = zaW x' q := by rw [h]
@[congr] theorem zNJ {P : Program} {f : FuncId} {x x' : List AV} (h : x = x') (hH : H = H') : ACalls P f x H K = ACalls P f x' H' K := by rw [h, hH]
@[congr] theorem zN7 {P : Program} {g g' : AV} {x x' : List AV} (hg : g = g') (h : x = x') (hH : H = H') : aCallV P g x H K = aCallV P g' x' H' K := by rw [hg, h, hH]
@[congr] theorem zPI {p : (AV → zaa → Prop) → Prop} : zae H p k = zae H p k := rfl
@[congr] theorem zNK {n : Nat} {r r' : AV} (hr : r = r') (hH : H = H') : Out n K r H = Out n K r' H' := by rw [hr, hH]
end
section
variable {H : zaa} {k : AV → Prop}
theorem zbU {p : (AV → Prop) → Prop} (h : ∀ q : AV → Prop, p q ↔ ∃ v, p (fun u => u = v) ∧ q v) : zae H (fun K' => p fun v => K' v H) k = p k := by
 unfold zae
 rw [eq_iff_iff, h k]
 simp only [and_true]
@[simp] theorem zPQ (x : AV) : zae H (fun K' => K' x H) k = k x := by simp [zae]
theorem zlZ (g : Bool) (n o : Nat) (cs : List AV) (q : AV → Prop) : za9 g n o cs q ↔ ∃ v, za9 g n o cs (fun u => u = v) ∧ q v := by
 unfold za9
 split
 ·constructor
  ·rintro ⟨h1, h2⟩; exact ⟨_, ⟨h1, rfl⟩, h2⟩
  ·rintro ⟨v, ⟨h1, rfl⟩, h2⟩; exact ⟨h1, h2⟩
 ·split <;> simp
theorem zy7 {a : Prop} {p : Prop} {p' : AV → Prop} {q : AV → Prop} (h : p ↔ ∃ v, p' v ∧ q v) : (a ∧ p) ↔ ∃ v, (a ∧ p' v) ∧ q v := by
 constructor
 ·rintro ⟨h1, h2⟩; obtain ⟨v, h3, h4⟩ := h.1 h2; exact ⟨v, ⟨h1, h3⟩, h4⟩
 ·rintro ⟨v, ⟨h1, h3⟩, h4⟩; exact ⟨h1, h.2 ⟨v, h3, h4⟩⟩
@[simp] theorem zPU (g : Bool) (n : Nat) (a : AV) : zae H (fun K' => zad g n a H fun v => K' v H) k = zad g n a H k := zbU (p := fun q => zad g n a H q) fun q => by
 unfold zad
 split
 ·exact zlZ _ _ _ _ q
 ·simp
@[simp] theorem zO5 (g : Bool) (n id off : Nat) : zal g n (.ptr id off) H k = zad g n (.ptr id off) H k := propext Iff.rfl
@[simp] theorem zO6 (g : Bool) (n : Nat) (cs : List AV) : zal g n (.view cs) H k = zad g n (.view cs) H k := propext Iff.rfl
@[simp] theorem zPV (g : Bool) (n : Nat) (a : AV) : zae H (fun K' => zal g n a H fun v => K' v H) k = zal g n a H k := zbU (p := fun q => zal g n a H q) fun q => by
 unfold zal
 split
 ·simp
 unfold zad
 split
 ·exact zlZ _ _ _ _ q
 ·simp
@[simp] theorem zPX (b : Bool) (o : BinOp) (x : AV) : zae H (fun K' => zcq b o x fun v => K' v H) k = zcq b o x k := zbU (p := fun q => zcq b o x q) fun q => by
 unfold zcq
 refine zy7 ?_
 split
 ·split <;> simp
 ·split <;> simp
 ·simp
@[simp] theorem zPv : zcq true .neq .nili k = k (.bool false) := by simp [zcq]
@[simp] theorem zPt : zcq true .neq .ifc k = k (.bool true) := by simp [zcq]
@[simp] theorem zPu : zcq true .eql .nili k = k (.bool true) := by simp [zcq]
@[simp] theorem zPs : zcq true .eql .ifc k = k (.bool false) := by simp [zcq]
@[simp] theorem zPY (c a b : AV) : zae H (fun K' => zai c a b fun v => K' v H) k = zai c a b k := zbU (p := fun q => zai c a b q) fun q => by
 unfold zai; split <;> simp
@[simp] theorem zPO (o : Nat) (a : AV) : zae H (fun K' => zaf o a fun v => K' v H) k = zaf o a k := zbU (p := fun q => zaf o a q) fun q => by
 unfold zaf; split <;> simp
@[simp] theorem zPP (g : Bool) (n o : Nat) (a : AV) : zae H (fun K' => zdd g n o a fun v => K' v H) k = zdd g n o a k := zbU (p := fun q => zdd g n o a q) fun q => by
 unfold zdd
 split
 ·exact zlZ _ _ _ _ q
 ·simp
@[simp] theorem zPR (n : Nat) (x i : AV) : zae H (fun K' => zaj n x i fun v => K' v H) k = zaj n x i k := zbU (p := fun q => zaj n x i q) fun q => by
 unfold zaj; split <;> simp
@[simp] theorem zPS (x i : AV) : zae H (fun K' => zbu x i fun v => K' v H) k = zbu x i k := zbU (p := fun q => zbu x i q) fun q => by
 unfold zbu
 split
 ·constructor
  ·rintro ⟨h1, h2⟩; exact ⟨_, ⟨h1, rfl⟩, h2⟩
  ·rintro ⟨v, ⟨h1, rfl⟩, h2⟩; exact ⟨h1, h2⟩
 ·simp
@[simp] theorem zPT (u : Nat) (x : AV) : zae H (fun K' => zah u x fun v => K' v H) k = zah u x k := zbU (p := fun q => zah u x q) fun q => by
 unfold zah; split <;> simp
@[simp] theorem zP0 (o : UnOp) (x : AV) : zae H (fun K' => aUn o x fun v => K' v H) k = aUn o x k := zbU (p := fun q => aUn o x q) fun q => by
 unfold aUn; split <;> simp
@[simp] theorem zPK (o : IntKind) (x : AV) : zae H (fun K' => zbt o x fun v => K' v H) k = zbt o x k := zbU (p := fun q => zbt o x q) fun q => by
 unfold zbt; split <;> simp
@[simp] theorem zPM (x : AV) : zae H (fun K' => zdc x fun v => K' v H) k = zdc x k := zbU (p := fun q => zdc x q) fun q => by
 unfold zdc; split <;> simp
@[simp] theorem zPL (x : AV) : zae H (fun K' => zek x fun v => K' v H) k = zek x k := zbU (p := fun q => zek x q) fun q => by
 unfold zek
 split
 ·split <;> simp
 ·simp
 ·simp
@[simp] theorem zPW (x : AV) : zae H (fun K' => za4 x fun v => K' v H) k = za4 x k := zbU (p := fun q => za4 x q) fun q => by
 unfold za4; split <;> simp
@[simp] theorem zPN (x : AV) (i : Nat) : zae H (fun K' => zav x i fun v => K' v H) k = zav x i k := zbU (p := fun q => zav x i q) fun q => by
 unfold zav
 split
 ·split <;> simp
 ·simp
@[simp] theorem zPG (z : List AV) (ps : List (Nat × Nat)) (x : List (Nat × AV)) : zae H (fun K' => zaC z ps x fun v => K' v H) k = zaC z ps x k := zbU (p := fun q => zaC z ps x q) fun q => by
 unfold zaC; split <;> simp
@[simp] theorem zPH (e : Nat) (z : List AV) (l : Nat) (x : List (Nat × AV)) : zae H (fun K' => zaz e z l x fun v => K' v H) k = zaz e z l x k := zbU (p := fun q => zaz e z l x q) fun q => by
 unfold zaz
 split
 ·split <;> simp
 ·simp
@[simp] theorem zPF (o : BinOp) (b : Bool) (x y : AV) : zae H (fun K' => zac o b x y fun v => K' v H) k = zac o b x y k := zbU (p := fun q => zac o b x y q) fun q => by
 unfold zac; split <;> simp
@[simp] theorem zPJ (f : Nat) (x : List AV) : zae H (fun K' => zb4 f x fun v => K' v H) k = zb4 f x k := zbU (p := fun q => zb4 f x q) fun q => by
 unfold zb4
 constructor
 ·rintro ⟨h1, h2⟩; exact ⟨_, ⟨h1, rfl⟩, h2⟩
 ·rintro ⟨v, ⟨h1, rfl⟩, h2⟩; exact ⟨h1, h2⟩
end
@[simp] theorem zzV (A l : zaa) : (A ++ l)[A.length]? = l[0]? := by rw [List.getElem?_append_right (Nat.le_refl _)]; simp
@[simp] theorem zzW (A l : zaa) (k : Nat) : (A ++ l)[A.length + k]? = l[k]? := by rw [List.getElem?_append_right (by omega)]; congr 1; omega
@[simp] theorem zBk (A l : zaa) (x : AB) : (A ++ l).set A.length x = A ++ l.set 0 x := by rw [List.set_append_right _ _ (Nat.le_refl _)]; simp
@[simp] theorem ztV (A l : zaa) (k : Nat) (x : AB) : (A ++ l).set (A.length + k) x = A ++ l.set k x := by rw [List.set_append_right _ _ (by omega)]; congr 2; omega
@[simp] theorem zQC (A l : zaa) (i : Nat) (y : AB) : (A.set i y ++ l)[A.length]? = l[0]? := by have := zzV (A.set i y) l; rwa [List.length_set] at this
@[simp] theorem zQD (A l : zaa) (i : Nat) (y : AB) (k : Nat) : (A.set i y ++ l)[A.length + k]? = l[k]? := by have := zzW (A.set i y) l k; rwa [List.length_set] at this
@[simp] theorem zQ5 (A l : zaa) (i : Nat) (x y : AB) : (A.set i y ++ l).set A.length x = A.set i y ++ l.set 0 x := by have := zBk (A.set i y) l x; rwa [List.length_set] at this
@[simp] theorem zQ6 (A l : zaa) (i : Nat) (y : AB) (k : Nat) (x : AB) : (A.set i y ++ l).set (A.length + k) x = A.set i y ++ l.set k x := by have := ztV (A.set i y) l k x; rwa [List.length_set] at this
theorem zbB {H J : zaa} {id : Nat} {b : AB} (h : H[id]? = some b) : (H ++ J)[id]? = some b := by
 rw [List.getElem?_append_left (List.getElem?_eq_some_iff.1 h).1]; exact h
theorem zcF {H : zaa} {id : Nat} {b : AB} (h : H[id]? = some b) : id < H.length := (List.getElem?_eq_some_iff.1 h).1
theorem zb5 {H J : zaa} {id : Nat} {b : AB} (x : AB) (h : H[id]? = some b) : (H ++ J).set id x = H.set id x ++ J := List.set_append_left _ _ (zcF h)
theorem zbN {H : zaa} {id : Nat} {b : AB} (x : AB) (h : H[id]? = some b) : (H.set id x)[id]? = some x := List.getElem?_set_self (zcF h)

theorem zas {n : Int} (h1 : -9223372036854775808 ≤ n) (h2 : n ≤ 9223372036854775807) : IntKind.i64.wrap n = n := IntWalk.i64_in n ⟨h1, h2⟩

theorem HSc.set {H : zaa} {id : Nat} {b : AB} (h : HSc H) (hb : b.sc H.length = true) : HSc (H.set id b) := by
 intro x hx
 rw [List.length_set]
 rcases List.mem_or_eq_of_mem_set hx with h1 | h1
 ·exact h x h1
 ·rw [h1]; exact hb
theorem zb9 {n m : Nat} (h : n ≤ m) : ∀ {a : AV}, a.sc n = true → a.sc m = true := by
 have hB : ∀ {a : AV}, a.scB n = true → a.scB m = true := by
  intro a ha
  cases a with
  | sl es t => cases t <;> simp_all [AV.scB]; omega
  | _ => simp_all [AV.scB] <;> omega
 have hA : ∀ {a : AV}, a.scA n = true → a.scA m = true := by
  intro a ha
  cases a with
  | fn f caps => simp only [AV.scA, List.all_eq_true] at ha ⊢; exact fun x hx => hB (ha x hx)
  | _ => simp only [AV.scA] at ha ⊢; exact hB ha
 have hV : ∀ {a : AV}, a.scV n = true → a.scV m = true := by
  intro a ha
  cases a with
  | agg caps => simp only [AV.scV, List.all_eq_true] at ha ⊢; exact fun x hx => hA (ha x hx)
  | _ => simp only [AV.scV] at ha ⊢; exact hA ha
 intro a ha
 cases a with
 | tup caps => simp only [AV.sc, List.all_eq_true] at ha ⊢; exact fun x hx => hV (ha x hx)
 | _ => simp only [AV.sc] at ha ⊢; exact hV ha
theorem Back.here {n0 : Nat} {Inv : List AV → zaa → Prop} {F : List AV} {H : zaa} (hn : n0 ≤ H.length) (hsc : HSc H) (hs : F.all (AV.sc H.length) = true) (h : Inv F H) : Back n0 Inv F H := by
 have := Back.same (J := []) hn hsc hs h
 simpa using this
theorem znv {n m : Nat} (h : n ≤ m) {a : AV} (ha : a.scA n = true) : a.scA m = true := by
 cases a with
 | agg cs => rfl
 | tup vs => rfl
 | fn f caps => exact zb9 h (a := .fn f caps) ha
 | sl es t => exact zb9 h (a := .sl es t) ha
 | ptr i o => exact zb9 h (a := .ptr i o) ha
 | ms i o l c => exact zb9 h (a := .ms i o l c) ha
 | ov i n => exact zb9 h (a := .ov i n) ha
 | vp i n o => exact zb9 h (a := .vp i n o) ha
 | map i => exact zb9 h (a := .map i) ha
 | _ => rfl
theorem zBf {n m : Nat} (h : n ≤ m) {a : AV} (ha : a.scV n = true) : a.scV m = true := by
 cases a with
 | tup vs => rfl
 | agg cs => exact zb9 h (a := .agg cs) ha
 | fn f caps => exact zb9 h (a := .fn f caps) ha
 | sl es t => exact zb9 h (a := .sl es t) ha
 | ptr i o => exact zb9 h (a := .ptr i o) ha
 | ms i o l c => exact zb9 h (a := .ms i o l c) ha
 | ov i n => exact zb9 h (a := .ov i n) ha
 | vp i n o => exact zb9 h (a := .vp i n o) ha
 | map i => exact zb9 h (a := .map i) ha
 | _ => rfl
theorem zyL {n m : Nat} (h : n ≤ m) {b : AB} (hb : b.sc n = true) : b.sc m = true := by
 cases b with
 | cells cs => simp only [AB.sc, List.all_eq_true] at hb ⊢; exact fun x hx => znv h (hb x hx)
 | perm e s n => rfl
 | gap => rfl
 | dead => rfl
 | fact φ => rfl
 | map kvs => simp only [AB.sc, List.all_eq_true] at hb ⊢; exact fun x hx => zBf h (hb x hx)
 | bld t cs => simp only [AB.sc, List.all_eq_true] at hb ⊢; exact fun x hx => znv h (hb x hx)
 | vec e s n cs => simp only [AB.sc, List.all_eq_true] at hb ⊢; exact fun x hx => znv h (hb x hx)
theorem HSc.append {A J : zaa} (hA : HSc A) (hJ : J.all (AB.sc (A.length + J.length)) = true) : HSc (A ++ J) := by
 intro x hx
 rw [List.length_append]
 rcases List.mem_append.1 hx with h1 | h1
 ·exact zyL (by omega) (hA x h1)
 ·exact List.all_eq_true.1 hJ x h1
end Go.Abs
