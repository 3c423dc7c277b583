import Derived.Test.YtacebbdfgbfgiaaGreatKNum
import Derived.Test.YtacebbdfgbfgiaaGreatProg
import Derived.KernelRfl
import Derived.Test.YtacebbdfgbfgiaaGreatKI2
import Derived.Test.YtacebbdfgbfgiaaGreatAbsQ1
import Derived.Test.YtacebbdfgbfgiaaGreatKGY3
import Derived.Lib.AppendStr
import Derived.Lib.UnsafeStr
import Derived.Sort.Grow
import Derived.Deep.Draws
import Derived.Test.YtacebbdfgbfgiaaGreatTK
set_option linter.unusedSimpArgs false
set_option linter.unusedVariables false
namespace Go.Proofs.YtacebbdfgbfgiaaGreat
open Go Go.Abs
set_option maxRecDepth 100000
def zBi (_ : Nat) : List Bool := []
noncomputable def zBj : Code := Tryz.f70.body.getD .skip
def zrp (t0 : AV) (H : zaa) (K : Kt) : Prop :=
 zao t0 H fun t1 H =>
 zaf 0 t1 fun t3 =>
 zad false 1 t3 H fun t4 =>
 ACalls tP zjZ [t4] H fun t5 H =>
 zab t5 true H (fun K' => zad true 4 t1 H (K' · H)) fun t7 H =>
 zab t5 true H (fun K' => ACalls tP zj0 [t7] H K') fun t8 H =>
 zai t5 t8 (.bool false) fun t9 =>
 zab t9 true H (fun K' => zad true 4 t1 H (K' · H)) fun t11 H =>
 zab t9 true H (fun K' => ACalls tP zj1 [t11] H K') fun t12 H =>
 zai t9 t12 (.bool false) fun t13 =>
 zab t13 true H (fun K' => zad true 4 t1 H (K' · H)) fun t15 H =>
 zab t13 true H (fun K' => ACalls tP zj2 [t15] H K') fun t16 H =>
 zai t13 t16 (.bool false) fun t17 =>
 zab t17 true H (fun K' => zad true 4 t1 H (K' · H)) fun t19 H =>
 zab t17 true H (fun K' => ACalls tP zj3 [t19] H K') fun t20 H =>
 zai t17 t20 (.bool false) fun t21 =>
 zab t21 true H (fun K' => zad true 4 t1 H (K' · H)) fun t23 H =>
 zab t21 true H (fun K' => ACalls tP zj4 [t23] H K') fun t24 H =>
 zai t21 t24 (.bool false) fun t25 =>
 zab t25 true H (fun K' => zad true 4 t1 H (K' · H)) fun t27 H =>
 zab t25 true H (fun K' => ACalls tP zj5 [t27] H K') fun t28 H =>
 zai t25 t28 (.bool false) fun t29 =>
 K t29 H
theorem zBl {t0 : AV} {H : zaa} {K : Kt} (h : HSc H → zrp t0 H K) : ACalls tP zjW [t0] H K :=
 zal (M := zBi) Tryz.func70 (c := zBj) (by kernel_rfl) (fun hs => Eq.mpr (by kernel_rfl) (h hs))
def zCp (_ : Nat) : List Bool := []
noncomputable def zCq : Code := Tryz.f91.body.getD .skip
def zrL (t0 : AV) (H : zaa) (K : Kt) : Prop :=
 zao t0 H fun t1 H =>
 zaf 2 t1 fun t3 =>
 zad false 1 t3 H fun t4 =>
 zah 1 t4 fun t5 =>
 zac .leq false t5 (.int .i64 3000) fun t6 =>
 zab t6 true H (fun K' => zaf 2 t1 (K' · H)) fun t8 H =>
 zab t6 true H (fun K' => zad false 1 t8 H (K' · H)) fun t9 H =>
 zab t6 true H (fun K' => zbQ zoa [t1] (K' · H)) fun t10 H =>
 zab t6 true H (fun K' => ACalls tP zdL [t9, t10] H K') fun t11 H =>
 zab t6 true H (fun K' => aUn .not t11 (K' · H)) fun t12 H =>
 zai t6 t12 (.bool false) fun t13 =>
 K t13 H
theorem zCr {t0 : AV} {H : zaa} {K : Kt} (h : HSc H → zrL t0 H K) : ACalls tP zj0 [t0] H K :=
 zal (M := zCp) Tryz.func91 (c := zCq) (by kernel_rfl) (fun hs => Eq.mpr (by kernel_rfl) (h hs))
def ziP : Nat → List Bool
 | 6 => rl false [1,1,1,2,14,3,59]
 | _ => []
noncomputable def zmD : Code := Tryz.f92.body.getD .skip
noncomputable def zCM : List ResultVar := Tryz.f92.results.toList
def zmE (t1 t3 t4 t19 t20 t21 : AV) : List AV := ux 1 (t1 :: ux 1 (t3 :: t4 :: ux 14 (t19 :: t20 :: t21 :: ux 59 [])))
def zCK : List Bool := ziP 6
noncomputable def zCI : Code := zap [1, 1, 1, 1, 0, 1, 0, 0] zmD
def zCH (K : Kt) : AExit → List AV → zaa → Prop := zaq tP ziP [1, 1, 1, 1, 0, 1, 0] zmD (zax tP zCM K)
def zrU (t1 t3 t4 t19 t20 t21 : AV) (H : zaa) (K : Kt) : Prop := ALoop tP zCI (zCH K) (zmE t1 t3 t4 t19 t20 t21) H
def zrT (t1 t3 t4 t6 t19 t20 t21 : AV) (H : zaa) (K : Kt) (Kb6 : Lt) : Prop :=
 zaf 0 t6 fun t42 =>
 zad false 1 t42 H fun t43 =>
 zb6 t3 t43 (.bool true) H fun H =>
 zaf 1 t6 fun t44 =>
 zad false 1 t44 H fun t45 =>
 zah 1 t45 fun t46 =>
 zac .gtr false t46 (.int .i64 6) fun t47 =>
 zab t47 false H (fun K' => zaf 0 t1 (K' · H)) fun t49 H =>
 zab t47 false H (fun K' => zad false 1 t49 H (K' · H)) fun t50 H =>
 zab t47 false H (fun K' => zaf 3 t6 (K' · H)) fun t51 H =>
 zab t47 false H (fun K' => zad true 3 t51 H (K' · H)) fun t52 H =>
 zab t47 false H (fun K' => ACalls tP zff [t50, t52, (.int .i64 0)] H K') fun t53 H =>
 zab t47 false H (fun K' => aUn .not t53 (K' · H)) fun t54 H =>
 zai t47 (.bool true) t54 fun t55 =>
 zag t55
 (K (.bool false) H)
 (zae H (fun K' => zaf 6 t6 (K' · H)) fun t56 =>
 zae H (fun K' => zam false 1 t56 H (K' · H)) fun t57 =>
 zae H (fun K' => zac .lss false t57 (.int .i64 0) (K' · H)) fun t58 =>
 zae H (fun K' => K' t58 H) fun t59 =>
 zab t59 false H (fun K' => zae H (fun K'' => zaf 6 t6 (K'' · H)) (K' · H)) fun t60 H =>
 zab t59 false H (fun K' => zae H (fun K'' => zam false 1 t60 H (K'' · H)) (K' · H)) fun t61 H =>
 zab t59 false H (fun K' => zae H (fun K'' => zaf 3 t1 (K'' · H)) (K' · H)) fun t62 H =>
 zab t59 false H (fun K' => zae H (fun K'' => zam false 1 t62 H (K'' · H)) (K' · H)) fun t63 H =>
 zab t59 false H (fun K' => zae H (fun K'' => zah 1 t63 (K'' · H)) (K' · H)) fun t64 H =>
 zab t59 false H (fun K' => zae H (fun K'' => zac .geq false t61 t64 (K'' · H)) (K' · H)) fun t65 H =>
 zae H (fun K' => zai t59 (.bool true) t65 (K' · H)) fun t66 =>
 zae H (fun K' => K' t66 H) fun t67 =>
 zab t67 false H (fun K' => zae H (fun K'' => zaf 3 t1 (K'' · H)) (K' · H)) fun t68 H =>
 zab t67 false H (fun K' => zae H (fun K'' => zam false 1 t68 H (K'' · H)) (K' · H)) fun t69 H =>
 zab t67 false H (fun K' => zae H (fun K'' => zaf 6 t6 (K'' · H)) (K' · H)) fun t70 H =>
 zab t67 false H (fun K' => zae H (fun K'' => zam false 1 t70 H (K'' · H)) (K' · H)) fun t71 H =>
 zab t67 false H (fun K' => zae H (fun K'' => zaj 8 t69 t71 (K'' · H)) (K' · H)) fun t72 H =>
 zab t67 false H (fun K' => zae H (fun K'' => zaf 5 t72 (K'' · H)) (K' · H)) fun t73 H =>
 zab t67 false H (fun K' => zae H (fun K'' => zam true 3 t73 H (K'' · H)) (K' · H)) fun t74 H =>
 zab t67 false H (fun K' => zae H (fun K'' => zaf 3 t6 (K'' · H)) (K' · H)) fun t75 H =>
 zab t67 false H (fun K' => zae H (fun K'' => zam true 3 t75 H (K'' · H)) (K' · H)) fun t76 H =>
 zab t67 false H (fun K' => zbr H (fun H K'' => ACalls tP ztB [t74, t76] H K'') (K' · H)) fun t77 H =>
 zab t67 false H (fun K' => zae H (fun K'' => aUn .not t77 (K'' · H)) (K' · H)) fun t78 H =>
 zae H (fun K' => zai t67 (.bool true) t78 (K' · H)) fun t79 =>
 zag t79
 (K (.bool false) H)
 (zac .add false t21 (.int .i64 1) fun t80 =>
 Kb6 (zmE t1 t3 t4 t19 t20 t80) H))
def zrS (t1 t3 t4 t19 t20 t21 : AV) (H : zaa) (K : Kt) (Kb6 : Lt) : Prop :=
 zac .lss false t21 t20 fun t22 =>
 zag t22
 (zaj 7 t19 t21 fun t23 =>
 zad true 7 t23 H fun t24 =>
 zau [(.str []), .snil, .snil, (.int .i64 0), (.int .i64 0), .snil, (.int .i64 0)] H fun t6 H =>
 zak 7 t6 t24 H fun H =>
 zaf 0 t6 fun t25 =>
 zad false 1 t25 H fun t26 =>
 zac .eql false t26 (.str []) fun t27 =>
 zag t27
 (zrT t1 t3 (.bool true) t6 t19 t20 t21 H K Kb6)
 (zab t4 false H (fun K' => K' t3 H) fun t30 H =>
 zab t4 false H (fun K' => zaf 0 t6 (K' · H)) fun t31 H =>
 zab t4 false H (fun K' => zad false 1 t31 H (K' · H)) fun t32 H =>
 zab t4 false H (fun K' => zcB (.bool false) false t30 t32 H (K' · H)) fun t33 H =>
 zai t4 (.bool true) t33 fun t34 =>
 zab t34 false H (fun K' => zaf 2 t6 (K' · H)) fun t36 H =>
 zab t34 false H (fun K' => zad false 1 t36 H (K' · H)) fun t37 H =>
 zab t34 false H (fun K' => zah 1 t37 (K' · H)) fun t38 H =>
 zab t34 false H (fun K' => zac .gtr false t38 (.int .i64 0) (K' · H)) fun t39 H =>
 zai t34 (.bool true) t39 fun t40 =>
 zag t40
 (K (.bool false) H)
 (zrT t1 t3 t4 t6 t19 t20 t21 H K Kb6)))
 (K (.bool true) H)
def zrR (t0 : AV) (H : zaa) (K : Kt) : Prop :=
 zao t0 H fun t1 H =>
 zaf 1 t1 fun t7 =>
 zad false 1 t7 H fun t8 =>
 zah 1 t8 fun t9 =>
 zac .gtr false t9 (.int .i64 64) fun t10 =>
 zab t10 false H (fun K' => zaf 3 t1 (K' · H)) fun t12 H =>
 zab t10 false H (fun K' => zad false 1 t12 H (K' · H)) fun t13 H =>
 zab t10 false H (fun K' => zah 1 t13 (K' · H)) fun t14 H =>
 zab t10 false H (fun K' => zac .gtr false t14 (.int .i64 3000) (K' · H)) fun t15 H =>
 zai t10 (.bool true) t15 fun t16 =>
 zag t16
 (K (.bool false) H)
 (zc9 H fun t17 H =>
 zaf 1 t1 fun t18 =>
 zad false 1 t18 H fun t19 =>
 zah 1 t19 fun t20 =>
 zrU t1 t17 (.bool false) t19 t20 (.int .i64 0) H K)
theorem zCJ {t1 t3 t4 t19 t20 t21 : AV} {H : zaa} {K : Kt} (Inv : Nat → AV → AV → zaa → Prop) (n : Nat) (h0 : HSc H → Inv n t4 t21 H)
  (round : Rd2 (fun t4 => fun t21 => zmE t1 t3 t4 t19 t20 t21) (fun t4 => fun t21 => fun H Kb6 => zrS t1 t3 t4 t19 t20 t21 H K Kb6) H Inv) : zrU t1 t3 t4 t19 t20 t21 H K :=
 lp2 (M := ziP) zCK t4 t21 (by kernel_rfl) Inv n h0 round
theorem zCL {t0 : AV} {H : zaa} {K : Kt} (h : HSc H → zrR t0 H K) : ACalls tP zj1 [t0] H K :=
 zal (M := ziP) Tryz.func92 (c := zmD) (by kernel_rfl) (fun hs => Eq.mpr (by kernel_rfl) (h hs))
def zdx : Nat → List Bool
 | 5 => rl false [1,1,2,2,12,3,54]
 | 11 => rl false [1,1,2,2,25,3,41]
 | 16 => rl false [1,1,2,2,2,1,22,3,12,3,26]
 | _ => []
noncomputable def zfC : Code := Tryz.f93.body.getD .skip
noncomputable def zr3 : List ResultVar := Tryz.f93.results.toList
def zmG (t1 t4 t5 t18 t19 t20 : AV) : List AV := ux 1 (t1 :: ux 2 (t4 :: t5 :: ux 12 (t18 :: t19 :: t20 :: ux 54 [])))
def zCV : List Bool := zdx 5
noncomputable def zCQ : Code := zap [1, 1, 1, 1, 0, 1, 0, 0] zfC
def zCO (K : Kt) : AExit → List AV → zaa → Prop := zaq tP zdx [1, 1, 1, 1, 0, 1, 0] zfC (zax tP zr3 K)
def zr1 (t1 t4 t5 t18 t19 t20 : AV) (H : zaa) (K : Kt) : Prop := ALoop tP zCQ (zCO K) (zmG t1 t4 t5 t18 t19 t20) H
def zrZ (t1 t4 t5 t31 t32 t33 : AV) : List AV := ux 1 (t1 :: ux 2 (t4 :: t5 :: ux 25 (t31 :: t32 :: t33 :: ux 41 [])))
def zr2 : List Bool := zdx 11
noncomputable def zmF : Code := zap [1, 1, 1, 1, 1, 0, 1, 0, 0] zfC
def zrW (K : Kt) : AExit → List AV → zaa → Prop := zaq tP zdx [1, 1, 1, 1, 1, 0, 1, 0] zfC (zax tP zr3 K)
def zr0 (t1 t4 t5 t31 t32 t33 : AV) (H : zaa) (K : Kt) : Prop := ALoop tP zmF (zrW K) (zrZ t1 t4 t5 t31 t32 t33) H
def zCR (t1 t4 t5 t8 t31 t32 t33 t46 t47 t48 : AV) : List AV := ux 1 (t1 :: ux 2 (t4 :: t5 :: ux 2 (t8 :: ux 22 (t31 :: t32 :: t33 :: ux 12 (t46 :: t47 :: t48 :: ux 26 [])))))
noncomputable def zCP : Code := zap [1, 1, 0, 0, 1, 1, 1, 0, 0] zmF
def zCN (K : Kt) (Kb11 : Lt) : AExit → List AV → zaa → Prop := zaq tP zdx [1, 1, 0, 0, 1, 1, 1, 0] zmF (zby zr2 Kb11 (zrW K))
def zCS (t1 t4 t5 t8 t31 t32 t33 t46 t47 t48 : AV) (H : zaa) (K : Kt) (Kb11 : Lt) : Prop := ALoop tP zCP (zCN K Kb11) (zCR t1 t4 t5 t8 t31 t32 t33 t46 t47 t48) H
def zrX (t1 t4 t5 t31 t32 t33 : AV) (H : zaa) (K : Kt) (Kb11 : Lt) : Prop :=
 zac .lss false t33 t32 fun t34 =>
 zag t34
 (zaj 8 t31 t33 fun t36 =>
 zad true 8 t36 H fun t37 =>
 zau [(.int .i64 0), (.int .i64 0), .snil, .snil, .snil, (.int .i64 0), (.int .i64 0), .snil] H fun t9 H =>
 zak 8 t9 t37 H fun H =>
 zaf 3 t9 fun t38 =>
 zad false 1 t38 H fun t39 =>
 zah 1 t39 fun t40 =>
 zaf 4 t9 fun t41 =>
 zad false 1 t41 H fun t42 =>
 zah 1 t42 fun t43 =>
 zac .neq false t40 t43 fun t44 =>
 zag t44
 (K (.bool false) H)
 (zaf 4 t9 fun t45 =>
 zad false 1 t45 H fun t46 =>
 zah 1 t46 fun t47 =>
 zCS t1 t4 t5 t33 t31 t32 t33 t46 t47 (.int .i64 0) H K Kb11))
 (zad false 1 t4 H fun t70 =>
 zaf 3 t1 fun t71 =>
 zad false 1 t71 H fun t72 =>
 zah 1 t72 fun t73 =>
 zac .eql false t70 t73 fun t74 =>
 K t74 H)
def zrY (t1 t4 t5 t18 t19 t20 : AV) (H : zaa) (K : Kt) (Kb5 : Lt) : Prop :=
 zac .lss false t20 t19 fun t21 =>
 zag t21
 (zaj 7 t18 t20 fun t22 =>
 zad true 7 t22 H fun t23 =>
 zau [(.str []), .snil, .snil, (.int .i64 0), (.int .i64 0), .snil, (.int .i64 0)] H fun t7 H =>
 zak 7 t7 t23 H fun H =>
 zaf 6 t7 fun t25 =>
 zad false 1 t25 H fun t26 =>
 aCallV tP t5 [t26] H fun t27 H =>
 aUn .not t27 fun t28 =>
 zag t28
 (K (.bool false) H)
 (zac .add false t20 (.int .i64 1) fun t29 =>
 Kb5 (zmG t1 t4 t5 t18 t19 t29) H))
 (zaf 3 t1 fun t30 =>
 zad false 1 t30 H fun t31 =>
 zah 1 t31 fun t32 =>
 zr0 t1 t4 t5 t31 t32 (.int .i64 0) H K)
def zrV (t0 : AV) (H : zaa) (K : Kt) : Prop :=
 zao t0 H fun t1 H =>
 zaf 3 t1 fun t12 =>
 zad false 1 t12 H fun t13 =>
 zah 1 t13 fun t14 =>
 zbm 1 [(.bool false)] t14 t14 H fun t15 H =>
 zau [.snil] H fun t3 H =>
 zak 1 t3 t15 H fun H =>
 zau [(.int .i64 0)] H fun t4 H =>
 zak 1 t4 (.int .i64 0) H fun H =>
 zbQ ztC [t3, t4] fun t16 =>
 zaf 1 t1 fun t17 =>
 zad false 1 t17 H fun t18 =>
 zah 1 t18 fun t19 =>
 zr1 t1 t4 t16 t18 t19 (.int .i64 0) H K
theorem zCT {t1 t4 t5 t31 t32 t33 : AV} {H : zaa} {K : Kt} (Inv : Nat → AV → zaa → Prop) (n : Nat) (h0 : HSc H → Inv n t33 H)
  (round : Rd1 (fun t33 => zrZ t1 t4 t5 t31 t32 t33) (fun t33 => fun H Kb11 => zrX t1 t4 t5 t31 t32 t33 H K Kb11) H Inv) : zr0 t1 t4 t5 t31 t32 t33 H K :=
 lp1 (M := zdx) zr2 t33 (by kernel_rfl) Inv n h0 round
theorem zCU {t1 t4 t5 t18 t19 t20 : AV} {H : zaa} {K : Kt} (Inv : Nat → AV → zaa → Prop) (n : Nat) (h0 : HSc H → Inv n t20 H)
  (round : Rd1 (fun t20 => zmG t1 t4 t5 t18 t19 t20) (fun t20 => fun H Kb5 => zrY t1 t4 t5 t18 t19 t20 H K Kb5) H Inv) : zr1 t1 t4 t5 t18 t19 t20 H K :=
 lp1 (M := zdx) zCV t20 (by kernel_rfl) Inv n h0 round
theorem zCW {t0 : AV} {H : zaa} {K : Kt} (h : HSc H → zrV t0 H K) : ACalls tP zj2 [t0] H K :=
 zal (M := zdx) Tryz.func93 (c := zfC) (by kernel_rfl) (fun hs => Eq.mpr (by kernel_rfl) (h hs))
def zdy : Nat → List Bool
 | 5 => rl false [1,1,2,2,12,3,41]
 | 11 => rl false [1,1,2,2,32,3,21]
 | 14 => rl false [1,1,2,2,32,3,4,3,14]
 | _ => []
noncomputable def zfD : Code := Tryz.f94.body.getD .skip
noncomputable def zsc : List ResultVar := Tryz.f94.results.toList
def zmI (t1 t4 t5 t18 t19 t20 : AV) : List AV := ux 1 (t1 :: ux 2 (t4 :: t5 :: ux 12 (t18 :: t19 :: t20 :: ux 41 [])))
def zC5 : List Bool := zdy 5
noncomputable def zC0 : Code := zap [1, 1, 1, 1, 0, 1, 0, 0] zfD
def zCY (K : Kt) : AExit → List AV → zaa → Prop := zaq tP zdy [1, 1, 1, 1, 0, 1, 0] zfD (zax tP zsc K)
def zsa (t1 t4 t5 t18 t19 t20 : AV) (H : zaa) (K : Kt) : Prop := ALoop tP zC0 (zCY K) (zmI t1 t4 t5 t18 t19 t20) H
def zr8 (t1 t4 t5 t38 t39 t40 : AV) : List AV := ux 1 (t1 :: ux 2 (t4 :: t5 :: ux 32 (t38 :: t39 :: t40 :: ux 21 [])))
def zsb : List Bool := zdy 11
noncomputable def zmH : Code := zap [1, 1, 1, 1, 1, 0, 1, 0, 0] zfD
def zr5 (K : Kt) : AExit → List AV → zaa → Prop := zaq tP zdy [1, 1, 1, 1, 1, 0, 1, 0] zfD (zax tP zsc K)
def zr9 (t1 t4 t5 t38 t39 t40 : AV) (H : zaa) (K : Kt) : Prop := ALoop tP zmH (zr5 K) (zr8 t1 t4 t5 t38 t39 t40) H
def zC1 (t1 t4 t5 t38 t39 t40 t45 t46 t47 : AV) : List AV := ux 1 (t1 :: ux 2 (t4 :: t5 :: ux 32 (t38 :: t39 :: t40 :: ux 4 (t45 :: t46 :: t47 :: ux 14 []))))
noncomputable def zCZ : Code := zap [1, 1, 0, 0, 1, 1, 0, 0] zmH
def zCX (K : Kt) (Kb11 : Lt) : AExit → List AV → zaa → Prop := zaq tP zdy [1, 1, 0, 0, 1, 1, 0] zmH (zby zsb Kb11 (zr5 K))
def zC2 (t1 t4 t5 t38 t39 t40 t45 t46 t47 : AV) (H : zaa) (K : Kt) (Kb11 : Lt) : Prop := ALoop tP zCZ (zCX K Kb11) (zC1 t1 t4 t5 t38 t39 t40 t45 t46 t47) H
def zr6 (t1 t4 t5 t38 t39 t40 : AV) (H : zaa) (K : Kt) (Kb11 : Lt) : Prop :=
 zac .lss false t40 t39 fun t41 =>
 zag t41
 (zaj 8 t38 t40 fun t42 =>
 zad true 8 t42 H fun t43 =>
 zau [(.int .i64 0), (.int .i64 0), .snil, .snil, .snil, (.int .i64 0), (.int .i64 0), .snil] H fun t9 H =>
 zak 8 t9 t43 H fun H =>
 zaf 3 t9 fun t44 =>
 zad false 1 t44 H fun t45 =>
 zah 1 t45 fun t46 =>
 zC2 t1 t4 t5 t38 t39 t40 t45 t46 (.int .i64 0) H K Kb11)
 (zad false 1 t4 H fun t57 =>
 zaf 2 t1 fun t58 =>
 zad false 1 t58 H fun t59 =>
 zah 1 t59 fun t60 =>
 zac .eql false t57 t60 fun t61 =>
 K t61 H)
def zr7 (t1 t4 t5 t18 t19 t20 : AV) (H : zaa) (K : Kt) (Kb5 : Lt) : Prop :=
 zac .lss false t20 t19 fun t21 =>
 zag t21
 (zaj 7 t18 t20 fun t22 =>
 zad true 7 t22 H fun t23 =>
 zau [(.str []), .snil, .snil, (.int .i64 0), (.int .i64 0), .snil, (.int .i64 0)] H fun t7 H =>
 zak 7 t7 t23 H fun H =>
 zaf 1 t7 fun t25 =>
 zad false 1 t25 H fun t26 =>
 aCallV tP t5 [t26] H fun t27 H =>
 aUn .not t27 fun t28 =>
 zab t28 false H (fun K' => K' t5 H) fun t30 H =>
 zab t28 false H (fun K' => zaf 2 t7 (K' · H)) fun t31 H =>
 zab t28 false H (fun K' => zad false 1 t31 H (K' · H)) fun t32 H =>
 zab t28 false H (fun K' => aCallV tP t30 [t32] H K') fun t33 H =>
 zab t28 false H (fun K' => aUn .not t33 (K' · H)) fun t34 H =>
 zai t28 (.bool true) t34 fun t35 =>
 zag t35
 (K (.bool false) H)
 (zac .add false t20 (.int .i64 1) fun t36 =>
 Kb5 (zmI t1 t4 t5 t18 t19 t36) H))
 (zaf 3 t1 fun t37 =>
 zad false 1 t37 H fun t38 =>
 zah 1 t38 fun t39 =>
 zr9 t1 t4 t5 t38 t39 (.int .i64 0) H K)
def zr4 (t0 : AV) (H : zaa) (K : Kt) : Prop :=
 zao t0 H fun t1 H =>
 zaf 2 t1 fun t12 =>
 zad false 1 t12 H fun t13 =>
 zah 1 t13 fun t14 =>
 zbm 1 [(.bool false)] t14 t14 H fun t15 H =>
 zau [.snil] H fun t3 H =>
 zak 1 t3 t15 H fun H =>
 zau [(.int .i64 0)] H fun t4 H =>
 zak 1 t4 (.int .i64 0) H fun H =>
 zbQ ztD [t3, t4] fun t16 =>
 zaf 1 t1 fun t17 =>
 zad false 1 t17 H fun t18 =>
 zah 1 t18 fun t19 =>
 zsa t1 t4 t16 t18 t19 (.int .i64 0) H K
theorem zC3 {t1 t4 t5 t38 t39 t40 : AV} {H : zaa} {K : Kt} (Inv : Nat → AV → zaa → Prop) (n : Nat) (h0 : HSc H → Inv n t40 H)
  (round : Rd1 (fun t40 => zr8 t1 t4 t5 t38 t39 t40) (fun t40 => fun H Kb11 => zr6 t1 t4 t5 t38 t39 t40 H K Kb11) H Inv) : zr9 t1 t4 t5 t38 t39 t40 H K :=
 lp1 (M := zdy) zsb t40 (by kernel_rfl) Inv n h0 round
theorem zC4 {t1 t4 t5 t18 t19 t20 : AV} {H : zaa} {K : Kt} (Inv : Nat → AV → zaa → Prop) (n : Nat) (h0 : HSc H → Inv n t20 H)
  (round : Rd1 (fun t20 => zmI t1 t4 t5 t18 t19 t20) (fun t20 => fun H Kb5 => zr7 t1 t4 t5 t18 t19 t20 H K Kb5) H Inv) : zsa t1 t4 t5 t18 t19 t20 H K :=
 lp1 (M := zdy) zC5 t20 (by kernel_rfl) Inv n h0 round
theorem zC6 {t0 : AV} {H : zaa} {K : Kt} (h : HSc H → zr4 t0 H K) : ACalls tP zj3 [t0] H K :=
 zal (M := zdy) Tryz.func94 (c := zfD) (by kernel_rfl) (fun hs => Eq.mpr (by kernel_rfl) (h hs))
def ziQ : Nat → List Bool
 | 6 => rl false [4,2,9,3,25]
 | _ => []
noncomputable def zmJ : Code := Tryz.f95.body.getD .skip
noncomputable def zDc : List ResultVar := Tryz.f95.results.toList
def zmK (t4 t5 t15 t16 t17 : AV) : List AV := ux 4 (t4 :: t5 :: ux 9 (t15 :: t16 :: t17 :: ux 25 []))
def zDa : List Bool := ziQ 6
noncomputable def zC8 : Code := zap [1, 1, 1, 1, 1, 0, 1, 0, 0] zmJ
def zC7 (K : Kt) : AExit → List AV → zaa → Prop := zaq tP ziQ [1, 1, 1, 1, 1, 0, 1, 0] zmJ (zax tP zDc K)
def zsf (t4 t5 t15 t16 t17 : AV) (H : zaa) (K : Kt) : Prop := ALoop tP zC8 (zC7 K) (zmK t4 t5 t15 t16 t17) H
def zse (t4 t5 t15 t16 t17 : AV) (H : zaa) (K : Kt) (Kb6 : Lt) : Prop :=
 zac .lss false t17 t16 fun t18 =>
 zag t18
 (zaj 7 t15 t17 fun t19 =>
 zad true 7 t19 H fun t20 =>
 zau [(.str []), .snil, .snil, (.int .i64 0), (.int .i64 0), .snil, (.int .i64 0)] H fun t7 H =>
 zak 7 t7 t20 H fun H =>
 zad false 1 t4 H fun t21 =>
 zaf 1 t7 fun t22 =>
 zad false 1 t22 H fun t23 =>
 aCallV tP t21 [t23, (.bool true)] H fun t24 H =>
 zad false 1 t4 H fun t25 =>
 zaf 2 t7 fun t26 =>
 zad false 1 t26 H fun t27 =>
 aCallV tP t25 [t27, (.bool true)] H fun t28 H =>
 zad false 1 t5 H fun t29 =>
 zaf 6 t7 fun t30 =>
 zad false 1 t30 H fun t31 =>
 aCallV tP t29 [t31] H fun t32 H =>
 aUn .not t32 fun t33 =>
 zag t33
 (K (.bool false) H)
 (zad false 1 t4 H fun t34 =>
 zaf 1 t7 fun t35 =>
 zad false 1 t35 H fun t36 =>
 aCallV tP t34 [t36, (.bool false)] H fun t37 H =>
 zad false 1 t4 H fun t38 =>
 zaf 2 t7 fun t39 =>
 zad false 1 t39 H fun t40 =>
 aCallV tP t38 [t40, (.bool false)] H fun t41 H =>
 zac .add false t17 (.int .i64 1) fun t42 =>
 Kb6 (zmK t4 t5 t15 t16 t42) H))
 (K (.bool true) H)
def zsd (t0 : AV) (H : zaa) (K : Kt) : Prop :=
 zao t0 H fun t1 H =>
 zaf 2 t1 fun t8 =>
 zad false 1 t8 H fun t9 =>
 zah 1 t9 fun t10 =>
 zbm 1 [(.bool false)] t10 t10 H fun t11 H =>
 zau [.snil] H fun t3 H =>
 zak 1 t3 t11 H fun H =>
 zbQ ztE [t3] fun t12 =>
 zau [.nilfn] H fun t4 H =>
 zak 1 t4 t12 H fun H =>
 zau [.nilfn] H fun t5 H =>
 zbQ ztF [t1, t3, t4, t5] fun t13 =>
 zak 1 t5 t13 H fun H =>
 zaf 1 t1 fun t14 =>
 zad false 1 t14 H fun t15 =>
 zah 1 t15 fun t16 =>
 zsf t4 t5 t15 t16 (.int .i64 0) H K
theorem zC9 {t4 t5 t15 t16 t17 : AV} {H : zaa} {K : Kt} (Inv : Nat → AV → zaa → Prop) (n : Nat) (h0 : HSc H → Inv n t17 H)
  (round : Rd1 (fun t17 => zmK t4 t5 t15 t16 t17) (fun t17 => fun H Kb6 => zse t4 t5 t15 t16 t17 H K Kb6) H Inv) : zsf t4 t5 t15 t16 t17 H K :=
 lp1 (M := ziQ) zDa t17 (by kernel_rfl) Inv n h0 round
theorem zDb {t0 : AV} {H : zaa} {K : Kt} (h : HSc H → zsd t0 H K) : ACalls tP zj4 [t0] H K :=
 zal (M := ziQ) Tryz.func95 (c := zmJ) (by kernel_rfl) (fun hs => Eq.mpr (by kernel_rfl) (h hs))
def zd3 : Nat → List Bool
 | 3 => rl false [1,1,1,1,12,3,30]
 | 9 => rl false [3,1,24,3,18]
 | _ => []
noncomputable def zfE : Code := Tryz.f96.body.getD .skip
noncomputable def zsl : List ResultVar := Tryz.f96.results.toList
def zmL (t1 t3 t16 t17 t18 : AV) : List AV := ux 1 (t1 :: ux 1 (t3 :: ux 12 (t16 :: t17 :: t18 :: ux 30 [])))
def zDj : List Bool := zd3 3
noncomputable def zDf : Code := zap [1, 1, 0, 1, 0, 0] zfE
def zDd (K : Kt) : AExit → List AV → zaa → Prop := zaq tP zd3 [1, 1, 0, 1, 0] zfE (zax tP zsl K)
def zsj (t1 t3 t16 t17 t18 : AV) (H : zaa) (K : Kt) : Prop := ALoop tP zDf (zDd K) (zmL t1 t3 t16 t17 t18) H
def zmM (t3 t28 t29 t30 : AV) : List AV := ux 3 (t3 :: ux 24 (t28 :: t29 :: t30 :: ux 18 []))
def zDk : List Bool := zd3 9
noncomputable def zDg : Code := zap [1, 1, 1, 0, 1, 0, 0] zfE
def zDe (K : Kt) : AExit → List AV → zaa → Prop := zaq tP zd3 [1, 1, 1, 0, 1, 0] zfE (zax tP zsl K)
def zsk (t3 t28 t29 t30 : AV) (H : zaa) (K : Kt) : Prop := ALoop tP zDg (zDe K) (zmM t3 t28 t29 t30) H
def zsi (t3 t28 t29 t30 : AV) (H : zaa) (K : Kt) (Kb9 : Lt) : Prop :=
 zac .lss false t30 t29 fun t31 =>
 zag t31
 (zaj 7 t28 t30 fun t33 =>
 zad true 7 t33 H fun t34 =>
 zau [(.str []), .snil, .snil, (.int .i64 0), (.int .i64 0), .snil, (.int .i64 0)] H fun t7 H =>
 zak 7 t7 t34 H fun H =>
 zaf 0 t7 fun t35 =>
 zad false 1 t35 H fun t36 =>
 zac .eql false t36 (.str []) fun t37 =>
 zab t37 true H (fun K' => K' t3 H) fun t39 H =>
 zab t37 true H (fun K' => za3 t39 (K' · H)) fun t40 H =>
 zab t37 true H (fun K' => zaf 4 t40 (K' · H)) fun t41 H =>
 zab t37 true H (fun K' => zad false 1 t41 H (K' · H)) fun t42 H =>
 zab t37 true H (fun K' => K' t30 H) fun t43 H =>
 zab t37 true H (fun K' => zaj 1 t42 t43 (K' · H)) fun t44 H =>
 zab t37 true H (fun K' => zad false 1 t44 H (K' · H)) fun t45 H =>
 zab t37 true H (fun K' => zac .neq false t45 (.int .i64 1) (K' · H)) fun t46 H =>
 zai t37 t46 (.bool false) fun t47 =>
 zag t47
 (K (.bool false) H)
 (zac .add false t30 (.int .i64 1) fun t48 =>
 Kb9 (zmM t3 t28 t29 t48) H))
 (K (.bool true) H)
def zsh (t1 t3 t16 t17 t18 : AV) (H : zaa) (K : Kt) (Kb3 : Lt) : Prop :=
 zac .lss false t18 t17 fun t19 =>
 zag t19
 (zaj 8 t16 t18 fun t20 =>
 zad true 8 t20 H fun t21 =>
 zau [(.int .i64 0), (.int .i64 0), .snil, .snil, .snil, (.int .i64 0), (.int .i64 0), .snil] H fun t5 H =>
 zak 8 t5 t21 H fun H =>
 zad true 8 t5 H fun t23 =>
 ACalls tP ztG [t3, t23] H fun t24 H =>
 aUn .not t24 fun t25 =>
 zag t25
 (K (.bool false) H)
 (zac .add false t18 (.int .i64 1) fun t26 =>
 Kb3 (zmL t1 t3 t16 t17 t26) H))
 (zaf 1 t1 fun t27 =>
 zad false 1 t27 H fun t28 =>
 zah 1 t28 fun t29 =>
 zsk t3 t28 t29 (.int .i64 0) H K)
def zsg (t0 : AV) (H : zaa) (K : Kt) : Prop :=
 zao t0 H fun t1 H =>
 zae H (fun K' => zam true 4 t1 H (K' · H)) fun t8 =>
 zae H (fun K' => zaf 1 t1 (K' · H)) fun t9 =>
 zae H (fun K' => zam false 1 t9 H (K' · H)) fun t10 =>
 zae H (fun K' => zah 1 t10 (K' · H)) fun t11 =>
 zbm 8 [(.int .i64 0)] t11 t11 H fun t12 H =>
 zae H (fun K' => zav [.snil, .snil, .snil, .snil, .snil] [(0, 4), (4, 1)] [(0, t8), (1, t12)] (K' · H)) fun t13 =>
 zao t13 H fun t14 H =>
 zae H (fun K' => K' t14 H) fun t3 =>
 zaf 3 t1 fun t15 =>
 zad false 1 t15 H fun t16 =>
 zah 1 t16 fun t17 =>
 zsj t1 t3 t16 t17 (.int .i64 0) H K
theorem zDi {t3 t28 t29 t30 : AV} {H : zaa} {K : Kt} (Inv : Nat → AV → zaa → Prop) (n : Nat) (h0 : HSc H → Inv n t30 H)
  (round : Rd1 (fun t30 => zmM t3 t28 t29 t30) (fun t30 => fun H Kb9 => zsi t3 t28 t29 t30 H K Kb9) H Inv) : zsk t3 t28 t29 t30 H K :=
 lp1 (M := zd3) zDk t30 (by kernel_rfl) Inv n h0 round
theorem zDh {t1 t3 t16 t17 t18 : AV} {H : zaa} {K : Kt} (Inv : Nat → AV → zaa → Prop) (n : Nat) (h0 : HSc H → Inv n t18 H)
  (round : Rd1 (fun t18 => zmL t1 t3 t16 t17 t18) (fun t18 => fun H Kb3 => zsh t1 t3 t16 t17 t18 H K Kb3) H Inv) : zsj t1 t3 t16 t17 t18 H K :=
 lp1 (M := zd3) zDj t18 (by kernel_rfl) Inv n h0 round
theorem zDl {t0 : AV} {H : zaa} {K : Kt} (h : HSc H → zsg t0 H K) : ACalls tP zj5 [t0] H K :=
 zal (M := zd3) Tryz.func96 (c := zfE) (by kernel_rfl) (fun hs => Eq.mpr (by kernel_rfl) (h hs))
end Go.Proofs.YtacebbdfgbfgiaaGreat

namespace Go.Proofs.YtacebbdfgbfgiaaGreat
open Go Go.Abs
set_option maxRecDepth 8000
def d4 (data : List Dat) : AV := .agg [.sl (data.map Dat.cs) .none, .snil, .snil, .snil]
section
variable {H : zaa} {K : Kt} (data : List Dat)
theorem zvm (hK : K (.bool true) H) : ACalls tP zj0 [d4 data] H K := by
 refine ACalls.out (zCr fun hs => ?_)
 simp [zrL, d4]
 refine ⟨rfl, ACalls.wk (args' := [.sl (VT.css []) .none, .fn zoa [.ptr H.length 0]]) ?_ ⟨.atom .snil, .atom (.refl _), trivial⟩⟩
 refine zi7 [] (by simp) _ _ _ (by simp [AV.sc, AV.scV, AV.scA, AV.scB]) (fun _ H' => H' = H ++ [.cells [.sl (data.map Dat.cs) .none, .snil, .snil, .snil]]) rfl (fun i h => by simp at h) ?_
 rintro H' rfl
 simp
 exact Out.bool rfl (Nat.le_refl _) hs hK
theorem zs3 (hK : K (.bool true) H) : ACalls tP zj1 [d4 data] H K := by
 refine ACalls.out (zCL fun hs => ?_)
 simp [zrR, d4]
 refine zCJ (Inv := fun _ _ t H' => t = .int .i64 0 ∧ H' = _) 0 (fun _ => ⟨rfl, rfl⟩) ?_
 rintro q t4 t H' ⟨rfl, rfl⟩ _ _ _ Kb hKb
 simp [zrS]
 exact Out.bool rfl (Nat.le_refl _) hs hK
theorem zvg (hK : K (.bool true) H) : ACalls tP zj2 [d4 data] H K := by
 refine ACalls.out (zCW fun hs => ?_)
 simp [zrV, d4, zbm]
 refine ⟨⟨rfl, rfl⟩, zCU (Inv := fun _ t H' => t = .int .i64 0 ∧ H' = _) 0 (fun _ => ⟨rfl, rfl⟩) ?_⟩
 rintro q t H' ⟨rfl, rfl⟩ _ _ _ Kb hKb
 simp [zrY]
 refine zCT (Inv := fun _ t H' => t = .int .i64 0 ∧ H' = _) 0 (fun _ => ⟨rfl, rfl⟩) ?_
 rintro q t H' ⟨rfl, rfl⟩ _ _ _ Kb2 hKb2
 simp [zrX, Nat.add_assoc]
 exact Out.bool rfl (Nat.le_refl _) hs hK
theorem zsT (hK : K (.bool true) H) : ACalls tP zj3 [d4 data] H K := by
 refine ACalls.out (zC6 fun hs => ?_)
 simp [zr4, d4, zbm]
 refine ⟨⟨rfl, rfl⟩, zC4 (Inv := fun _ t H' => t = .int .i64 0 ∧ H' = _) 0 (fun _ => ⟨rfl, rfl⟩) ?_⟩
 rintro q t H' ⟨rfl, rfl⟩ _ _ _ Kb hKb
 simp [zr7]
 refine zC3 (Inv := fun _ t H' => t = .int .i64 0 ∧ H' = _) 0 (fun _ => ⟨rfl, rfl⟩) ?_
 rintro q t H' ⟨rfl, rfl⟩ _ _ _ Kb2 hKb2
 simp [zr6, Nat.add_assoc]
 exact Out.bool rfl (Nat.le_refl _) hs hK
theorem zuq (hK : K (.bool true) H) : ACalls tP zj4 [d4 data] H K := by
 refine ACalls.out (zDb fun hs => ?_)
 simp [zsd, d4, zbm]
 refine ⟨rfl, ⟨rfl, rfl, rfl, rfl⟩, zC9 (Inv := fun _ t H' => t = .int .i64 0 ∧ H' = _) 0 (fun _ => ⟨rfl, rfl⟩) ?_⟩
 rintro q t H' ⟨rfl, rfl⟩ _ _ _ Kb hKb
 simp [zse]
 exact Out.bool rfl (Nat.le_refl _) hs hK
theorem zte (hK : K (.bool true) H) : ACalls tP zj5 [d4 data] H K := by
 refine ACalls.out (zDl fun hs => ?_)
 simp [zsg, d4, zbm, zav, zaV]
 refine zDh (Inv := fun _ t H' => t = .int .i64 0 ∧ H' = _) 0 (fun _ => ⟨rfl, rfl⟩) ?_
 rintro q t H' ⟨rfl, rfl⟩ _ _ _ Kb hKb
 simp [zsh]
 refine zDi (Inv := fun _ t H' => t = .int .i64 0 ∧ H' = _) 0 (fun _ => ⟨rfl, rfl⟩) ?_
 rintro q t H' ⟨rfl, rfl⟩ _ _ _ Kb2 hKb2
 simp [zsi]
 exact Out.bool rfl (Nat.le_refl _) hs hK
theorem zBk (hB : ziV data) (hl : data.length ≤ 1000000) (hK : K (.bool (zba data)) H) : ACalls tP zjW [d4 data] H K := by
 refine ACalls.out (zBl fun hs => ?_)
 simp [zrp, d4]
 refine zCo data hB hl _ _ ?_
 cases hd : zba data with
 | false =>
  rw [hd] at hK
  simp
  exact Out.bool rfl (Nat.le_refl _) hs hK
 | true =>
  rw [hd] at hK
  simp
  refine zvm data ?_
  simp
  refine zs3 data ?_
  simp
  refine zvg data ?_
  simp
  refine zsT data ?_
  simp
  refine zuq data ?_
  simp
  refine zte data ?_
  exact Out.bool rfl (Nat.le_refl _) hs hK
def zbC (data : List Dat) (t : VT) : Bool := zba data && za6 data 0 t
end
end Go.Proofs.YtacebbdfgbfgiaaGreat
namespace Go.Proofs.YtacebbdfgbfgiaaGreat
open Go Go.Abs
set_option maxRecDepth 8000
structure DOk (data : List Dat) : Prop where
 ok : zba data = true
 k : za8 data
theorem zee {data : List Dat} (h : za8 data) : data.length ≤ 1000000 ∧ (∀ d ∈ data, ∀ c ∈ d.cons, c.args.length ≤ 1000 ∧ ∀ x ∈ c.args, x.nodes ≤ 1000) ∧ ∀ d ∈ data, d.cons.length ≤ 1000000 := by
 obtain ⟨h1, h2⟩ := h
 refine ⟨by omega, fun D hD c hc => ?_, fun D hD => ?_⟩
 ·obtain ⟨_, h3, h4⟩ := h2 D hD
  obtain ⟨_, h5, h6⟩ := h4 c hc
  exact ⟨by omega, fun x hx => by have := h6 x hx; omega⟩
 ·obtain ⟨_, h3, h4⟩ := h2 D hD
  omega
section
variable {data : List Dat} (hD : DOk data)
theorem i0 (n : Nat) : ((n : Int) == 0) = (n == 0) := by
 rw [Bool.eq_iff_iff]; simp
end
theorem zox : ∀ (a : List VT) (b : List Bool) (x : VT) (y : Bool), a.length = b.length → pick (a ++ [x]) (b ++ [y]) = pick a b ++ (if y then [] else [x])
 | [], [], x, y, _ => by cases y <;> rfl
 | [], _ :: _, _, _, h => by cases h
 | _ :: _, [], _, _, h => by cases h
 | c :: a, d :: b, x, y, h => by
  have := zox a b x y (by simpa using h)
  cases d <;> simp [pick, this]
theorem zoy {l : List VT} {bs : List Bool} {i : Nat} (h : l.length = bs.length) (hi : i < l.length) : pick (l.take (i + 1)) (bs.take (i + 1)) = pick (l.take i) (bs.take i) ++ (if bs[i]'(by omega) then [] else [l[i]]) := by
 rw [List.take_succ_eq_append_getElem hi, List.take_succ_eq_append_getElem (by omega : i < bs.length)]
 exact zox _ _ _ _ (by simp; omega)
theorem zow : ∀ (a : List VT) (b : List Bool), (pick a b).length ≤ a.length
 | [], b => by simp [pick]
 | _ :: _, [] => by simp [pick]
 | c :: a, d :: b => by
  have := zow a b
  cases d <;> simp [pick] <;> omega
theorem zeM {l : List Bool} {i : Nat} (h : i < (zbd l).length) : (zbd l)[i] = [.bool (l[i]'(by simpa [zbd] using h))] := by simp [zbd]
theorem zdc (l : List Bool) : (zbd l).length = l.length := by simp [zbd]
theorem zka {data : List Dat} {k n : Int} {ks : List VT} {c : Int} {l : List VT} (hk : za8 data) (hf : zaU data (.mk k n ks) c = some l) :
  ∃ bs, l.length = bs.length ∧ l.length ≤ 8 ∧ zbN data (.mk k n ks) c = some (pick l bs) ∧ (∀ x ∈ l, x.nodes ≤ 200) ∧ k = 5 ∧
   (∀ H K, K (.sl (zbd bs) .none) H → ACalls tP zdl [.sl (data.map Dat.cs) .none, .int .i64 n, .int .i64 c] H K) ∧
   (∀ H K, K (.sl (zbd bs) .none) H → ACalls tP zfh [.sl (data.map Dat.cs) .none, .int .i64 n, .int .i64 c] H K) := by
 obtain ⟨k5, n0, c0, hn, hc, hv, rfl, h200⟩ := zfT hf
 obtain ⟨f1, f2, f3⟩ := zee hk
 have hd := List.getElem_mem hn
 have hcm := List.getElem_mem hc
 obtain ⟨g1, g2⟩ := f2 _ hd _ hcm
 have g3 := f3 _ hd
 have h8 := ((hk.2 _ hd).2.2 _ hcm).2.1
 refine ⟨zco n.toNat data[n.toNat] (data[n.toNat]).cons[c.toNat], by simp [zco], by simpa using h8, ?_, h200, k5, fun H K hK => ?_, fun H K hK => ?_⟩
 ·simp [zbN, hf, zoG, hn, hc, List.getD_eq_getElem?_getD, VT.num]
 ·have := zqZ data n.toNat c.toNat hn hc f1 g3 (by omega) (fun x hx => by have := g2 x hx; omega) H K (by simpa [zbd, zco, Function.comp_def] using hK)
  rwa [Int.toNat_of_nonneg n0, Int.toNat_of_nonneg c0] at this
 ·have := zCg data n.toNat c.toNat hn hc f1 g3 (by omega) (fun x hx => by have := g2 x hx; omega) H K hK
  rwa [Int.toNat_of_nonneg n0, Int.toNat_of_nonneg c0] at this
theorem zov {data : List Dat} {t : VT} {c : Int} (hf : zaU data t c = none) : zbN data t c = none := by simp [zbN, hf]
theorem zB9 (data : List Dat) (hk : za8 data) (t : VT) (ht : t.nodes ≤ 1000) (c : Int) (H : zaa) (K : Kt) (hK : K (zbM (zbN data t c)) H) :
  ACalls tP zjY [.sl (data.map Dat.cs) .none, .agg t.cs, .int .i64 c] H K := by
 refine ACalls.out (zB7 fun hs => ?_)
 obtain ⟨f1, f2, f3⟩ := zee hk
 obtain ⟨k, n, ks⟩ := t
 simp [zrE, VT.cs, Nat.add_assoc]
 refine zlj data f1 f2 f3 (.mk k n ks) ht c _ _ ?_
 cases hf : zaU data (.mk k n ks) c with
 | none =>
  rw [zov hf] at hK
  simp [zbM]
  refine ⟨⟨rfl, rfl⟩, ?_⟩
  exact Out.tup (bs := [.sl [] .none, .bool false]) hs hK ⟨zcw, zaM rfl rfl, trivial⟩
 | some l =>
  obtain ⟨bs, hlb, hl8, hpay, h200, k5, hsc, _⟩ := zka hk hf
  rw [hpay] at hK
  simp [zbM]
  refine hsc _ _ ?_
  simp [zdc]
  unfold ziF
  refine ALoop.own 10 zaK 3 rfl ?_
  have hl1 : (H ++ [AB.cells [AV.int IntKind.i64 k, AV.int IntKind.i64 n, AV.sl (VT.css ks) Tok.none]]).length = H.length + 1 := by simp
  rw [hl1]
  show ziF (.sl (VT.css l) .none) (.sl [] (.own (H.length + 1))) (.sl (zbd bs) .none) (.int .i64 bs.length) (.int .i64 0) (H ++ [.cells [.int .i64 k, .int .i64 n, .sl (VT.css ks) .none]] ++ [.perm zaK 3 0]) (Out H.length K)
  have hperm : ∀ m, HSc (H ++ [.cells [.int .i64 k, .int .i64 n, .sl (VT.css ks) .none], .perm zaK 3 m]) := fun m => hs.append (by simp [AB.sc, AV.scA, AV.scB])
  refine zB5 (Inv := fun q t10 t28 H' => ∃ i : Nat, i ≤ bs.length ∧ q = bs.length - i ∧ t28 = .int .i64 i ∧ t10 = .sl (VT.css (pick (l.take i) (bs.take i))) (.own (H.length + 1)) ∧ H' = H ++ [.cells [.int .i64 k, .int .i64 n, .sl (VT.css ks) .none], .perm zaK 3 (pick (l.take i) (bs.take i)).length]) bs.length ?_ ?_
  ·intro _; exact ⟨0, by omega, by omega, rfl, by simp [pick, VT.css], by simp [pick]⟩
  ·rintro q t10 t28 H' ⟨i, hi, rfl, rfl, rfl, rfl⟩ hsc' hlen hsF Kb hKb
   by_cases hlt : i < bs.length
   ·have hps := zoy hlb (by omega : i < l.length)
    have hpl := zow (l.take i) (bs.take i)
    rw [List.length_take] at hpl
    have hnext : ∀ J, ziE (.sl (VT.css l) .none) (.sl (VT.css (pick (l.take (i + 1)) (bs.take (i + 1)))) (.own (H.length + 1))) (.sl (zbd bs) .none) (.int .i64 bs.length) (.int .i64 i)
      (H ++ .cells [.int .i64 k, .int .i64 n, .sl (VT.css ks) .none] :: .perm zaK 3 (pick (l.take (i + 1)) (bs.take (i + 1))).length :: J) (Out H.length K) Kb := by
     intro J
     simp [ziE, zrF]
     rw [zan (by omega) (by omega)]
     refine hKb _ _ ⟨bs.length - (i + 1), by omega, Back.at (J := J) (H2 := H ++ [.cells [.int .i64 k, .int .i64 n, .sl (VT.css ks) .none], .perm zaK 3 (pick (l.take (i + 1)) (bs.take (i + 1))).length]) (by simp) (by simp) (hperm _) ?_ ⟨_, _, rfl, i + 1, by omega, rfl, by simp, rfl, rfl⟩⟩
     simp [ziD, AV.sc, AV.scV, AV.scA, AV.scB]
    simp [zmo, zdc, hlt, zeM]
    cases hbi : bs[i] with
    | true =>
     rw [hbi] at hps
     simp at hps
     simp
     have := hnext []
     rw [hps] at this
     exact this
    | false =>
     rw [hbi] at hps
     simp only [Bool.false_eq_true, if_false] at hps
     simp [show i < l.length by omega]
     rw [zdD]
     simp [zar, zaW, zaF]
     have := hnext []
     rw [hps] at this
     rw [show VT.css (pick (l.take i) (bs.take i) ++ [l[i]]) = VT.css (pick (l.take i) (bs.take i)) ++ [l[i].cs] by simp [VT.css_map], show (pick (l.take i) (bs.take i) ++ [l[i]]).length = (pick (l.take i) (bs.take i)).length + 1 by simp] at this
     exact ⟨⟨by omega, by omega⟩, this⟩
   ·obtain rfl : i = bs.length := by omega
    rw [List.take_of_length_le (by omega), List.take_length] at *
    simp [zmo]
    refine ⟨⟨rfl, rfl⟩, ?_⟩
    exact Out.tup (bs := [.sl (VT.css (pick l bs)) .none, .bool true]) hs hK ⟨slV, zaM rfl rfl, trivial⟩
def pos (v : Bool) (bs : List Bool) (i : Nat) : List Nat := (List.range i).filter fun j => bs.getD j false == v
def zay (l : List Nat) : List (List AV) := l.map fun (n : Nat) => [AV.int .i64 (Int.ofNat n)]
theorem zfl (v : Bool) (bs : List Bool) (i : Nat) (h : i < bs.length) : pos v bs (i + 1) = pos v bs i ++ (if bs[i] == v then [i] else []) := by
 unfold pos
 rw [List.range_succ, List.filter_append]
 congr 1
 simp [List.filter_cons, List.getD_eq_getElem?_getD, h]
theorem zdn (v : Bool) (bs : List Bool) (i : Nat) : (pos v bs i).length ≤ i := by
 have := List.length_filter_le (fun j => bs.getD j false == v) (List.range i)
 simpa [pos] using this
theorem zkd {v : Bool} {bs : List Bool} {i j : Nat} (h : j ∈ pos v bs i) : j < i := by
 simp [pos] at h
 exact h.1
theorem zkc {l : List VT} {bs : List Bool} (h : l.length = bs.length) (d : VT) : ∀ i, i ≤ l.length → pick (l.take i) (bs.take i) = (pos false bs i).map fun j => l.getD j d
 | 0, _ => by simp [pick, pos]
 | i + 1, hi => by
  rw [zoy h (by omega), zfl false bs i (by omega), List.map_append, zkc h d i (by omega)]
  congr 1
  cases hb : bs[i]'(by omega) <;> simp [List.getD_eq_getElem?_getD, show i < l.length by omega]
theorem zca (l : List Nat) : (zay l).length = l.length := by simp [zay]
theorem zj6 {l : List Nat} {i : Nat} (h : i < (zay l).length) : (zay l)[i] = [.int .i64 ((l[i]'(by simpa [zay] using h) : Nat) : Int)] := by simp [zay]
theorem zgs (l m : List Nat) : zay (l ++ m) = zay l ++ zay m := by simp [zay]
theorem zBh (data : List Dat) (hk : za8 data) (k n : Int) (ks : List VT) (ht : (VT.mk k n ks).nodes ≤ 1000) (c : Int) {l : List VT} {bs : List Bool} (hf : zaU data (.mk k n ks) c = some l)
  (hlb : l.length = bs.length) (hl8 : l.length ≤ 8) (hrec : ∀ H K, K (.sl (zbd bs) .none) H → ACalls tP zfh [.sl (data.map Dat.cs) .none, .int .i64 n, .int .i64 c] H K) (H : zaa) (K : Kt)
  (hK : K (.tup [.sl (zay (pos false bs bs.length)) .none, .sl (zay (pos true bs bs.length)) .none, .bool true]) H) :
  ACalls tP zjV [.sl (data.map Dat.cs) .none, .agg (VT.mk k n ks).cs, .int .i64 c] H K := by
 refine ACalls.out (zBf fun hs => ?_)
 obtain ⟨f1, f2, f3⟩ := zee hk
 simp [zrn, VT.cs, Nat.add_assoc]
 refine zpZ data f1 f2 f3 (.mk k n ks) ht c _ _ ?_
 rw [hf]
 simp [zbM]
 refine hrec _ _ ?_
 simp [zdc]
 unfold zit
 refine ALoop.own 11 zaS 1 rfl ?_
 refine ALoop.own 12 zaS 1 rfl ?_
 have hl1 : (H ++ [AB.cells [AV.int IntKind.i64 k, AV.int IntKind.i64 n, AV.sl (VT.css ks) Tok.none]]).length = H.length + 1 := by simp
 have hl2 : (H ++ [AB.cells [AV.int IntKind.i64 k, AV.int IntKind.i64 n, AV.sl (VT.css ks) Tok.none]] ++ [AB.perm zaS 1 0]).length = H.length + 2 := by simp
 rw [hl1, hl2]
 show zit (.sl [] (.own (H.length + 1))) (.sl [] (.own (H.length + 2))) (.sl (zbd bs) .none) (.int .i64 bs.length) (.int .i64 0) (H ++ [.cells [.int .i64 k, .int .i64 n, .sl (VT.css ks) .none]] ++ [.perm zaS 1 0] ++ [.perm zaS 1 0]) (Out H.length K)
 have hperm : ∀ m m2, HSc (H ++ [.cells [.int .i64 k, .int .i64 n, .sl (VT.css ks) .none], .perm zaS 1 m, .perm zaS 1 m2]) := fun m m2 => hs.append (by simp [AB.sc, AV.scA, AV.scB])
 refine zBd (Inv := fun q t11 t12 t30 H' => ∃ i : Nat, i ≤ bs.length ∧ q = bs.length - i ∧ t30 = .int .i64 i ∧ t11 = .sl (zay (pos false bs i)) (.own (H.length + 1)) ∧ t12 = .sl (zay (pos true bs i)) (.own (H.length + 2)) ∧
  H' = H ++ [.cells [.int .i64 k, .int .i64 n, .sl (VT.css ks) .none], .perm zaS 1 (pos false bs i).length, .perm zaS 1 (pos true bs i).length]) bs.length ?_ ?_
 ·intro _; exact ⟨0, by omega, by omega, rfl, by simp [pos, zay], by simp [pos, zay], by simp [pos]⟩
 ·rintro q t11 t12 t30 H' ⟨i, hi, rfl, rfl, rfl, rfl, rfl⟩ hsc' hlen hsF Kb hKb
  by_cases hlt : i < bs.length
  ·have hp1 := zfl false bs i hlt
   have hp2 := zfl true bs i hlt
   have hn1 := zdn false bs i
   have hn2 := zdn true bs i
   have hnext : zis (.sl (zay (pos false bs (i + 1))) (.own (H.length + 1))) (.sl (zay (pos true bs (i + 1))) (.own (H.length + 2))) (.sl (zbd bs) .none) (.int .i64 bs.length) (.int .i64 i)
     (H ++ [.cells [.int .i64 k, .int .i64 n, .sl (VT.css ks) .none], .perm zaS 1 (pos false bs (i + 1)).length, .perm zaS 1 (pos true bs (i + 1)).length]) (Out H.length K) Kb := by
    simp [zis, zro]
    rw [zan (by omega) (by omega)]
    refine hKb _ _ ⟨bs.length - (i + 1), by omega, Back.at (J := []) (H2 := H ++ [.cells [.int .i64 k, .int .i64 n, .sl (VT.css ks) .none], .perm zaS 1 (pos false bs (i + 1)).length, .perm zaS 1 (pos true bs (i + 1)).length]) (by simp) (by simp) (hperm _ _) ?_ ⟨_, _, _, rfl, i + 1, by omega, rfl, by simp, rfl, rfl, rfl⟩⟩
    simp [zir, AV.sc, AV.scV, AV.scA, AV.scB]
   cases hbi : bs[i] with
   | true =>
    rw [hbi] at hp1 hp2
    simp at hp1 hp2
    rw [hp1, hp2] at hnext
    simp [ziq, zdc, hlt, zeM, hbi, zaw, zbp, zaD, AV.pd, zar, zaW, zaF, zca]
    refine ⟨⟨by omega, by omega⟩, ?_⟩
    simpa [zgs, zay] using hnext
   | false =>
    rw [hbi] at hp1 hp2
    simp at hp1 hp2
    rw [hp1, hp2] at hnext
    simp [ziq, zdc, hlt, zeM, hbi, zaw, zbp, zaD, AV.pd, zar, zaW, zaF, zca]
    refine ⟨⟨by omega, by omega⟩, ?_⟩
    simpa [zgs, zay] using hnext
  ·obtain rfl : i = bs.length := by omega
   simp [ziq]
   refine ⟨⟨rfl, rfl, rfl⟩, ?_⟩
   exact Out.tup (bs := [.sl (zay (pos false bs bs.length)) .none, .sl (zay (pos true bs bs.length)) .none, .bool true]) hs hK ⟨slV, slV, zaM rfl rfl, trivial⟩
end Go.Proofs.YtacebbdfgbfgiaaGreat
namespace Go.Abs
open Go Go.RowKit
variable {P : Program} {B : Nat} {w : World} {G : Gh} {H : zaa}
theorem HRel.frz (h : HRel B w G H) {id : Nat} {cs : List AV} (hH : H[id]? = some (.cells cs)) :
  ∃ G', Ext B w G w G' ∧ HRel B w G' (H.set id .dead) ∧ ∃ b, G.μ[id]? = some (.blk b) ∧ G'.L b = cs.length ∧ ∃ (vs : Array Value) (e : TypeId), w.heap[b]? = some (.cells vs e (0, 0)) ∧ All2 (ARel w G) vs.toList cs := by
 have hlt : id < G.μ.length := by rw [h.len]; exact (List.getElem?_eq_some_iff.1 hH).1
 obtain ⟨gi, hgi⟩ : ∃ gi, G.μ[id]? = some gi := ⟨_, List.getElem?_eq_getElem hlt⟩
 have hok := h.ok id _ _ hH hgi
 cases gi with
 | gap => exact hok.elim
 | own v s n => exact hok.elim
 | blk b =>
  obtain ⟨hB, hL, vs, e, hw, hcs⟩ := hok
  have hl : vs.size = cs.length := by simpa using hcs.length
  have he : Ext B w G w ⟨fun x => if x = b then cs.length else G.L x, G.μ⟩ :=
   ⟨Nat.le_refl _, Below.refl _ _, fun x => by by_cases hx : x = b <;> simp [hx, hL], fun _ _ _ => rfl, fun _ gi h => ⟨gi, h, gi.le_refl⟩⟩
  refine ⟨_, he, ⟨by simp [h.len], ?_, h.dist, fun x hx => ?_, h.lt, h.base⟩, b, hgi, by simp, vs, e, hw, hcs⟩
  ·intro id' ab gi h1 h2
   by_cases hid : id' = id
   ·subst hid
    rw [List.getElem?_set_self (List.getElem?_eq_some_iff.1 hH).1] at h1
    cases h1
    have h2 : G.μ[id']? = some gi := h2
    rw [hgi] at h2
    cases h2
    exact ⟨vs, e, (0, 0), hw, by simp [hl]⟩
   ·rw [List.getElem?_set_ne (fun h => hid h.symm)] at h1
    refine (h.ok id' ab gi h1 h2).keep he (fun x hx => ⟨rfl, ?_⟩)
    have : ¬ x = b := fun hxb => hid (h.dist id' id gi _ b h2 hgi (by rw [hx, hxb]) rfl)
    simp [this]
  ·have := h.lt id _ b hgi rfl
   have h3 : ¬ x = b := by omega
   simp [h3, h.fresh x hx]
inductive FzA (id off len cap : Nat) (es : List (List AV)) : AV → AV → Prop
 | refl (a : AV) : FzA id off len cap es a a
 | ms : FzA id off len cap es (.ms id off len cap) (.sl es .none)
inductive FzT (id off len cap : Nat) (es : List (List AV)) : AV → AV → Prop
 | one {a b : AV} (h : FzA id off len cap es a b) : FzT id off len cap es a b
 | agg {asx bs : List AV} (h : All2 (FzA id off len cap es) asx bs) : FzT id off len cap es (.agg asx) (.agg bs)
theorem FzA.rel {id off len cap size : Nat} {cs : List AV} {es : List (List AV)} (hfit : off + len * size ≤ cs.length)
  (hp : zaD ((cs.drop off).take (len * size)) = some es.flatten) (hlen : es.length = len) (hsz : ∀ c ∈ es, c.length = size) (hcap : len ≤ cap) {G' : Gh} (hE : Ext B w G w G') {b : Nat} (hμ : G.μ[id]? = some (.blk b)) (hLb : G'.L b = cs.length)
  {vs0 : Array Value} {e : TypeId} (hw : w.heap[b]? = some (.cells vs0 e (0, 0))) (hcs : All2 (ARel w G) vs0.toList cs) {v : Value} {a b' : AV} (hab : FzA id off len cap es a b') (hr : ARel w G v a) : ARel w G' v b' := by
 cases hab with
 | refl a => exact hE.arel hr
 | ms =>
  obtain ⟨b2, hb2, rfl⟩ := hr
  rw [hμ] at hb2
  cases hb2
  show DRel w G'.L _ _
  subst hlen
  by_cases hne : es = []
  ·subst hne; exact .slE _ _
  ·have hl := hcs.length
   have hd := zcF ((hcs.drop off).take (es.length * size)) hp
   refine DRel.of_flat_at (zs := (vs0.toList.drop off).take (es.length * size)) hsz hne hcap (by rw [hLb]; exact hfit) (hd.mono fun _ _ => hE.drel) ?_
   intro j u hj
   rw [List.getElem?_take] at hj
   split at hj
   ·simp only [World.cell?, hw]
    simpa using hj
   ·cases hj
theorem ziY {R R' : Value → AV → Prop} {S : AV → AV → Prop} (h : ∀ v a b, S a b → R v a → R' v b) {vs : List Value} {asx bs : List AV} (hr : All2 R vs asx) (hs : All2 S asx bs) : All2 R' vs bs :=
 All2.of_get (hr.length.trans hs.length) fun i x y hx hy => by
  obtain ⟨a, ha, hxa⟩ := All2.get' hr hx
  obtain ⟨y', hy', hay⟩ := All2.get' hs ha
  rw [hy] at hy'
  cases hy'
  exact h _ _ _ hay hxa
theorem ACalls.frz {f : FuncId} {args args' : List AV} {K : Kt} (id off len cap size : Nat) (cs : List AV) (es : List (List AV)) (hH : H[id]? = some (.cells cs)) (hfit : off + len * size ≤ cs.length)
  (hp : zaD ((cs.drop off).take (len * size)) = some es.flatten) (hlen : es.length = len) (hsz : ∀ c ∈ es, c.length = size) (hcap : len ≤ cap) (ha : All2 (FzT id off len cap es) args args')
  (h : ACalls P f args' (H.set id .dead) K) : ACalls P f args H K := by
 intro B w G vs hR hv
 obtain ⟨G', hE, hR', b, hμ, hLb, vs0, e, hw, hcs⟩ := hR.frz hH
 have h1 : ∀ v a b, FzA id off len cap es a b → ARel w G v a → ARel w G' v b := fun v a b' hab hr => FzA.rel hfit hp hlen hsz hcap hE hμ hLb hw hcs hab hr
 have h2 : ∀ v a b, FzT id off len cap es a b → TRel w G v a → TRel w G' v b := by
  intro v a b' hab hr
  cases hab with
  | one hab =>
   cases hab with
   | refl a => exact hE.trel hr
   | ms => exact TRel.of_v (VRel.of_a (h1 _ _ _ .ms hr))
  | agg hab =>
   obtain ⟨us, hu, hr⟩ := hr
   exact ⟨us, hu, ziY h1 hr hab⟩
 refine (h B w G' vs hR' (ziY h2 hv ha)).mono fun e w' ⟨v, r, H', G'', k1, k2, k3, k4, k5⟩ => ⟨v, r, H', G'', k1, hE.trans k2, k3, k4, k5⟩
theorem AWp.frz {c : Code} {Q : AExit → List AV → zaa → Prop} {F : List AV} (id off len cap size : Nat) (cs : List AV) (es : List (List AV)) (id2 : Nat) (cs2 cs2' : List AV) (hH : H[id]? = some (.cells cs)) (hfit : off + len * size ≤ cs.length)
  (hp : zaD ((cs.drop off).take (len * size)) = some es.flatten) (hlen : es.length = len) (hsz : ∀ c ∈ es, c.length = size) (hcap : len ≤ cap) (hne : id ≠ id2) (hH2 : H[id2]? = some (.cells cs2)) (ha : All2 (FzA id off len cap es) cs2 cs2')
  (h : AWp P c Q F ((H.set id .dead).set id2 (.cells cs2'))) : AWp P c Q F H := by
 intro B w G a hR hF hd
 obtain ⟨G', hE, hR', b, hμ, hLb, vs0, e, hw, hcs⟩ := hR.frz hH
 have h1 : ∀ v a b, FzA id off len cap es a b → ARel w G v a → ARel w G' v b := fun v a b' hab hr => FzA.rel hfit hp hlen hsz hcap hE hμ hLb hw hcs hab hr
 have hlt2 : id2 < G.μ.length := by rw [hR.len]; exact (List.getElem?_eq_some_iff.1 hH2).1
 have hH2' : (H.set id .dead)[id2]? = some (.cells cs2) := by rw [List.getElem?_set_ne hne]; exact hH2
 have hR2 : HRel B w G' ((H.set id .dead).set id2 (.cells cs2')) := by
  refine ⟨by simp [hR'.len], ?_, hR'.dist, hR'.fresh, hR'.lt, hR'.base⟩
  intro i ab gi k1 k2
  by_cases hi : i = id2
  ·subst hi
   rw [List.getElem?_set_self (List.getElem?_eq_some_iff.1 hH2').1] at k1
   cases k1
   have hok := hR'.ok i _ _ hH2' k2
   have hgi : G.μ[i]? = some gi := by
    obtain ⟨gi0, hgi0⟩ : ∃ gi0, G.μ[i]? = some gi0 := ⟨_, List.getElem?_eq_getElem hlt2⟩
    have hok0 := hR.ok i _ _ hH2 hgi0
    obtain ⟨gi1, hg1, hle⟩ := hE.ids i gi0 hgi0
    rw [k2] at hg1
    cases hg1
    cases gi0 with
    | blk x => cases gi with
     | blk y => obtain rfl : x = y := hle; exact hgi0
     | own v s n => exact hle.elim
     | gap => exact hle.elim
    | own v s n => exact hok0.elim
    | gap => exact hok0.elim
   have hok0 := hR.ok i _ _ hH2 hgi
   cases gi with
   | blk x =>
    obtain ⟨k3, k4, vs, e', k5, k6⟩ := hok
    obtain ⟨_, _, vs1, e1, k7, k8⟩ := hok0
    rw [k5] at k7
    cases k7
    exact ⟨k3, k4, vs, e', k5, ziY h1 k8 ha⟩
   | own v s n => exact hok.elim
   | gap => exact hok.elim
  ·rw [List.getElem?_set_ne (fun h => hi h.symm)] at k1
   exact hR'.ok i ab gi k1 k2
 refine wp_mono (h B w G' a hR2 (hF.ext hE) hd) fun e a' w' hp => ?_
 obtain ⟨F', H', G'', e', rfl, k1, k2, k3, k4, k5⟩ := hp
 exact ⟨F', H', G'', e', rfl, hE.trans k1, k2, k3, k4, k5⟩
end Go.Abs
namespace Go.Abs
open Go Go.RowKit
variable {P : Program} {B : Nat} {w : World} {G : Gh} {H : zaa}
inductive OutW (H : zaa) (n : Nat) : AV → AV → Prop
 | one {a b : AV} (h : OutV H n a b) : OutW H n a b
 | rows (id e m : Nat) (cs : List AV) (rs : List (List (List AV))) (hid : n ≤ id) (hH : H[id]? = some (.vec e 1 m cs)) (hm : rs.length = m)
   (hall : All2 (OutV H n) cs (rs.map fun r => .sl r .none)) : OutW H n (.ov id m) (.sl (rs.map fun r => [.sl r .none]) .none)
theorem OutW.vrel (hH : HRel B w G H) {n : Nat} {v : Value} {a b : AV} (h : OutW H n a b) (hr : TRel w G v a) : VRel w (G.cut w n) v b := by
 cases h with
 | one h => exact h.vrel hH hr
 | rows id e m cs rs hid hHid hm hall =>
  obtain ⟨⟨a, cap0, rfl, _⟩, v', s0, n', hμ, _, heq⟩ := hr
  obtain ⟨rfl, rfl, ⟨xs, hown, hcs⟩, _⟩ := hH.ok id _ _ hHid hμ
  obtain rfl := heq rfl
  subst hm
  show DRel w (G.cut w n).L _ _
  by_cases hne : rs = []
  ·subst hne; exact .slE _ _
  ·have hown2 := hown
   obtain ⟨hl, hrow⟩ := hown2
   have hd : All2 (DRel w (G.cut w n).L) xs (rs.map fun r => AV.sl r .none) := All2.of_get (hcs.length.trans hall.length) fun i x y hx hy => by
    obtain ⟨a, ha, hxa⟩ := All2.get' hcs hx
    obtain ⟨y', hy', hay⟩ := All2.get' hall ha
    rw [hy] at hy'
    cases hy'
    obtain ⟨r, hr, rfl⟩ : ∃ r, rs[i]? = some r ∧ AV.sl r .none = y := by simpa using hy
    exact hay.vrel hH (TRel.of_v (VRel.of_a hxa))
   rcases hrow with ⟨h1, h2⟩ | ⟨g, cap, cur, h1, h2, h3, h4, h5, h6, h7⟩
   ·cases rs <;> simp_all
   ·simp at h1
    obtain ⟨rfl, rfl⟩ := h1
    obtain ⟨_, _, _, hcell⟩ := zcE hown
    have hfl : ∀ l : List (List (List AV)), (l.map fun r => [AV.sl r .none]).flatten = l.map fun r => AV.sl r .none := by
     intro l
     induction l with
     | nil => rfl
     | cons r l ih => simp [ih]
    have := DRel.of_flat_at (w := w) (L := (G.cut w n).L) (g := g) (off := 0) (size := 1) (cap := cap0) (es := rs.map fun r => [AV.sl r .none]) (zs := xs) (by simp) (by simpa using hne) (by simpa using h4) ?_ (by rw [hfl rs]; exact hd) ?_
    ·simpa using this
    ·have : (G.cut w n).L g = cur.size := by
      simp only [Gh.cut]
      rw [if_pos (cut_dropped.2 ⟨id, _, hid, hμ, rfl⟩), h3]
     rw [this, h6]
     simpa using h4
    ·intro j u hj
     rw [Nat.zero_add, hcell j (by rw [← hl]; exact (List.getElem?_eq_some_iff.1 hj).1)]
     exact hj
inductive OutT2 (H : zaa) (n : Nat) : AV → AV → Prop
 | one {a b : AV} (h : OutW H n a b) : OutT2 H n a b
 | tup {asx bs : List AV} (h : All2 (OutW H n) asx bs) : OutT2 H n (.tup asx) (.tup bs)
theorem ztX (hH : HRel B w G H) {n : Nat} {asx bs : List AV} (h : All2 (OutW H n) asx bs) {vs : List Value} (hr : All2 (VRel w G) vs asx) : All2 (VRel w (G.cut w n)) vs bs :=
 All2.of_get (hr.length.trans h.length) fun i x y hx hy => by
  obtain ⟨a, ha, hxa⟩ := All2.get' hr hx
  obtain ⟨y', hy', hay⟩ := All2.get' h ha
  rw [hy] at hy'
  cases hy'
  exact hay.vrel hH (TRel.of_v hxa)
def zd4 (n : Nat) (K : AV → zaa → Prop) (r : AV) (H' : zaa) : Prop := ∃ r2 H2 J, H' = H2 ++ J ∧ n ≤ H2.length ∧ HSc H2 ∧ OutT2 H' H2.length r r2 ∧ K r2 H2
theorem ACalls.out2 {f : FuncId} {args : List AV} {K : AV → zaa → Prop} (h : ACalls P f args H (zd4 H.length K)) : ACalls P f args H K := by
 intro B w G vs hH hv
 refine (h B w G vs hH hv).mono fun e w' ⟨v, r, H', G', h1, h2, h3, h4, h5⟩ => ?_
 obtain ⟨r2, H2, J, hJ, hn, hsc, ho, hk⟩ := h5
 subst hJ
 refine ⟨v, r2, H2, G'.cut w' H2.length, h1, zjb h3 h2 (by rw [hH.len]; exact hn), h3.cut hsc, ?_, hk⟩
 cases ho with
 | one ho => exact TRel.of_v (ho.vrel h3 h4)
 | tup ho =>
  obtain ⟨us, hu, hr⟩ := h4
  exact ⟨us, hu, ztX h3 ho hr⟩
theorem Out.two {n : Nat} {K : AV → zaa → Prop} {r : AV} (h : Out n K r H) : zd4 n K r H := by
 obtain ⟨r2, H2, J, hJ, hn, hsc, ho, hk⟩ := h
 refine ⟨r2, H2, J, hJ, hn, hsc, ?_, hk⟩
 cases ho with
 | one h => exact .one (.one h)
 | tup h => exact .tup (All2.of_get h.length fun i x y hx hy => by
   obtain ⟨y', hy', hay⟩ := All2.get' h hx
   rw [hy] at hy'
   cases hy'
   exact .one hay)
end Go.Abs
namespace Go.Abs
open Go Go.RowKit Go.Lib
variable {P : Program} {B : Nat} {w : World}
end Go.Abs
namespace Go.Abs
open Go Go.RowKit Go.Lib
variable {P : Program} {B : Nat} {w : World} {G : Gh} {H : zaa}
theorem HRel.dead (h : HRel B w G H) {id e s n : Nat} (hH : H[id]? = some (.perm e s n)) : HRel B w G (H.set id .dead) := by
 refine ⟨by simp [h.len], ?_, h.dist, h.fresh, h.lt, h.base⟩
 intro i ab gi h1 h2
 by_cases hi : i = id
 ·subst hi
  rw [List.getElem?_set_self (List.getElem?_eq_some_iff.1 hH).1] at h1
  cases h1
  have hok := h.ok i _ _ hH h2
  cases gi with
  | blk b => exact hok.elim
  | gap => exact hok.elim
  | own v s' n' =>
   obtain ⟨rfl, rfl, ⟨xs, hl, ⟨rfl, _⟩ | ⟨g, cap, cur, rfl, k1, k2, k3, k4, k5, k6⟩⟩, hL⟩ := hok
   ·intro b hb
    cases hb
   ·intro b hb
    simp [Value.ownBlock] at hb
    subst hb
    exact ⟨cur, e, _, k2, by rw [hL g rfl, k5]; exact Nat.mul_le_mul_right _ k3⟩
 ·rw [List.getElem?_set_ne (fun h => hi h.symm)] at h1
  exact h.ok i ab gi h1 h2
theorem HRel.other (h : HRel B w G H) (o : Obj) : Ext B w G (w.alloc o) G ∧ HRel B (w.alloc o) G H := by
 have he := Ext.alloc h o G.L (fun _ _ => rfl) []
 simp only [List.append_nil] at he
 refine ⟨he, h.keep he rfl (fun id gi b h1 h2 => ⟨zd9 (h.lt id gi b h1 h2), rfl⟩) (fun b hb => ?_)⟩
 rw [zck] at hb
 exact h.fresh b (by omega)
end Go.Abs
namespace Go.Abs
open Go Go.RowKit Go.Sort
variable {P : Program} {B : Nat} {w : World} {G : Gh} {H : zaa}
end Go.Abs
namespace Go.Abs
open Go Go.RowKit
variable {P : Program} {B : Nat} {w : World} {G : Gh} {H : zaa}
theorem HRel.newVec (h : HRel B w G H) (e size : Nat) : Ext B w G w ⟨G.L, G.μ ++ [.own (.slice none 0 0) size 0]⟩ ∧ HRel B w ⟨G.L, G.μ ++ [.own (.slice none 0 0) size 0]⟩ (H ++ [.vec e size 0 []]) := by
 obtain ⟨hE, hH⟩ := h.newOwn e size
 refine ⟨hE, by simpa using hH.len, fun id ab gi h1 h2 => ?_, hH.dist, hH.fresh, hH.lt, hH.base⟩
 by_cases hlt : id < H.length
 ·rw [List.getElem?_append_left hlt] at h1
  exact hH.ok id ab gi (by rw [List.getElem?_append_left hlt]; exact h1) h2
 ·have hlt2 := (List.getElem?_eq_some_iff.1 h2).1
  simp [h.len] at hlt2
  obtain rfl : id = H.length := by omega
  simp at h1
  have h2 : (G.μ ++ [GI.own (.slice none 0 0) size 0])[H.length]? = some gi := h2
  rw [← h.len] at h2
  simp at h2
  subst h1 h2
  exact ⟨rfl, rfl, ⟨[], World.ownsRow_nil w B e size, trivial⟩, fun b hb => by simp [Value.ownBlock] at hb⟩
end Go.Abs
namespace Go.Abs
open Go Go.RowKit
variable {P : Program} {B : Nat} {w : World} {G : Gh} {H : zaa}
theorem zor (h : HRel B w G H) (e size : Nat) : TRel w ⟨G.L, G.μ ++ [.own (.slice none 0 0) size 0]⟩ (.slice none 0 0) (.ov H.length 0) := by
 refine ⟨⟨none, 0, rfl, fun h => absurd h (by omega)⟩, .slice none 0 0, size, 0, ?_, Nat.le_refl _, fun _ => rfl⟩
 rw [← h.len]
 simp
theorem ALoop.vec {c : Code} {Q : AExit → List AV → zaa → Prop} {F : List AV} (i e size : Nat) (hi : F[i]? = some .snil)
  (h : ALoop P c Q (F.set i (.ov H.length 0)) (H ++ [.vec e size 0 []])) : ALoop P c Q F H := by
 intro B w G a hH hF hd
 obtain ⟨hE, hH'⟩ := hH.newVec e size
 have hF' : FRel w ⟨G.L, G.μ ++ [.own (.slice none 0 0) size 0]⟩ a.tmps (F.set i (.ov H.length 0)) := by
  unfold FRel
  obtain ⟨v, h1, h2⟩ := All2.get hF hi
  have h2 : v = .slice none 0 0 := h2
  subst h2
  have hset : a.tmps.toList = a.tmps.toList.set i (.slice none 0 0) := by
   apply List.ext_getElem?
   intro k
   by_cases hk : k = i
   ·subst hk; rw [List.getElem?_set_self (List.getElem?_eq_some_iff.1 h1).1]; exact h1
   ·rw [List.getElem?_set_ne (fun h => hk h.symm)]
  rw [hset]
  exact All2.set i (hF.ext hE) (zor hH e size)
 refine wp_mono (h B w _ a hH' hF' hd) fun e a' w' hp => ?_
 obtain ⟨F'', H'', G'', e'', rfl, k1, k2, k3, k4, k5⟩ := hp
 exact ⟨F'', H'', G'', e'', rfl, hE.trans k1, k2, k3, k4, k5⟩
theorem ACalls.vecRes {f : FuncId} {args : List AV} {K : Kt} (e size : Nat) (h : ACalls P f args H fun r H' => (r = .snil ∧ K (.ov H'.length 0) (H' ++ [.vec e size 0 []])) ∨ K r H') : ACalls P f args H K := by
 intro B w G vs hH hv
 refine (h B w G vs hH hv).mono fun ex w' ⟨v, r, H', G', h1, h2, h3, h4, h5⟩ => ?_
 rcases h5 with ⟨rfl, hk⟩ | hk
 ·have h4 : v = .slice none 0 0 := h4
  subst h4
  obtain ⟨hE, hH'⟩ := h3.newVec e size
  exact ⟨_, _, _, _, h1, h2.trans hE, hH', zor h3 e size, hk⟩
 ·exact ⟨v, r, H', G', h1, h2, h3, h4, hk⟩
theorem ACalls.withSc {f : FuncId} {args : List AV} {K : Kt} (h : ACalls P f args H fun r H' => HSc H' → K r H') : ACalls P f args H K := by
 intro B w G vs hH hv
 exact (h B w G vs hH hv).mono fun ex w' ⟨v, r, H', G', h1, h2, h3, h4, h5⟩ => ⟨v, r, H', G', h1, h2, h3, h4, h5 h3.sc⟩
theorem zpt {vs : List Value} : ∀ {cs cs' : List AV}, All2 WkA cs cs' → ∀ {vs : List Value}, All2 (ARel w G) vs cs → All2 (ARel w G) vs cs'
 | [], [], _, _, hv => hv
 | x :: cs, x' :: cs', hw, [], hv => hv.elim
 | x :: cs, x' :: cs', hw, v :: vs, hv => ⟨hw.1.arel hv.1, zpt (vs := []) hw.2 hv.2⟩
 | [], _ :: _, hw, _, _ => hw.elim
 | _ :: _, [], hw, _, _ => hw.elim
theorem ALoop.reCell {c : Code} {Q : AExit → List AV → zaa → Prop} {F : List AV} {id : Nat} {cs : List AV} (cs' : List AV) (hid : H[id]? = some (.cells cs)) (hw : All2 WkA cs cs') (h : ALoop P c Q F (H.set id (.cells cs'))) : ALoop P c Q F H := by
 intro B w G a hH hF hd
 exact h B w G a (hH.reCell hid fun vs hv => zpt (vs := []) hw hv) hF hd
end Go.Abs
namespace Go.Proofs.YtacebbdfgbfgiaaGreat
open Go Go.Abs
set_option maxRecDepth 8000
def zaG (r : List IT) : List AV := (IT.css r).flatten
theorem zcY (x : IT) (r : List IT) : zaG (x :: r) = x.cs ++ zaG r := by simp [zaG, IT.css_map]
theorem zcH : ∀ r : List IT, (zaG r).length = r.length * 2
 | [] => rfl
 | x :: r => by rw [zcY, List.length_append, IT.cs_len, zcH r, List.length_cons]; omega
theorem zkh (r : List IT) : (zaG r).all AV.known = true := by
 induction r with
 | nil => rfl
 | cons x r ih => rw [zcY, List.all_append, ih]; simp
theorem zoK (n : Nat) (r : List IT) : (zaG r).all (AV.scA n) = true := by
 induction r with
 | nil => rfl
 | cons x r ih => rw [zcY, List.all_append, ih]; simp
theorem zfn : ∀ (r : List IT) (p : Nat) (x : IT), p < r.length → (zaG r).take (p * 2) ++ x.cs ++ (zaG r).drop (p * 2 + 2) = zaG (r.set p x)
 | [], p, x, h => by simp at h
 | y :: r, 0, x, h => by
  rw [zcY, List.set_cons_zero, zcY]
  obtain ⟨a, b, hy, _, _⟩ := zcU y
  simp [hy]
 | y :: r, p + 1, x, h => by
  have ih := zfn r p x (by simpa using h)
  rw [zcY, List.set_cons_succ, zcY, ← ih]
  obtain ⟨a, b, hy, _, _⟩ := zcU y
  rw [show (p + 1) * 2 = p * 2 + 2 by omega, hy]
  simp
def CellR (H : zaa) (lo id : Nat) (c : AV) (r : List IT) : Prop :=
 (r = [] ∧ c = .sl [] .none) ∨ (r ≠ [] ∧ ∃ b, c = .ov b r.length ∧ lo ≤ b ∧ b ≠ id ∧ H[b]? = some (.vec zaY 2 r.length (zaG r)))
def RowsH (H : zaa) (lo id : Nat) (rows : List (List IT)) : Prop :=
 lo ≤ id ∧ ∃ cs, H[id]? = some (.vec zbk 1 rows.length cs) ∧ All2 (CellR H lo id) cs rows
theorem CellR.keep {H H' : zaa} {lo id lo' id' : Nat} {c : AV} {r : List IT} (h : CellR H lo id c r) (hlo : lo' ≤ lo) (hid : ∀ b, lo ≤ b → b ≠ id → b < H.length → b ≠ id' ∧ H'[b]? = H[b]?) : CellR H' lo' id' c r := by
 rcases h with h | ⟨h0, b, rfl, h1, h2, h3⟩
 ·exact .inl h
 ·have := hid b h1 h2 (List.getElem?_eq_some_iff.1 h3).1
  exact .inr ⟨h0, b, rfl, by omega, this.1, by rw [this.2]; exact h3⟩
theorem CellR.sc {H : zaa} {lo id : Nat} {c : AV} {r : List IT} (h : CellR H lo id c r) : c.scA H.length = true ∧ c.known = true := by
 rcases h with ⟨_, rfl⟩ | ⟨h0, b, rfl, h1, h2, h3⟩
 ·exact ⟨rfl, rfl⟩
 ·have := (List.getElem?_eq_some_iff.1 h3).1
  exact ⟨by simpa [AV.scA, AV.scB] using this, rfl⟩
theorem zeP {H : zaa} {lo id : Nat} : ∀ {cs : List AV} {rows : List (List IT)}, All2 (CellR H lo id) cs rows → cs.all (AV.scA H.length) = true ∧ cs.all AV.known = true
 | [], [], _ => ⟨rfl, rfl⟩
 | c :: cs, r :: rows, h => by
  obtain ⟨h1, h2⟩ := zeP h.2
  obtain ⟨h3, h4⟩ := h.1.sc
  simp only [List.all_cons, h1, h2, h3, h4, Bool.and_self, and_self]
theorem zi9 (ps : List Nat) (row l : List IT) : (za1 row ps l).length ≤ (l.length + 1) ^ ps.length := by
 rw [zi8, List.length_map]
 exact zoP _ _
theorem zs8 (row l : List IT) (p : Nat) (ps : List Nat) : za1 row (p :: ps) l = (List.range (l.length + 1)).flatMap fun n => za1 (row.set p (.mk 0 (l.take n))) ps (l.drop n) := rfl
def upR (row l : List IT) (p : Nat) (ps : List Nat) (i : Nat) : List (List IT) := (List.range i).flatMap fun n => za1 (row.set p (.mk 0 (l.take n))) ps (l.drop n)
theorem zgO (row l : List IT) (p : Nat) (ps : List Nat) (i : Nat) : upR row l p ps (i + 1) = upR row l p ps i ++ za1 (row.set p (.mk 0 (l.take i))) ps (l.drop i) := by
 simp [upR, List.range_succ]
theorem zvk (row l : List IT) (p : Nat) (ps : List Nat) (i : Nat) : (upR row l p ps i).length ≤ i * (l.length + 1) ^ ps.length := by
 refine Nat.le_trans (zjj (N := (l.length + 1) ^ ps.length) _ _ fun n _ => ?_) (by simp)
 exact Nat.le_trans (zi9 _ _ _) (Nat.pow_le_pow_left (by simp) _)
theorem zgy {H X : zaa} {i : Nat} {b : AB} (h : H <+: X) (hi : H.length ≤ i) : H <+: X.set i b := by
 obtain ⟨J, rfl⟩ := h
 rw [List.set_append_right _ _ hi]
 exact ⟨_, rfl⟩
theorem zfm {H X : zaa} {i : Nat} (h : H <+: X) (hi : i < H.length) : X[i]? = H[i]? := by
 obtain ⟨J, rfl⟩ := h
 exact List.getElem?_append_left hi
theorem RowA.pre {H X : zaa} {a : AV} {n : Nat} {ds : List AV} (h : RowA H a n ds) (hp : H <+: X) : RowA X a n ds := by
 obtain ⟨J, rfl⟩ := hp
 exact h.app
theorem zm0 {e s b id id2 n m e2 : Nat} {cs cs2 : List AV} {H : zaa} {K : Kt} (h1 : H[id]? = some (.vec e s n cs)) (h2 : H[id2]? = some (.vec e2 s m cs2)) (hk : cs2.all AV.known = true) (hl : cs2.length = m * s) (hb1 : (n + m) * b ≤ 140737488355328) (hb2 : n + m ≤ 9223372036854775807)
  (h : K (.ov id (n + m)) (H.set id (.vec e s (n + m) (cs ++ cs2)))) : zar e s b (.ov id n) (.ov id2 m) H K := by
 simp only [zar, zbJ, h1, h2, and_self, true_and]
 exact ⟨⟨hk, hl, hb1, hb2⟩, h⟩
theorem zlp : ∀ (ps : List Nat) (H : zaa) (a : AV) (row els : List IT) (K : Kt), RowA H a row.length (zaG row) → (∀ p ∈ ps, p < row.length) → row.length ≤ 1000 → els.length ≤ 1000 → ps.length ≤ 1000 → (els.length + 1) ^ ps.length ≤ 100000000 →
  (∀ id H', H <+: H' → HSc H' → RowsH H' H.length id (za1 row ps els) → K (.ov id (za1 row ps els).length) H') →
  ACalls tP zdN [a, .sl (zay ps) .none, .sl (IT.css els) .none] H K
 | [], H, a, row, els, K, hr, hps, hrl, hel, hpl, hb, hK => by
  refine ACalls.vecRes zbk 1 (ACalls.withSc ?_)
  refine zqA fun hs => ?_
  cases els with
  | cons x els =>
   simp [zhA, zay]
   intro _
   left
   have := hK H.length (H ++ [.vec zbk 1 0 []]) ⟨_, rfl⟩ (hs.append (by simp [AB.sc])) ⟨Nat.le_refl _, [], by simp [za1], by simp [za1]; trivial⟩
   simpa [za1] using this
  | nil =>
   simp [zhA, zay, IT.css]
   refine zoW hr (by omega) _ (fun h0 => ?_) (fun h0 => ?_)
   ·have hrow : row = [] := by cases row <;> simp_all
    subst hrow
    simp [zd5, AV.oneK]
    intro hsc
    have := hK H.length (H ++ [.vec zbk 1 1 [.sl [] .none]]) ⟨_, rfl⟩ hsc ⟨Nat.le_refl _, [.sl [] .none], by simp [za1], ⟨.inl ⟨rfl, rfl⟩, trivial⟩⟩
    simpa [za1] using this
   ·simp [zd5, AV.oneK]
    intro hsc
    have hne : row ≠ [] := by rintro rfl; simp at h0
    have := hK (H.length + 1) (H ++ [.vec zaY 2 row.length (zaG row), .vec zbk 1 1 [.ov H.length row.length]]) ⟨_, rfl⟩ (by simpa using hsc) ⟨by omega, [.ov H.length row.length], by simp [za1],
     ⟨.inr ⟨hne, H.length, rfl, Nat.le_refl _, by omega, by simp⟩, trivial⟩⟩
    simpa [za1] using this
 | p :: ps, H, a, row, els, K, hr, hps, hrl, hel, hpl, hb, hK => by
  refine zqA fun hs => ?_
  have hp := hps p (by simp)
  have hpow : (els.length + 1) ^ (ps.length + 1) = (els.length + 1) ^ ps.length * (els.length + 1) := Nat.pow_succ _ _
  have hb1 : (els.length + 1) ^ ps.length * (els.length + 1) ≤ 100000000 := by rw [← hpow]; simpa using hb
  have hb2 : (els.length + 1) ^ ps.length ≤ 100000000 := Nat.le_trans (Nat.le_mul_of_pos_right _ (by omega)) hb1
  have hnl : ((ps.length + 1 : Nat) : Int) ≠ 0 := by omega
  have hn0 : ((zay (p :: ps)).length == 0) = false := by simp [zay]
  simp [zhA, zca]
  rw [zan (by omega) (by omega)]
  unfold zhD
  refine ALoop.vec 7 zbk 1 rfl ?_
  show zhD a (.sl (zay (p :: ps)) .none) (.sl (IT.css els) .none) (.ov H.length 0) (.int .i64 ((els.length : Int) + 1)) (.int .i64 0) (H ++ [.vec zbk 1 0 []]) K
  refine zyD (Inv := fun q t7 t22 H' => ∃ i : Nat, i ≤ els.length + 1 ∧ q = els.length + 1 - i ∧ t22 = .int .i64 i ∧ t7 = .ov H.length (upR row els p ps i).length ∧ H <+: H' ∧ RowsH H' H.length H.length (upR row els p ps i)) (els.length + 1) ?_ ?_
  ·intro _; exact ⟨0, by omega, by omega, rfl, by simp [upR], ⟨_, rfl⟩, Nat.le_refl _, [], by simp [upR], by simp [upR]; trivial⟩
  ·rintro q t7 t22 H' ⟨i, hi, rfl, rfl, rfl, hpre, hlo, cs, hcs, hcells⟩ hsc hlen hsF Kb hKb
   by_cases hlt : i < els.length + 1
   ·have hHl : H.length < H'.length := (List.getElem?_eq_some_iff.1 hcs).1
    have hlt' : ((i : Int) < (els.length : Int) + 1) := by omega
    simp [zll, hlt']
    refine zoW (hr.pre hpre) (by omega) _ (fun h0 => by omega) (fun h0 => ?_)
    have hn0 : 0 < row.length := by omega
    have hti : (i : Int) ≤ els.length := by omega
    simp [zay, zav, zaV]
    refine ⟨⟨by omega, by simp [IT.css_map]⟩, hp, by rw [zcH]; omega, ?_⟩
    have htk : List.take i (IT.css els) = IT.css (els.take i) := by rw [IT.css_map, IT.css_map, List.map_take]
    have hset := zfn row p (.mk 0 (els.take i)) hp
    rw [htk]
    simp only [IT.cs, List.append_assoc, List.cons_append, List.nil_append] at hset
    rw [hset]
    have hda : IT.css (els.drop i) = List.drop i (IT.css els) := by rw [IT.css_map, IT.css_map, List.map_drop]
    have hcall : ACalls tP zdN [.ov H'.length row.length, .sl (zay ps) .none, .sl (IT.css (els.drop i)) .none] (H' ++ [.vec zaY 2 row.length (zaG (row.set p (.mk 0 (els.take i))))]) (fun t43 H2 => zar zbk 1 24 (.ov H.length (upR row els p ps i).length) t43 H2 fun t44 H3 => t44 = .ov H.length (upR row els p ps (i + 1)).length ∧ H <+: H3 ∧ HSc H3 ∧ RowsH H3 H.length H.length (upR row els p ps (i + 1))) := by
     refine zlp ps _ _ (row.set p (.mk 0 (els.take i))) (els.drop i) _ ⟨by rw [zcH], zkh _, .inr ⟨by simpa using hn0, H'.length, zaY, by simp, by simp⟩⟩ (fun q hq => by simpa using hps q (by simp [hq])) (by simpa using hrl) (by simp; omega) (by simp at hpl; omega)
      (Nat.le_trans (Nat.pow_le_pow_left (by simp) _) hb2) ?_
     rintro id H2 hp2 hsc2 ⟨hlo2, cs2, hcs2, hcells2⟩
     have hH1 : H' <+: H2 := List.IsPrefix.trans ⟨_, rfl⟩ hp2
     have hget : H2[H.length]? = some (.vec zbk 1 (upR row els p ps i).length cs) := by rw [zfm hH1 hHl]; exact hcs
     have hlt2 := (List.getElem?_eq_some_iff.1 hcs2).1
     have hne : id ≠ H.length := by simp at hlo2; omega
     have hm1 := zvk row els p ps (i + 1)
     rw [zgO, List.length_append] at hm1
     have hm2 : (i + 1) * (els.length + 1) ^ ps.length ≤ 100000000 := Nat.le_trans (Nat.mul_le_mul_right _ (by omega : i + 1 ≤ els.length + 1)) (by rw [Nat.mul_comm]; exact hb1)
     have hl2 := hcells2.length
     have hk2 := zeP hcells2
     have hx1 : All2 (CellR H2 H.length H.length) cs (upR row els p ps i) := hcells.mono fun c r hc => hc.keep (Nat.le_refl _) fun b _ hb hb2 => ⟨hb, zfm hH1 hb2⟩
     have hlg := (List.getElem?_eq_some_iff.1 hget).1
     refine zm0 hget hcs2 hk2.2 (by rw [hl2]; simp) (by omega) (by omega) ?_
     refine ⟨by rw [zgO, List.length_append], zgy (List.IsPrefix.trans hpre hH1) (Nat.le_refl _), hsc2.set ?_, Nat.le_refl _, cs ++ cs2, ?_, ?_⟩
     ·simp only [AB.sc, List.all_append, hk2.1, (zeP hx1).1, Bool.and_self]
     ·rw [List.getElem?_set_self hlg, zgO, List.length_append]
     ·rw [zgO]
      have hkp : ∀ b, b < H2.length → b ≠ H.length → (H2.set H.length (.vec zbk 1 ((upR row els p ps i).length + (za1 (row.set p (.mk 0 (els.take i))) ps (els.drop i)).length) (cs ++ cs2)))[b]? = H2[b]? := fun b _ hb => List.getElem?_set_ne (fun h => hb h.symm)
      refine (hx1.mono fun c r hc => hc.keep (Nat.le_refl _) fun b _ hb hb2 => ⟨hb, hkp b hb2 hb⟩).append (hcells2.mono fun c r hc => hc.keep (by simp; omega) fun b hb1 hb hb2 => ?_)
      have : b ≠ H.length := by simp at hb1; omega
      exact ⟨this, hkp b hb2 this⟩
    have hasc : ∀ n, H.length ≤ n → a.sc n = true := fun n hn => by
     obtain ⟨_, _, h⟩ := hr
     rcases h with ⟨id, rfl, h⟩ | ⟨_, id, e, rfl, h⟩
     ·have := (List.getElem?_eq_some_iff.1 h).1
      simp [AV.sc, AV.scV, AV.scA, AV.scB]; omega
     ·have := (List.getElem?_eq_some_iff.1 h).1
      simp [AV.sc, AV.scV, AV.scA, AV.scB]; omega
    have hfin : ∀ H3, H <+: H3 → HSc H3 → RowsH H3 H.length H.length (upR row els p ps (i + 1)) → zln a (.sl (zay (p :: ps)) .none) (.sl (IT.css els) .none) (.ov H.length (upR row els p ps (i + 1)).length) (.int .i64 ((els.length : Int) + 1)) (.int .i64 i) H3 K Kb := by
     intro H3 g1 g2 g3
     have hl3 := (List.getElem?_eq_some_iff.1 g3.2.choose_spec.1).1
     simp [zln]
     rw [zan (by omega) (by omega)]
     refine hKb _ _ ⟨els.length + 1 - (i + 1), by omega, Back.at (J := []) (H2 := H3) (by simp) (by simp; omega) g2 ?_ ⟨_, _, rfl, i + 1, by omega, rfl, by simp, rfl, g1, g3⟩⟩
     simp [zhC, AV.sc, AV.scV, AV.scA, AV.scB, hl3]
     exact hasc _ (by omega)
    refine zue zyG ?_
    rw [zyF]
    have hl1 : List.take ps.length (List.map (fun n : Nat => [AV.int .i64 (n : Int)]) ps) = zay ps := by rw [List.take_of_length_le (by simp)]; rfl
    have hl2 : List.take els.length (IT.css els) = IT.css els := List.take_of_length_le (by simp)
    simp [hl1, hl2, ← hda]
    refine ⟨⟨by omega, by simp [IT.css_map]⟩, ?_⟩
    refine ACalls.monoZ hcall fun t43 H2 h => zmZ (fun t44 H3 h3 => ?_) h
    obtain ⟨rfl, h1, h2, h3⟩ := h3
    exact zyC fun _ => hfin _ h1 h2 h3
   ·obtain rfl : i = els.length + 1 := by omega
    have hlt' : ¬ ((els.length : Int) + 1 < (els.length : Int) + 1) := by omega
    simp [zll]
    exact hK H.length H' hpre hsc ⟨Nat.le_refl _, cs, hcs, hcells⟩
theorem zAX (data : List Dat) (hk : za8 data) (t : VT) (ht : t.nodes ≤ 1000) (c : Int) (H : zaa) (K : Kt) (hK : K (zbM (zbN data t c)) H) :
  ACalls tP zjU [.sl (data.map Dat.cs) .none, .agg t.cs, .int .i64 c] H K := by
 refine ACalls.out (zAV fun hs => ?_)
 obtain ⟨f1, f2, f3⟩ := zee hk
 obtain ⟨k, n, ks⟩ := t
 simp [zrj, VT.cs, Nat.add_assoc]
 refine zpZ data f1 f2 f3 (.mk k n ks) ht c _ _ ?_
 cases hf : zaU data (.mk k n ks) c with
 | none =>
  rw [zov hf] at hK
  simp [zbM]
  refine ⟨⟨rfl, rfl⟩, ?_⟩
  exact Out.tup (bs := [.sl [] .none, .bool false]) hs hK ⟨zcw, zaM rfl rfl, trivial⟩
 | some l =>
  obtain ⟨bs, hlb, hl8, hpay, h200, k5, _, hrec⟩ := zka hk hf
  rw [hpay] at hK
  simp [zbM]
  refine zBh data hk k n ks ht c hf hlb hl8 hrec _ _ ?_
  simp [zca]
  unfold zik
  refine ALoop.own 13 zaK 3 rfl ?_
  have hl1 : (H ++ [AB.cells [AV.int IntKind.i64 k, AV.int IntKind.i64 n, AV.sl (VT.css ks) Tok.none]]).length = H.length + 1 := by simp
  rw [hl1]
  have hpp := zkc hlb (.mk 0 0 []) l.length (Nat.le_refl _)
  rw [List.take_length, hlb, List.take_length] at hpp
  rw [hpp] at hK
  have hpt : ∀ j ∈ pos false bs bs.length, j < l.length := fun j hj => by have := zkd hj; omega
  have hp8 := zdn false bs bs.length
  generalize pos false bs bs.length = P at *
  show zik (.sl (VT.css l) .none) (.sl [] (.own (H.length + 1))) (.sl (zay P) .none) (.int .i64 P.length) (.int .i64 0) (H ++ [.cells [.int .i64 k, .int .i64 n, .sl (VT.css ks) .none]] ++ [.perm zaK 3 0]) (Out H.length K)
  have hperm : ∀ m, HSc (H ++ [.cells [.int .i64 k, .int .i64 n, .sl (VT.css ks) .none], .perm zaK 3 m]) := fun m => hs.append (by simp [AB.sc, AV.scA, AV.scB])
  refine zAT (Inv := fun q t13 t35 H' => ∃ i : Nat, i ≤ P.length ∧ q = P.length - i ∧ t35 = .int .i64 i ∧ t13 = .sl (VT.css ((P.take i).map fun j => l.getD j (.mk 0 0 []))) (.own (H.length + 1)) ∧ H' = H ++ [.cells [.int .i64 k, .int .i64 n, .sl (VT.css ks) .none], .perm zaK 3 i]) P.length ?_ ?_
  ·intro _; exact ⟨0, by omega, by omega, rfl, by simp [VT.css], by simp⟩
  ·rintro q t13 t35 H' ⟨i, hi, rfl, rfl, rfl, rfl⟩ hsc' hlen hsF Kb hKb
   by_cases hlt : i < P.length
   ·have hj := hpt _ (List.getElem_mem hlt)
    simp [zl6, zca, zj6, hlt, hj]
    rw [zdD]
    simp [zar, zaW, zaF, Nat.min_eq_left hi]
    refine ⟨⟨by omega, by omega⟩, ?_⟩
    rw [zan (by omega) (by omega)]
    have hst : VT.css (List.take i (List.map (fun j => l[j]?.getD (VT.mk 0 0 [])) P)) ++ [(l[P[i]]'hj).cs] = VT.css ((P.take (i + 1)).map fun j => l.getD j (.mk 0 0 [])) := by
     rw [List.take_succ_eq_append_getElem hlt, VT.css_map, VT.css_map, List.map_append, List.map_append, List.map_take]
     simp [List.getD_eq_getElem?_getD, hj]
    rw [hst]
    refine hKb _ _ ⟨P.length - (i + 1), by omega, Back.at (J := []) (H2 := H ++ [.cells [.int .i64 k, .int .i64 n, .sl (VT.css ks) .none], .perm zaK 3 (i + 1)]) (by simp) (by simp) (hperm _) ?_ ⟨_, _, rfl, i + 1, by omega, rfl, by simp, rfl, rfl⟩⟩
    simp [zij, AV.sc, AV.scV, AV.scA, AV.scB]
   ·obtain rfl : i = P.length := by omega
    rw [List.take_length] at *
    simp [zl6, zca]
    refine ⟨⟨rfl, rfl⟩, ?_⟩
    exact Out.tup (bs := [.sl (VT.css (P.map fun j => l.getD j (.mk 0 0 []))) .none, .bool true]) hs hK ⟨slV, zaM rfl rfl, trivial⟩
end Go.Proofs.YtacebbdfgbfgiaaGreat
