import Derived.Test.YtddlhljflggenaaGreatDoorKNum
import Derived.Test.YtddlhljflggenaaGreatDoorProg
import Derived.KernelRfl
import Derived.Test.YtddlhljflggenaaGreatDoorKI2
import Derived.Test.YtddlhljflggenaaGreatDoorKY8
set_option linter.unusedSimpArgs false
set_option linter.unusedVariables false
namespace Go.Proofs.YtddlhljflggenaaGreatDoor
open Go Go.Abs
set_option maxRecDepth 100000
def zHf (_ : Nat) : List Bool := []
noncomputable def zHg : Code := Tryz.f38.body.getD .skip
def zvZ (t0 : AV) (H : zaa) (K : Kt) : Prop :=
 zax t0 H fun t1 H =>
 zag 0 t1 fun t3 =>
 zad false 1 t3 H fun t4 =>
 ACalls tP zmr [t4] H fun t5 H =>
 zab t5 true H (fun K' => zad true 4 t1 H (K' · H)) fun t7 H =>
 zab t5 true H (fun K' => ACalls tP zms [t7] H K') fun t8 H =>
 zai t5 t8 (.bool false) fun t9 =>
 zab t9 true H (fun K' => zad true 4 t1 H (K' · H)) fun t11 H =>
 zab t9 true H (fun K' => ACalls tP zmt [t11] H K') fun t12 H =>
 zai t9 t12 (.bool false) fun t13 =>
 zab t13 true H (fun K' => zad true 4 t1 H (K' · H)) fun t15 H =>
 zab t13 true H (fun K' => ACalls tP zmu [t15] H K') fun t16 H =>
 zai t13 t16 (.bool false) fun t17 =>
 zab t17 true H (fun K' => zad true 4 t1 H (K' · H)) fun t19 H =>
 zab t17 true H (fun K' => ACalls tP zmv [t19] H K') fun t20 H =>
 zai t17 t20 (.bool false) fun t21 =>
 zab t21 true H (fun K' => zad true 4 t1 H (K' · H)) fun t23 H =>
 zab t21 true H (fun K' => ACalls tP zmw [t23] H K') fun t24 H =>
 zai t21 t24 (.bool false) fun t25 =>
 zab t25 true H (fun K' => zad true 4 t1 H (K' · H)) fun t27 H =>
 zab t25 true H (fun K' => ACalls tP zmy [t27] H K') fun t28 H =>
 zai t25 t28 (.bool false) fun t29 =>
 K t29 H
theorem zHi {t0 : AV} {H : zaa} {K : Kt} (h : HSc H → zvZ t0 H K) : ACalls tP zmn [t0] H K :=
 zar (M := zHf) Tryz.func38 (c := zHg) (by kernel_rfl) (fun hs => Eq.mpr (by kernel_rfl) (h hs))
def zIV (_ : Nat) : List Bool := []
noncomputable def zIW : Code := Tryz.f57.body.getD .skip
def zwV (t0 : AV) (H : zaa) (K : Kt) : Prop :=
 zax t0 H fun t1 H =>
 zag 2 t1 fun t3 =>
 zad false 1 t3 H fun t4 =>
 zah 1 t4 fun t5 =>
 zac .leq false t5 (.int .i64 3000) fun t6 =>
 zab t6 true H (fun K' => zag 2 t1 (K' · H)) fun t8 H =>
 zab t6 true H (fun K' => zad false 1 t8 H (K' · H)) fun t9 H =>
 zab t6 true H (fun K' => zbY zsH [t1] (K' · H)) fun t10 H =>
 zab t6 true H (fun K' => ACalls tP zdq [t9, t10] H K') fun t11 H =>
 zab t6 true H (fun K' => aUn .not t11 (K' · H)) fun t12 H =>
 zai t6 t12 (.bool false) fun t13 =>
 K t13 H
theorem zIX {t0 : AV} {H : zaa} {K : Kt} (h : HSc H → zwV t0 H K) : ACalls tP zms [t0] H K :=
 zar (M := zIV) Tryz.func57 (c := zIW) (by kernel_rfl) (fun hs => Eq.mpr (by kernel_rfl) (h hs))
def zku : Nat → List Bool
 | 6 => rl false [1,1,1,2,14,3,59]
 | _ => []
noncomputable def zpM : Code := Tryz.f58.body.getD .skip
noncomputable def zI3 : List ResultVar := Tryz.f58.results.toList
def zpN (t1 t3 t4 t19 t20 t21 : AV) : List AV := ux 1 (t1 :: ux 1 (t3 :: t4 :: ux 14 (t19 :: t20 :: t21 :: ux 59 [])))
def zI1 : List Bool := zku 6
noncomputable def zIZ : Code := zao [1, 1, 1, 1, 0, 1, 0, 0] zpM
def zIY (K : Kt) : AExit → List AV → zaa → Prop := zap tP zku [1, 1, 1, 1, 0, 1, 0] zpM (zaA tP zI3 K)
def zwZ (t1 t3 t4 t19 t20 t21 : AV) (H : zaa) (K : Kt) : Prop := ALoop tP zIZ (zIY K) (zpN t1 t3 t4 t19 t20 t21) H
def zwY (t1 t3 t4 t6 t19 t20 t21 : AV) (H : zaa) (K : Kt) (Kb6 : Lt) : Prop :=
 zag 0 t6 fun t42 =>
 zad false 1 t42 H fun t43 =>
 zcp t3 t43 (.bool true) H fun H =>
 zag 1 t6 fun t44 =>
 zad false 1 t44 H fun t45 =>
 zah 1 t45 fun t46 =>
 zac .gtr false t46 (.int .i64 6) fun t47 =>
 zab t47 false H (fun K' => zag 0 t1 (K' · H)) fun t49 H =>
 zab t47 false H (fun K' => zad false 1 t49 H (K' · H)) fun t50 H =>
 zab t47 false H (fun K' => zag 3 t6 (K' · H)) fun t51 H =>
 zab t47 false H (fun K' => zad true 3 t51 H (K' · H)) fun t52 H =>
 zab t47 false H (fun K' => ACalls tP zgj [t50, t52, (.int .i64 0)] H K') fun t53 H =>
 zab t47 false H (fun K' => aUn .not t53 (K' · H)) fun t54 H =>
 zai t47 (.bool true) t54 fun t55 =>
 zaf t55
 (K (.bool false) H)
 (zae H (fun K' => zag 6 t6 (K' · H)) fun t56 =>
 zae H (fun K' => zas false 1 t56 H (K' · H)) fun t57 =>
 zae H (fun K' => zac .lss false t57 (.int .i64 0) (K' · H)) fun t58 =>
 zae H (fun K' => K' t58 H) fun t59 =>
 zab t59 false H (fun K' => zae H (fun K'' => zag 6 t6 (K'' · H)) (K' · H)) fun t60 H =>
 zab t59 false H (fun K' => zae H (fun K'' => zas false 1 t60 H (K'' · H)) (K' · H)) fun t61 H =>
 zab t59 false H (fun K' => zae H (fun K'' => zag 3 t1 (K'' · H)) (K' · H)) fun t62 H =>
 zab t59 false H (fun K' => zae H (fun K'' => zas false 1 t62 H (K'' · H)) (K' · H)) fun t63 H =>
 zab t59 false H (fun K' => zae H (fun K'' => zah 1 t63 (K'' · H)) (K' · H)) fun t64 H =>
 zab t59 false H (fun K' => zae H (fun K'' => zac .geq false t61 t64 (K'' · H)) (K' · H)) fun t65 H =>
 zae H (fun K' => zai t59 (.bool true) t65 (K' · H)) fun t66 =>
 zae H (fun K' => K' t66 H) fun t67 =>
 zab t67 false H (fun K' => zae H (fun K'' => zag 3 t1 (K'' · H)) (K' · H)) fun t68 H =>
 zab t67 false H (fun K' => zae H (fun K'' => zas false 1 t68 H (K'' · H)) (K' · H)) fun t69 H =>
 zab t67 false H (fun K' => zae H (fun K'' => zag 6 t6 (K'' · H)) (K' · H)) fun t70 H =>
 zab t67 false H (fun K' => zae H (fun K'' => zas false 1 t70 H (K'' · H)) (K' · H)) fun t71 H =>
 zab t67 false H (fun K' => zae H (fun K'' => zaj 8 t69 t71 (K'' · H)) (K' · H)) fun t72 H =>
 zab t67 false H (fun K' => zae H (fun K'' => zag 5 t72 (K'' · H)) (K' · H)) fun t73 H =>
 zab t67 false H (fun K' => zae H (fun K'' => zas true 3 t73 H (K'' · H)) (K' · H)) fun t74 H =>
 zab t67 false H (fun K' => zae H (fun K'' => zag 3 t6 (K'' · H)) (K' · H)) fun t75 H =>
 zab t67 false H (fun K' => zae H (fun K'' => zas true 3 t75 H (K'' · H)) (K' · H)) fun t76 H =>
 zab t67 false H (fun K' => zbj H (fun H K'' => ACalls tP zAi [t74, t76] H K'') (K' · H)) fun t77 H =>
 zab t67 false H (fun K' => zae H (fun K'' => aUn .not t77 (K'' · H)) (K' · H)) fun t78 H =>
 zae H (fun K' => zai t67 (.bool true) t78 (K' · H)) fun t79 =>
 zaf t79
 (K (.bool false) H)
 (zac .add false t21 (.int .i64 1) fun t80 =>
 Kb6 (zpN t1 t3 t4 t19 t20 t80) H))
def zwX (t1 t3 t4 t19 t20 t21 : AV) (H : zaa) (K : Kt) (Kb6 : Lt) : Prop :=
 zac .lss false t21 t20 fun t22 =>
 zaf t22
 (zaj 7 t19 t21 fun t23 =>
 zad true 7 t23 H fun t24 =>
 zaz [(.str []), .snil, .snil, (.int .i64 0), (.int .i64 0), .snil, (.int .i64 0)] H fun t6 H =>
 zal 7 t6 t24 H fun H =>
 zag 0 t6 fun t25 =>
 zad false 1 t25 H fun t26 =>
 zac .eql false t26 (.str []) fun t27 =>
 zaf t27
 (zwY t1 t3 (.bool true) t6 t19 t20 t21 H K Kb6)
 (zab t4 false H (fun K' => K' t3 H) fun t30 H =>
 zab t4 false H (fun K' => zag 0 t6 (K' · H)) fun t31 H =>
 zab t4 false H (fun K' => zad false 1 t31 H (K' · H)) fun t32 H =>
 zab t4 false H (fun K' => zcZ (.bool false) false t30 t32 H (K' · H)) fun t33 H =>
 zai t4 (.bool true) t33 fun t34 =>
 zab t34 false H (fun K' => zag 2 t6 (K' · H)) fun t36 H =>
 zab t34 false H (fun K' => zad false 1 t36 H (K' · H)) fun t37 H =>
 zab t34 false H (fun K' => zah 1 t37 (K' · H)) fun t38 H =>
 zab t34 false H (fun K' => zac .gtr false t38 (.int .i64 0) (K' · H)) fun t39 H =>
 zai t34 (.bool true) t39 fun t40 =>
 zaf t40
 (K (.bool false) H)
 (zwY t1 t3 t4 t6 t19 t20 t21 H K Kb6)))
 (K (.bool true) H)
def zwW (t0 : AV) (H : zaa) (K : Kt) : Prop :=
 zax t0 H fun t1 H =>
 zag 1 t1 fun t7 =>
 zad false 1 t7 H fun t8 =>
 zah 1 t8 fun t9 =>
 zac .gtr false t9 (.int .i64 64) fun t10 =>
 zab t10 false H (fun K' => zag 3 t1 (K' · H)) fun t12 H =>
 zab t10 false H (fun K' => zad false 1 t12 H (K' · H)) fun t13 H =>
 zab t10 false H (fun K' => zah 1 t13 (K' · H)) fun t14 H =>
 zab t10 false H (fun K' => zac .gtr false t14 (.int .i64 3000) (K' · H)) fun t15 H =>
 zai t10 (.bool true) t15 fun t16 =>
 zaf t16
 (K (.bool false) H)
 (zdF H fun t17 H =>
 zag 1 t1 fun t18 =>
 zad false 1 t18 H fun t19 =>
 zah 1 t19 fun t20 =>
 zwZ t1 t17 (.bool false) t19 t20 (.int .i64 0) H K)
theorem zI0 {t1 t3 t4 t19 t20 t21 : AV} {H : zaa} {K : Kt} (Inv : Nat → AV → AV → zaa → Prop) (n : Nat) (h0 : HSc H → Inv n t4 t21 H)
  (round : Rd2 (fun t4 => fun t21 => zpN t1 t3 t4 t19 t20 t21) (fun t4 => fun t21 => fun H Kb6 => zwX t1 t3 t4 t19 t20 t21 H K Kb6) H Inv) : zwZ t1 t3 t4 t19 t20 t21 H K :=
 lp2 (M := zku) zI1 t4 t21 (by kernel_rfl) Inv n h0 round
theorem zI2 {t0 : AV} {H : zaa} {K : Kt} (h : HSc H → zwW t0 H K) : ACalls tP zmt [t0] H K :=
 zar (M := zku) Tryz.func58 (c := zpM) (by kernel_rfl) (fun hs => Eq.mpr (by kernel_rfl) (h hs))
def zd8 : Nat → List Bool
 | 5 => rl false [1,1,2,2,12,3,54]
 | 11 => rl false [1,1,2,2,25,3,41]
 | 16 => rl false [1,1,2,2,2,1,22,3,12,3,26]
 | _ => []
noncomputable def zg9 : Code := Tryz.f59.body.getD .skip
noncomputable def zw8 : List ResultVar := Tryz.f59.results.toList
def zpP (t1 t4 t5 t18 t19 t20 : AV) : List AV := ux 1 (t1 :: ux 2 (t4 :: t5 :: ux 12 (t18 :: t19 :: t20 :: ux 54 [])))
def zJc : List Bool := zd8 5
noncomputable def zI7 : Code := zao [1, 1, 1, 1, 0, 1, 0, 0] zg9
def zI5 (K : Kt) : AExit → List AV → zaa → Prop := zap tP zd8 [1, 1, 1, 1, 0, 1, 0] zg9 (zaA tP zw8 K)
def zw6 (t1 t4 t5 t18 t19 t20 : AV) (H : zaa) (K : Kt) : Prop := ALoop tP zI7 (zI5 K) (zpP t1 t4 t5 t18 t19 t20) H
def zw4 (t1 t4 t5 t31 t32 t33 : AV) : List AV := ux 1 (t1 :: ux 2 (t4 :: t5 :: ux 25 (t31 :: t32 :: t33 :: ux 41 [])))
def zw7 : List Bool := zd8 11
noncomputable def zpO : Code := zao [1, 1, 1, 1, 1, 0, 1, 0, 0] zg9
def zw1 (K : Kt) : AExit → List AV → zaa → Prop := zap tP zd8 [1, 1, 1, 1, 1, 0, 1, 0] zg9 (zaA tP zw8 K)
def zw5 (t1 t4 t5 t31 t32 t33 : AV) (H : zaa) (K : Kt) : Prop := ALoop tP zpO (zw1 K) (zw4 t1 t4 t5 t31 t32 t33) H
def zI8 (t1 t4 t5 t8 t31 t32 t33 t46 t47 t48 : AV) : List AV := ux 1 (t1 :: ux 2 (t4 :: t5 :: ux 2 (t8 :: ux 22 (t31 :: t32 :: t33 :: ux 12 (t46 :: t47 :: t48 :: ux 26 [])))))
noncomputable def zI6 : Code := zao [1, 1, 0, 0, 1, 1, 1, 0, 0] zpO
def zI4 (K : Kt) (Kb11 : Lt) : AExit → List AV → zaa → Prop := zap tP zd8 [1, 1, 0, 0, 1, 1, 1, 0] zpO (zaU zw7 Kb11 (zw1 K))
def zI9 (t1 t4 t5 t8 t31 t32 t33 t46 t47 t48 : AV) (H : zaa) (K : Kt) (Kb11 : Lt) : Prop := ALoop tP zI6 (zI4 K Kb11) (zI8 t1 t4 t5 t8 t31 t32 t33 t46 t47 t48) H
def zw2 (t1 t4 t5 t31 t32 t33 : AV) (H : zaa) (K : Kt) (Kb11 : Lt) : Prop :=
 zac .lss false t33 t32 fun t34 =>
 zaf t34
 (zaj 8 t31 t33 fun t36 =>
 zad true 8 t36 H fun t37 =>
 zaz [(.int .i64 0), (.int .i64 0), .snil, .snil, .snil, (.int .i64 0), (.int .i64 0), .snil] H fun t9 H =>
 zal 8 t9 t37 H fun H =>
 zag 3 t9 fun t38 =>
 zad false 1 t38 H fun t39 =>
 zah 1 t39 fun t40 =>
 zag 4 t9 fun t41 =>
 zad false 1 t41 H fun t42 =>
 zah 1 t42 fun t43 =>
 zac .neq false t40 t43 fun t44 =>
 zaf t44
 (K (.bool false) H)
 (zag 4 t9 fun t45 =>
 zad false 1 t45 H fun t46 =>
 zah 1 t46 fun t47 =>
 zI9 t1 t4 t5 t33 t31 t32 t33 t46 t47 (.int .i64 0) H K Kb11))
 (zad false 1 t4 H fun t70 =>
 zag 3 t1 fun t71 =>
 zad false 1 t71 H fun t72 =>
 zah 1 t72 fun t73 =>
 zac .eql false t70 t73 fun t74 =>
 K t74 H)
def zw3 (t1 t4 t5 t18 t19 t20 : AV) (H : zaa) (K : Kt) (Kb5 : Lt) : Prop :=
 zac .lss false t20 t19 fun t21 =>
 zaf t21
 (zaj 7 t18 t20 fun t22 =>
 zad true 7 t22 H fun t23 =>
 zaz [(.str []), .snil, .snil, (.int .i64 0), (.int .i64 0), .snil, (.int .i64 0)] H fun t7 H =>
 zal 7 t7 t23 H fun H =>
 zag 6 t7 fun t25 =>
 zad false 1 t25 H fun t26 =>
 aCallV tP t5 [t26] H fun t27 H =>
 aUn .not t27 fun t28 =>
 zaf t28
 (K (.bool false) H)
 (zac .add false t20 (.int .i64 1) fun t29 =>
 Kb5 (zpP t1 t4 t5 t18 t19 t29) H))
 (zag 3 t1 fun t30 =>
 zad false 1 t30 H fun t31 =>
 zah 1 t31 fun t32 =>
 zw5 t1 t4 t5 t31 t32 (.int .i64 0) H K)
def zw0 (t0 : AV) (H : zaa) (K : Kt) : Prop :=
 zax t0 H fun t1 H =>
 zag 3 t1 fun t12 =>
 zad false 1 t12 H fun t13 =>
 zah 1 t13 fun t14 =>
 za4 1 [(.bool false)] t14 t14 H fun t15 H =>
 zaz [.snil] H fun t3 H =>
 zal 1 t3 t15 H fun H =>
 zaz [(.int .i64 0)] H fun t4 H =>
 zal 1 t4 (.int .i64 0) H fun H =>
 zbY zAj [t3, t4] fun t16 =>
 zag 1 t1 fun t17 =>
 zad false 1 t17 H fun t18 =>
 zah 1 t18 fun t19 =>
 zw6 t1 t4 t16 t18 t19 (.int .i64 0) H K
theorem zJa {t1 t4 t5 t31 t32 t33 : AV} {H : zaa} {K : Kt} (Inv : Nat → AV → zaa → Prop) (n : Nat) (h0 : HSc H → Inv n t33 H)
  (round : Rd1 (fun t33 => zw4 t1 t4 t5 t31 t32 t33) (fun t33 => fun H Kb11 => zw2 t1 t4 t5 t31 t32 t33 H K Kb11) H Inv) : zw5 t1 t4 t5 t31 t32 t33 H K :=
 lp1 (M := zd8) zw7 t33 (by kernel_rfl) Inv n h0 round
theorem zJb {t1 t4 t5 t18 t19 t20 : AV} {H : zaa} {K : Kt} (Inv : Nat → AV → zaa → Prop) (n : Nat) (h0 : HSc H → Inv n t20 H)
  (round : Rd1 (fun t20 => zpP t1 t4 t5 t18 t19 t20) (fun t20 => fun H Kb5 => zw3 t1 t4 t5 t18 t19 t20 H K Kb5) H Inv) : zw6 t1 t4 t5 t18 t19 t20 H K :=
 lp1 (M := zd8) zJc t20 (by kernel_rfl) Inv n h0 round
theorem zJd {t0 : AV} {H : zaa} {K : Kt} (h : HSc H → zw0 t0 H K) : ACalls tP zmu [t0] H K :=
 zar (M := zd8) Tryz.func59 (c := zg9) (by kernel_rfl) (fun hs => Eq.mpr (by kernel_rfl) (h hs))
def zd9 : Nat → List Bool
 | 5 => rl false [1,1,2,2,12,3,41]
 | 11 => rl false [1,1,2,2,32,3,21]
 | 14 => rl false [1,1,2,2,32,3,4,3,14]
 | _ => []
noncomputable def zha : Code := Tryz.f60.body.getD .skip
noncomputable def zxh : List ResultVar := Tryz.f60.results.toList
def zpR (t1 t4 t5 t18 t19 t20 : AV) : List AV := ux 1 (t1 :: ux 2 (t4 :: t5 :: ux 12 (t18 :: t19 :: t20 :: ux 41 [])))
def zJm : List Bool := zd9 5
noncomputable def zJh : Code := zao [1, 1, 1, 1, 0, 1, 0, 0] zha
def zJf (K : Kt) : AExit → List AV → zaa → Prop := zap tP zd9 [1, 1, 1, 1, 0, 1, 0] zha (zaA tP zxh K)
def zxf (t1 t4 t5 t18 t19 t20 : AV) (H : zaa) (K : Kt) : Prop := ALoop tP zJh (zJf K) (zpR t1 t4 t5 t18 t19 t20) H
def zxd (t1 t4 t5 t38 t39 t40 : AV) : List AV := ux 1 (t1 :: ux 2 (t4 :: t5 :: ux 32 (t38 :: t39 :: t40 :: ux 21 [])))
def zxg : List Bool := zd9 11
noncomputable def zpQ : Code := zao [1, 1, 1, 1, 1, 0, 1, 0, 0] zha
def zxa (K : Kt) : AExit → List AV → zaa → Prop := zap tP zd9 [1, 1, 1, 1, 1, 0, 1, 0] zha (zaA tP zxh K)
def zxe (t1 t4 t5 t38 t39 t40 : AV) (H : zaa) (K : Kt) : Prop := ALoop tP zpQ (zxa K) (zxd t1 t4 t5 t38 t39 t40) H
def zJi (t1 t4 t5 t38 t39 t40 t45 t46 t47 : AV) : List AV := ux 1 (t1 :: ux 2 (t4 :: t5 :: ux 32 (t38 :: t39 :: t40 :: ux 4 (t45 :: t46 :: t47 :: ux 14 []))))
noncomputable def zJg : Code := zao [1, 1, 0, 0, 1, 1, 0, 0] zpQ
def zJe (K : Kt) (Kb11 : Lt) : AExit → List AV → zaa → Prop := zap tP zd9 [1, 1, 0, 0, 1, 1, 0] zpQ (zaU zxg Kb11 (zxa K))
def zJj (t1 t4 t5 t38 t39 t40 t45 t46 t47 : AV) (H : zaa) (K : Kt) (Kb11 : Lt) : Prop := ALoop tP zJg (zJe K Kb11) (zJi t1 t4 t5 t38 t39 t40 t45 t46 t47) H
def zxb (t1 t4 t5 t38 t39 t40 : AV) (H : zaa) (K : Kt) (Kb11 : Lt) : Prop :=
 zac .lss false t40 t39 fun t41 =>
 zaf t41
 (zaj 8 t38 t40 fun t42 =>
 zad true 8 t42 H fun t43 =>
 zaz [(.int .i64 0), (.int .i64 0), .snil, .snil, .snil, (.int .i64 0), (.int .i64 0), .snil] H fun t9 H =>
 zal 8 t9 t43 H fun H =>
 zag 3 t9 fun t44 =>
 zad false 1 t44 H fun t45 =>
 zah 1 t45 fun t46 =>
 zJj t1 t4 t5 t38 t39 t40 t45 t46 (.int .i64 0) H K Kb11)
 (zad false 1 t4 H fun t57 =>
 zag 2 t1 fun t58 =>
 zad false 1 t58 H fun t59 =>
 zah 1 t59 fun t60 =>
 zac .eql false t57 t60 fun t61 =>
 K t61 H)
def zxc (t1 t4 t5 t18 t19 t20 : AV) (H : zaa) (K : Kt) (Kb5 : Lt) : Prop :=
 zac .lss false t20 t19 fun t21 =>
 zaf t21
 (zaj 7 t18 t20 fun t22 =>
 zad true 7 t22 H fun t23 =>
 zaz [(.str []), .snil, .snil, (.int .i64 0), (.int .i64 0), .snil, (.int .i64 0)] H fun t7 H =>
 zal 7 t7 t23 H fun H =>
 zag 1 t7 fun t25 =>
 zad false 1 t25 H fun t26 =>
 aCallV tP t5 [t26] H fun t27 H =>
 aUn .not t27 fun t28 =>
 zab t28 false H (fun K' => K' t5 H) fun t30 H =>
 zab t28 false H (fun K' => zag 2 t7 (K' · H)) fun t31 H =>
 zab t28 false H (fun K' => zad false 1 t31 H (K' · H)) fun t32 H =>
 zab t28 false H (fun K' => aCallV tP t30 [t32] H K') fun t33 H =>
 zab t28 false H (fun K' => aUn .not t33 (K' · H)) fun t34 H =>
 zai t28 (.bool true) t34 fun t35 =>
 zaf t35
 (K (.bool false) H)
 (zac .add false t20 (.int .i64 1) fun t36 =>
 Kb5 (zpR t1 t4 t5 t18 t19 t36) H))
 (zag 3 t1 fun t37 =>
 zad false 1 t37 H fun t38 =>
 zah 1 t38 fun t39 =>
 zxe t1 t4 t5 t38 t39 (.int .i64 0) H K)
def zw9 (t0 : AV) (H : zaa) (K : Kt) : Prop :=
 zax t0 H fun t1 H =>
 zag 2 t1 fun t12 =>
 zad false 1 t12 H fun t13 =>
 zah 1 t13 fun t14 =>
 za4 1 [(.bool false)] t14 t14 H fun t15 H =>
 zaz [.snil] H fun t3 H =>
 zal 1 t3 t15 H fun H =>
 zaz [(.int .i64 0)] H fun t4 H =>
 zal 1 t4 (.int .i64 0) H fun H =>
 zbY zAk [t3, t4] fun t16 =>
 zag 1 t1 fun t17 =>
 zad false 1 t17 H fun t18 =>
 zah 1 t18 fun t19 =>
 zxf t1 t4 t16 t18 t19 (.int .i64 0) H K
theorem zJk {t1 t4 t5 t38 t39 t40 : AV} {H : zaa} {K : Kt} (Inv : Nat → AV → zaa → Prop) (n : Nat) (h0 : HSc H → Inv n t40 H)
  (round : Rd1 (fun t40 => zxd t1 t4 t5 t38 t39 t40) (fun t40 => fun H Kb11 => zxb t1 t4 t5 t38 t39 t40 H K Kb11) H Inv) : zxe t1 t4 t5 t38 t39 t40 H K :=
 lp1 (M := zd9) zxg t40 (by kernel_rfl) Inv n h0 round
theorem zJl {t1 t4 t5 t18 t19 t20 : AV} {H : zaa} {K : Kt} (Inv : Nat → AV → zaa → Prop) (n : Nat) (h0 : HSc H → Inv n t20 H)
  (round : Rd1 (fun t20 => zpR t1 t4 t5 t18 t19 t20) (fun t20 => fun H Kb5 => zxc t1 t4 t5 t18 t19 t20 H K Kb5) H Inv) : zxf t1 t4 t5 t18 t19 t20 H K :=
 lp1 (M := zd9) zJm t20 (by kernel_rfl) Inv n h0 round
theorem zJn {t0 : AV} {H : zaa} {K : Kt} (h : HSc H → zw9 t0 H K) : ACalls tP zmv [t0] H K :=
 zar (M := zd9) Tryz.func60 (c := zha) (by kernel_rfl) (fun hs => Eq.mpr (by kernel_rfl) (h hs))
def zkv : Nat → List Bool
 | 6 => rl false [4,2,9,3,25]
 | _ => []
noncomputable def zpS : Code := Tryz.f61.body.getD .skip
noncomputable def zJt : List ResultVar := Tryz.f61.results.toList
def zpT (t4 t5 t15 t16 t17 : AV) : List AV := ux 4 (t4 :: t5 :: ux 9 (t15 :: t16 :: t17 :: ux 25 []))
def zJr : List Bool := zkv 6
noncomputable def zJp : Code := zao [1, 1, 1, 1, 1, 0, 1, 0, 0] zpS
def zJo (K : Kt) : AExit → List AV → zaa → Prop := zap tP zkv [1, 1, 1, 1, 1, 0, 1, 0] zpS (zaA tP zJt K)
def zxk (t4 t5 t15 t16 t17 : AV) (H : zaa) (K : Kt) : Prop := ALoop tP zJp (zJo K) (zpT t4 t5 t15 t16 t17) H
def zxj (t4 t5 t15 t16 t17 : AV) (H : zaa) (K : Kt) (Kb6 : Lt) : Prop :=
 zac .lss false t17 t16 fun t18 =>
 zaf t18
 (zaj 7 t15 t17 fun t19 =>
 zad true 7 t19 H fun t20 =>
 zaz [(.str []), .snil, .snil, (.int .i64 0), (.int .i64 0), .snil, (.int .i64 0)] H fun t7 H =>
 zal 7 t7 t20 H fun H =>
 zad false 1 t4 H fun t21 =>
 zag 1 t7 fun t22 =>
 zad false 1 t22 H fun t23 =>
 aCallV tP t21 [t23, (.bool true)] H fun t24 H =>
 zad false 1 t4 H fun t25 =>
 zag 2 t7 fun t26 =>
 zad false 1 t26 H fun t27 =>
 aCallV tP t25 [t27, (.bool true)] H fun t28 H =>
 zad false 1 t5 H fun t29 =>
 zag 6 t7 fun t30 =>
 zad false 1 t30 H fun t31 =>
 aCallV tP t29 [t31] H fun t32 H =>
 aUn .not t32 fun t33 =>
 zaf t33
 (K (.bool false) H)
 (zad false 1 t4 H fun t34 =>
 zag 1 t7 fun t35 =>
 zad false 1 t35 H fun t36 =>
 aCallV tP t34 [t36, (.bool false)] H fun t37 H =>
 zad false 1 t4 H fun t38 =>
 zag 2 t7 fun t39 =>
 zad false 1 t39 H fun t40 =>
 aCallV tP t38 [t40, (.bool false)] H fun t41 H =>
 zac .add false t17 (.int .i64 1) fun t42 =>
 Kb6 (zpT t4 t5 t15 t16 t42) H))
 (K (.bool true) H)
def zxi (t0 : AV) (H : zaa) (K : Kt) : Prop :=
 zax t0 H fun t1 H =>
 zag 2 t1 fun t8 =>
 zad false 1 t8 H fun t9 =>
 zah 1 t9 fun t10 =>
 za4 1 [(.bool false)] t10 t10 H fun t11 H =>
 zaz [.snil] H fun t3 H =>
 zal 1 t3 t11 H fun H =>
 zbY zAl [t3] fun t12 =>
 zaz [.nilfn] H fun t4 H =>
 zal 1 t4 t12 H fun H =>
 zaz [.nilfn] H fun t5 H =>
 zbY zAm [t1, t3, t4, t5] fun t13 =>
 zal 1 t5 t13 H fun H =>
 zag 1 t1 fun t14 =>
 zad false 1 t14 H fun t15 =>
 zah 1 t15 fun t16 =>
 zxk t4 t5 t15 t16 (.int .i64 0) H K
theorem zJq {t4 t5 t15 t16 t17 : AV} {H : zaa} {K : Kt} (Inv : Nat → AV → zaa → Prop) (n : Nat) (h0 : HSc H → Inv n t17 H)
  (round : Rd1 (fun t17 => zpT t4 t5 t15 t16 t17) (fun t17 => fun H Kb6 => zxj t4 t5 t15 t16 t17 H K Kb6) H Inv) : zxk t4 t5 t15 t16 t17 H K :=
 lp1 (M := zkv) zJr t17 (by kernel_rfl) Inv n h0 round
theorem zJs {t0 : AV} {H : zaa} {K : Kt} (h : HSc H → zxi t0 H K) : ACalls tP zmw [t0] H K :=
 zar (M := zkv) Tryz.func61 (c := zpS) (by kernel_rfl) (fun hs => Eq.mpr (by kernel_rfl) (h hs))
def zeB : Nat → List Bool
 | 3 => rl false [1,1,1,1,12,3,30]
 | 9 => rl false [3,1,24,3,18]
 | _ => []
noncomputable def zhe : Code := Tryz.f62.body.getD .skip
noncomputable def zxt : List ResultVar := Tryz.f62.results.toList
def zpZ (t1 t3 t16 t17 t18 : AV) : List AV := ux 1 (t1 :: ux 1 (t3 :: ux 12 (t16 :: t17 :: t18 :: ux 30 [])))
def zJK : List Bool := zeB 3
noncomputable def zJG : Code := zao [1, 1, 0, 1, 0, 0] zhe
def zJE (K : Kt) : AExit → List AV → zaa → Prop := zap tP zeB [1, 1, 0, 1, 0] zhe (zaA tP zxt K)
def zxr (t1 t3 t16 t17 t18 : AV) (H : zaa) (K : Kt) : Prop := ALoop tP zJG (zJE K) (zpZ t1 t3 t16 t17 t18) H
def zp0 (t3 t28 t29 t30 : AV) : List AV := ux 3 (t3 :: ux 24 (t28 :: t29 :: t30 :: ux 18 []))
def zJL : List Bool := zeB 9
noncomputable def zJH : Code := zao [1, 1, 1, 0, 1, 0, 0] zhe
def zJF (K : Kt) : AExit → List AV → zaa → Prop := zap tP zeB [1, 1, 1, 0, 1, 0] zhe (zaA tP zxt K)
def zxs (t3 t28 t29 t30 : AV) (H : zaa) (K : Kt) : Prop := ALoop tP zJH (zJF K) (zp0 t3 t28 t29 t30) H
def zxq (t3 t28 t29 t30 : AV) (H : zaa) (K : Kt) (Kb9 : Lt) : Prop :=
 zac .lss false t30 t29 fun t31 =>
 zaf t31
 (zaj 7 t28 t30 fun t33 =>
 zad true 7 t33 H fun t34 =>
 zaz [(.str []), .snil, .snil, (.int .i64 0), (.int .i64 0), .snil, (.int .i64 0)] H fun t7 H =>
 zal 7 t7 t34 H fun H =>
 zag 0 t7 fun t35 =>
 zad false 1 t35 H fun t36 =>
 zac .eql false t36 (.str []) fun t37 =>
 zab t37 true H (fun K' => K' t3 H) fun t39 H =>
 zab t37 true H (fun K' => zbb t39 (K' · H)) fun t40 H =>
 zab t37 true H (fun K' => zag 4 t40 (K' · H)) fun t41 H =>
 zab t37 true H (fun K' => zad false 1 t41 H (K' · H)) fun t42 H =>
 zab t37 true H (fun K' => K' t30 H) fun t43 H =>
 zab t37 true H (fun K' => zaj 1 t42 t43 (K' · H)) fun t44 H =>
 zab t37 true H (fun K' => zad false 1 t44 H (K' · H)) fun t45 H =>
 zab t37 true H (fun K' => zac .neq false t45 (.int .i64 1) (K' · H)) fun t46 H =>
 zai t37 t46 (.bool false) fun t47 =>
 zaf t47
 (K (.bool false) H)
 (zac .add false t30 (.int .i64 1) fun t48 =>
 Kb9 (zp0 t3 t28 t29 t48) H))
 (K (.bool true) H)
def zxp (t1 t3 t16 t17 t18 : AV) (H : zaa) (K : Kt) (Kb3 : Lt) : Prop :=
 zac .lss false t18 t17 fun t19 =>
 zaf t19
 (zaj 8 t16 t18 fun t20 =>
 zad true 8 t20 H fun t21 =>
 zaz [(.int .i64 0), (.int .i64 0), .snil, .snil, .snil, (.int .i64 0), (.int .i64 0), .snil] H fun t5 H =>
 zal 8 t5 t21 H fun H =>
 zad true 8 t5 H fun t23 =>
 ACalls tP zAn [t3, t23] H fun t24 H =>
 aUn .not t24 fun t25 =>
 zaf t25
 (K (.bool false) H)
 (zac .add false t18 (.int .i64 1) fun t26 =>
 Kb3 (zpZ t1 t3 t16 t17 t26) H))
 (zag 1 t1 fun t27 =>
 zad false 1 t27 H fun t28 =>
 zah 1 t28 fun t29 =>
 zxs t3 t28 t29 (.int .i64 0) H K)
def zxo (t0 : AV) (H : zaa) (K : Kt) : Prop :=
 zax t0 H fun t1 H =>
 zae H (fun K' => zas true 4 t1 H (K' · H)) fun t8 =>
 zae H (fun K' => zag 1 t1 (K' · H)) fun t9 =>
 zae H (fun K' => zas false 1 t9 H (K' · H)) fun t10 =>
 zae H (fun K' => zah 1 t10 (K' · H)) fun t11 =>
 za4 8 [(.int .i64 0)] t11 t11 H fun t12 H =>
 zae H (fun K' => zau [.snil, .snil, .snil, .snil, .snil] [(0, 4), (4, 1)] [(0, t8), (1, t12)] (K' · H)) fun t13 =>
 zax t13 H fun t14 H =>
 zae H (fun K' => K' t14 H) fun t3 =>
 zag 3 t1 fun t15 =>
 zad false 1 t15 H fun t16 =>
 zah 1 t16 fun t17 =>
 zxr t1 t3 t16 t17 (.int .i64 0) H K
theorem zJJ {t3 t28 t29 t30 : AV} {H : zaa} {K : Kt} (Inv : Nat → AV → zaa → Prop) (n : Nat) (h0 : HSc H → Inv n t30 H)
  (round : Rd1 (fun t30 => zp0 t3 t28 t29 t30) (fun t30 => fun H Kb9 => zxq t3 t28 t29 t30 H K Kb9) H Inv) : zxs t3 t28 t29 t30 H K :=
 lp1 (M := zeB) zJL t30 (by kernel_rfl) Inv n h0 round
theorem zJI {t1 t3 t16 t17 t18 : AV} {H : zaa} {K : Kt} (Inv : Nat → AV → zaa → Prop) (n : Nat) (h0 : HSc H → Inv n t18 H)
  (round : Rd1 (fun t18 => zpZ t1 t3 t16 t17 t18) (fun t18 => fun H Kb3 => zxp t1 t3 t16 t17 t18 H K Kb3) H Inv) : zxr t1 t3 t16 t17 t18 H K :=
 lp1 (M := zeB) zJK t18 (by kernel_rfl) Inv n h0 round
theorem zJM {t0 : AV} {H : zaa} {K : Kt} (h : HSc H → zxo t0 H K) : ACalls tP zmy [t0] H K :=
 zar (M := zeB) Tryz.func62 (c := zhe) (by kernel_rfl) (fun hs => Eq.mpr (by kernel_rfl) (h hs))
end Go.Proofs.YtddlhljflggenaaGreatDoor

namespace Go.Proofs.YtddlhljflggenaaGreatDoor
open Go Go.Abs
set_option maxRecDepth 8000
def d4 (data : List Dat) : AV := .agg [.sl (data.map Dat.cs) .none, .snil, .snil, .snil]
section
variable {H : zaa} {K : Kt} (data : List Dat)
theorem zCA (hK : K (.bool true) H) : ACalls tP zms [d4 data] H K := by
 refine ACalls.out (zIX fun hs => ?_)
 simp [zwV, d4]
 refine ⟨rfl, ACalls.wk (args' := [.sl (VT.css []) .none, .fn zsH [.ptr H.length 0]]) ?_ ⟨.atom .snil, .atom (.refl _), trivial⟩⟩
 refine zlw [] (by simp) _ _ _ (by simp [AV.sc, AV.scV, AV.scA, AV.scB]) (fun _ H' => H' = H ++ [.cells [.sl (data.map Dat.cs) .none, .snil, .snil, .snil]]) rfl (fun i h => by simp at h) ?_
 rintro H' rfl
 simp
 exact Out.bool rfl (Nat.le_refl _) hs hK
theorem zzb (hK : K (.bool true) H) : ACalls tP zmt [d4 data] H K := by
 refine ACalls.out (zI2 fun hs => ?_)
 simp [zwW, d4]
 refine zI0 (Inv := fun _ _ t H' => t = .int .i64 0 ∧ H' = _) 0 (fun _ => ⟨rfl, rfl⟩) ?_
 rintro q t4 t H' ⟨rfl, rfl⟩ _ _ _ Kb hKb
 simp [zwX]
 exact Out.bool rfl (Nat.le_refl _) hs hK
theorem zCr (hK : K (.bool true) H) : ACalls tP zmu [d4 data] H K := by
 refine ACalls.out (zJd fun hs => ?_)
 simp [zw0, d4, za4]
 refine ⟨⟨rfl, rfl⟩, zJb (Inv := fun _ t H' => t = .int .i64 0 ∧ H' = _) 0 (fun _ => ⟨rfl, rfl⟩) ?_⟩
 rintro q t H' ⟨rfl, rfl⟩ _ _ _ Kb hKb
 simp [zw3]
 refine zJa (Inv := fun _ t H' => t = .int .i64 0 ∧ H' = _) 0 (fun _ => ⟨rfl, rfl⟩) ?_
 rintro q t H' ⟨rfl, rfl⟩ _ _ _ Kb2 hKb2
 simp [zw2, Nat.add_assoc]
 exact Out.bool rfl (Nat.le_refl _) hs hK
theorem zyU (hK : K (.bool true) H) : ACalls tP zmv [d4 data] H K := by
 refine ACalls.out (zJn fun hs => ?_)
 simp [zw9, d4, za4]
 refine ⟨⟨rfl, rfl⟩, zJl (Inv := fun _ t H' => t = .int .i64 0 ∧ H' = _) 0 (fun _ => ⟨rfl, rfl⟩) ?_⟩
 rintro q t H' ⟨rfl, rfl⟩ _ _ _ Kb hKb
 simp [zxc]
 refine zJk (Inv := fun _ t H' => t = .int .i64 0 ∧ H' = _) 0 (fun _ => ⟨rfl, rfl⟩) ?_
 rintro q t H' ⟨rfl, rfl⟩ _ _ _ Kb2 hKb2
 simp [zxb, Nat.add_assoc]
 exact Out.bool rfl (Nat.le_refl _) hs hK
theorem zBl (hK : K (.bool true) H) : ACalls tP zmw [d4 data] H K := by
 refine ACalls.out (zJs fun hs => ?_)
 simp [zxi, d4, za4]
 refine ⟨rfl, ⟨rfl, rfl, rfl, rfl⟩, zJq (Inv := fun _ t H' => t = .int .i64 0 ∧ H' = _) 0 (fun _ => ⟨rfl, rfl⟩) ?_⟩
 rintro q t H' ⟨rfl, rfl⟩ _ _ _ Kb hKb
 simp [zxj]
 exact Out.bool rfl (Nat.le_refl _) hs hK
theorem zzC (hK : K (.bool true) H) : ACalls tP zmy [d4 data] H K := by
 refine ACalls.out (zJM fun hs => ?_)
 simp [zxo, d4, za4, zau, zaH]
 refine zJI (Inv := fun _ t H' => t = .int .i64 0 ∧ H' = _) 0 (fun _ => ⟨rfl, rfl⟩) ?_
 rintro q t H' ⟨rfl, rfl⟩ _ _ _ Kb hKb
 simp [zxp]
 refine zJJ (Inv := fun _ t H' => t = .int .i64 0 ∧ H' = _) 0 (fun _ => ⟨rfl, rfl⟩) ?_
 rintro q t H' ⟨rfl, rfl⟩ _ _ _ Kb2 hKb2
 simp [zxq]
 exact Out.bool rfl (Nat.le_refl _) hs hK
theorem zHh (hB : zfF data) (hl : data.length ≤ 1000000) (hK : K (.bool (zbd data)) H) : ACalls tP zmn [d4 data] H K := by
 refine ACalls.out (zHi fun hs => ?_)
 simp [zvZ, d4]
 refine zIU data hB hl _ _ ?_
 cases hd : zbd data with
 | false =>
  rw [hd] at hK
  simp
  exact Out.bool rfl (Nat.le_refl _) hs hK
 | true =>
  rw [hd] at hK
  simp
  refine zCA data ?_
  simp
  refine zzb data ?_
  simp
  refine zCr data ?_
  simp
  refine zyU data ?_
  simp
  refine zBl data ?_
  simp
  refine zzC data ?_
  exact Out.bool rfl (Nat.le_refl _) hs hK
def zbm (data : List Dat) (t : VT) : Bool := zbd data && zaT data 0 t
end
end Go.Proofs.YtddlhljflggenaaGreatDoor
namespace Go.Proofs.YtddlhljflggenaaGreatDoor
open Go Go.Abs
set_option maxRecDepth 8000
structure DOk (data : List Dat) : Prop where
 ok : zbd data = true
 k : zaP data
theorem DOk.small {data : List Dat} (h : DOk data) : zfF data := fun D hD => by
 obtain ⟨_, h2⟩ := h.k
 obtain ⟨_, h3, h4⟩ := h2 D hD
 refine ⟨by omega, fun c hc => ?_⟩
 obtain ⟨_, h5, h6⟩ := h4 c hc
 exact ⟨by omega, fun x hx => by have := h6 x hx; omega⟩
theorem zhJ {data : List Dat} (h : zaP data) : data.length ≤ 1000000 ∧ (∀ d ∈ data, ∀ c ∈ d.cons, c.args.length ≤ 1000 ∧ ∀ x ∈ c.args, x.nodes ≤ 1000) ∧ ∀ d ∈ data, d.cons.length ≤ 1000000 := by
 obtain ⟨h1, h2⟩ := h
 refine ⟨by omega, fun D hD c hc => ?_, fun D hD => ?_⟩
 ·obtain ⟨_, h3, h4⟩ := h2 D hD
  obtain ⟨_, h5, h6⟩ := h4 c hc
  exact ⟨by omega, fun x hx => by have := h6 x hx; omega⟩
 ·obtain ⟨_, h3, h4⟩ := h2 D hD
  omega
section
variable {data : List Dat} (hD : DOk data)
theorem i0 (n : Nat) : ((n : Int) == 0) = (n == 0) := by
 rw [Bool.eq_iff_iff]; simp
end
theorem zs7 : ∀ (a : List VT) (b : List Bool) (x : VT) (y : Bool), a.length = b.length → pick (a ++ [x]) (b ++ [y]) = pick a b ++ (if y then [] else [x])
 | [], [], x, y, _ => by cases y <;> rfl
 | [], _ :: _, _, _, h => by cases h
 | _ :: _, [], _, _, h => by cases h
 | c :: a, d :: b, x, y, h => by
  have := zs7 a b x y (by simpa using h)
  cases d <;> simp [pick, this]
theorem zs8 {l : List VT} {bs : List Bool} {i : Nat} (h : l.length = bs.length) (hi : i < l.length) : pick (l.take (i + 1)) (bs.take (i + 1)) = pick (l.take i) (bs.take i) ++ (if bs[i]'(by omega) then [] else [l[i]]) := by
 rw [List.take_succ_eq_append_getElem hi, List.take_succ_eq_append_getElem (by omega : i < bs.length)]
 exact zs7 _ _ _ _ (by simp; omega)
theorem ziq : ∀ (a : List VT) (b : List Bool), (pick a b).length ≤ a.length
 | [], b => by simp [pick]
 | _ :: _, [] => by simp [pick]
 | c :: a, d :: b => by
  have := ziq a b
  cases d <;> simp [pick] <;> omega
theorem zlr {l : List Bool} {i : Nat} (h : i < (zbA l).length) : (zbA l)[i] = [.bool (l[i]'(by simpa [zbA] using h))] := by simp [zbA]
theorem zfN (l : List Bool) : (zbA l).length = l.length := by simp [zbA]
theorem zs5 {data : List Dat} {k n : Int} {ks : List VT} {c : Int} {l : List VT} (hk : zaP data) (hf : za7 data (.mk k n ks) c = some l) :
  ∃ bs, l.length = bs.length ∧ l.length ≤ 8 ∧ zan data (.mk k n ks) c = some (pick l bs) ∧ (∀ x ∈ l, x.nodes ≤ 200) ∧ k = 5 ∧
   (∀ H K, K (.sl (zbA bs) .none) H → ACalls tP zgs [.sl (data.map Dat.cs) .none, .int .i64 n, .int .i64 c] H K) ∧
   (∀ H K, K (.sl (zbA bs) .none) H → ACalls tP zgt [.sl (data.map Dat.cs) .none, .int .i64 n, .int .i64 c] H K) := by
 obtain ⟨k5, n0, c0, hn, hc, hv, rfl, h200⟩ := zem hf
 obtain ⟨f1, f2, f3⟩ := zhJ hk
 have hd := List.getElem_mem hn
 have hcm := List.getElem_mem hc
 obtain ⟨g1, g2⟩ := f2 _ hd _ hcm
 have g3 := f3 _ hd
 have h8 := ((hk.2 _ hd).2.2 _ hcm).2.1
 refine ⟨zcG n.toNat data[n.toNat] (data[n.toNat]).cons[c.toNat], by simp [zcG], by simpa using h8, ?_, h200, k5, fun H K hK => ?_, fun H K hK => ?_⟩
 ·simp [zan, hf, zis, hn, hc, List.getD_eq_getElem?_getD, VT.num]
 ·have := zx1 data n.toNat c.toNat hn hc f1 g3 (by omega) (fun x hx => by have := g2 x hx; omega) H K (by simpa [zbA, zcG, Function.comp_def] using hK)
  rwa [Int.toNat_of_nonneg n0, Int.toNat_of_nonneg c0] at this
 ·have := zLF data n.toNat c.toNat hn hc f1 g3 (by omega) (fun x hx => by have := g2 x hx; omega) H K hK
  rwa [Int.toNat_of_nonneg n0, Int.toNat_of_nonneg c0] at this
theorem zs4 {data : List Dat} {t : VT} {c : Int} (hf : za7 data t c = none) : zan data t c = none := by simp [zan, hf]
theorem zwK (data : List Dat) (hk : zaP data) (t : VT) (ht : t.nodes ≤ 1000) (c : Int) (H : zaa) (K : Kt) (hK : K (zbL (zan data t c)) H) :
  ACalls tP zh9 [.sl (data.map Dat.cs) .none, .agg t.cs, .int .i64 c] H K := by
 refine ACalls.out (zIq fun hs => ?_)
 obtain ⟨f1, f2, f3⟩ := zhJ hk
 obtain ⟨k, n, ks⟩ := t
 simp [zwI, VT.cs, Nat.add_assoc]
 refine zLg data f1 f2 f3 (.mk k n ks) ht c _ _ ?_
 cases hf : za7 data (.mk k n ks) c with
 | none =>
  rw [zs4 hf] at hK
  simp [zbL]
  refine ⟨⟨rfl, rfl⟩, ?_⟩
  exact Out.tup (bs := [.sl [] .none, .bool false]) hs hK ⟨zdY, zaC rfl rfl, trivial⟩
 | some l =>
  obtain ⟨bs, hlb, hl8, hpay, h200, k5, hsc, _⟩ := zs5 hk hf
  rw [hpay] at hK
  simp [zbL]
  refine hsc _ _ ?_
  simp [zfN]
  unfold zkj
  refine ALoop.own 10 zaO 3 rfl ?_
  have hl1 : (H ++ [AB.cells [AV.int IntKind.i64 k, AV.int IntKind.i64 n, AV.sl (VT.css ks) Tok.none]]).length = H.length + 1 := by simp
  rw [hl1]
  show zkj (.sl (VT.css l) .none) (.sl [] (.own (H.length + 1))) (.sl (zbA bs) .none) (.int .i64 bs.length) (.int .i64 0) (H ++ [.cells [.int .i64 k, .int .i64 n, .sl (VT.css ks) .none]] ++ [.perm zaO 3 0]) (Out H.length K)
  have hperm : ∀ m, HSc (H ++ [.cells [.int .i64 k, .int .i64 n, .sl (VT.css ks) .none], .perm zaO 3 m]) := fun m => hs.append (by simp [AB.sc, AV.scA, AV.scB])
  refine zIo (Inv := fun q t10 t28 H' => ∃ i : Nat, i ≤ bs.length ∧ q = bs.length - i ∧ t28 = .int .i64 i ∧ t10 = .sl (VT.css (pick (l.take i) (bs.take i))) (.own (H.length + 1)) ∧ H' = H ++ [.cells [.int .i64 k, .int .i64 n, .sl (VT.css ks) .none], .perm zaO 3 (pick (l.take i) (bs.take i)).length]) bs.length ?_ ?_
  ·intro _; exact ⟨0, by omega, by omega, rfl, by simp [pick, VT.css], by simp [pick]⟩
  ·rintro q t10 t28 H' ⟨i, hi, rfl, rfl, rfl, rfl⟩ hsc' hlen hsF Kb hKb
   by_cases hlt : i < bs.length
   ·have hps := zs8 hlb (by omega : i < l.length)
    have hpl := ziq (l.take i) (bs.take i)
    rw [List.length_take] at hpl
    have hnext : ∀ J, zki (.sl (VT.css l) .none) (.sl (VT.css (pick (l.take (i + 1)) (bs.take (i + 1)))) (.own (H.length + 1))) (.sl (zbA bs) .none) (.int .i64 bs.length) (.int .i64 i)
      (H ++ .cells [.int .i64 k, .int .i64 n, .sl (VT.css ks) .none] :: .perm zaO 3 (pick (l.take (i + 1)) (bs.take (i + 1))).length :: J) (Out H.length K) Kb := by
     intro J
     simp [zki, zwJ]
     rw [zam (by omega) (by omega)]
     refine hKb _ _ ⟨bs.length - (i + 1), by omega, Back.at (J := J) (H2 := H ++ [.cells [.int .i64 k, .int .i64 n, .sl (VT.css ks) .none], .perm zaO 3 (pick (l.take (i + 1)) (bs.take (i + 1))).length]) (by simp) (by simp) (hperm _) ?_ ⟨_, _, rfl, i + 1, by omega, rfl, by simp, rfl, rfl⟩⟩
     simp [zkh, AV.sc, AV.scV, AV.scA, AV.scB]
    simp [zpB, zfN, hlt, zlr]
    cases hbi : bs[i] with
    | true =>
     rw [hbi] at hps
     simp at hps
     simp
     have := hnext []
     rw [hps] at this
     exact this
    | false =>
     rw [hbi] at hps
     simp only [Bool.false_eq_true, if_false] at hps
     simp [show i < l.length by omega]
     rw [zeg]
     simp [zat, zaI, zaE]
     have := hnext []
     rw [hps] at this
     rw [show VT.css (pick (l.take i) (bs.take i) ++ [l[i]]) = VT.css (pick (l.take i) (bs.take i)) ++ [l[i].cs] by simp [VT.css_map], show (pick (l.take i) (bs.take i) ++ [l[i]]).length = (pick (l.take i) (bs.take i)).length + 1 by simp] at this
     exact ⟨⟨by omega, by omega⟩, this⟩
   ·obtain rfl : i = bs.length := by omega
    rw [List.take_of_length_le (by omega), List.take_length] at *
    simp [zpB]
    refine ⟨⟨rfl, rfl⟩, ?_⟩
    exact Out.tup (bs := [.sl (VT.css (pick l bs)) .none, .bool true]) hs hK ⟨slV, zaC rfl rfl, trivial⟩
abbrev NI (H1 : zaa) (st : LL) : zaa := NX IT.cs zak 2 H1 st
theorem zco (v : IT) (n : Nat) : (v.cs).all (AV.scA n) = true := by cases v; rfl
theorem zcs (l : List IT) : (l.flatMap IT.cs).length = l.length * 2 := by
 induction l with
 | nil => rfl
 | cons x l ih => rw [List.flatMap_cons, List.length_append, ih]; simp; omega
theorem zlG {cs z v : List AV} {n : Nat} (h : cs.length = n * 2) (hz : z.length = 2) : (cs ++ z).take (n * 2) ++ v ++ (cs ++ z).drop (n * 2 + 2) = cs ++ v := by
 have h1 : (cs ++ z).take (n * 2) = cs := by rw [← h]; exact List.take_left
 have h2 : (cs ++ z).drop (n * 2 + 2) = [] := List.drop_of_length_le (by rw [List.length_append]; omega)
 rw [h1, h2, List.append_nil]
theorem zsv (s : LR) (k : AV → Prop) : zah 1 (lsR s) k = k (.int .i64 s.length) := by simp [lsR]
theorem zBp {t0 t2 t4 t34 t35 t61 t62 t63 : AV} {K : Kt} {Kb3 Kb11 : Lt} (H1 : zaa) (hs1 : HSc H1) (d : Nat) (st : LL) (hl : st.length = d + 1) (hd : d ≤ 1000) (c : Int) (k m : Nat) (hm : m = k + 1) (hk : k < d) (rows : List (List IT)) (hrl : rows.length ≤ 1000) (ht : zaq st ≤ 100000)
  (hpost : Kb11 (zg2 t0 t2 t4 (.ms H1.length 0 (d + 1) (d + 1)) (.int .i64 c) t34 t35 t61 t62 (.int .i64 m)) (NI H1 (st.set m (st.getD m [] ++ rows.map (IT.mk c))))) (h63 : t63 = .int .i64 k) :
  zpd t0 t2 t4 (.ms H1.length 0 (d + 1) (d + 1)) (.int .i64 c) (.int .i64 k) t34 t35 t61 t62 t63 (.sl (rows.map fun r => [.sl (IT.css r) .none]) .none) (.int .i64 rows.length) (.int .i64 0) (NI H1 st) K Kb3 Kb11 := by
 subst h63
 have hkl : m < st.length := by omega
 have hgd := zc4 hkl
 refine zHB (Inv := fun q t70 H' => ∃ i : Nat, i ≤ rows.length ∧ q = rows.length - i ∧ t70 = .int .i64 i ∧ H' = NI H1 (st.set m (st.getD m [] ++ (rows.take i).map (IT.mk c)))) rows.length ?_ ?_
 ·intro _; exact ⟨0, by omega, by omega, rfl, by simp [hkl]⟩
 ·rintro q t70 H' ⟨i, hi, rfl, rfl, rfl⟩ hsc hlen hsF Kb hKb
  by_cases hlt : i < rows.length
  ·have hst' : (st.set m (st.getD m [] ++ (rows.take i).map (IT.mk c))).length = d + 1 := by simpa using hl
   have hget : (st.set m (st.getD m [] ++ (rows.take i).map (IT.mk c)))[m]? = some (st.getD m [] ++ (rows.take i).map (IT.mk c)) := List.getElem?_set_self hkl
   have hnx : (st.set m (st.getD m [] ++ (rows.take i).map (IT.mk c))).set m (st.getD m [] ++ (rows.take i).map (IT.mk c) ++ [IT.mk c rows[i]]) = st.set m (st.getD m [] ++ (rows.take (i + 1)).map (IT.mk c)) := by
    rw [List.set_set, List.take_succ_eq_append_getElem hlt, List.map_append, List.append_assoc]; rfl
   have hlb : (st.getD m [] ++ (rows.take i).map (IT.mk c)).length ≤ 200000 := by
    have := zlP st m
    simp only [List.length_append, List.length_map, List.length_take]; omega
   generalize st.set m (st.getD m [] ++ (rows.take i).map (IT.mk c)) = st' at *
   generalize st.getD m [] ++ (rows.take i).map (IT.mk c) = L at *
   have hkl' : m < st'.length := by omega
   have hbk := fun J => zhq IT.cs zak 2 H1 J hget
   have hck := fun J => zfC IT.cs zak 2 H1 J st'
   have hvk := ziL (H1.length + 1) hget
   have hkd : (k : Int) < d := by omega
   have hw : IntKind.i64.wrap ((k : Int) + 1) = (m : Int) := by rw [zam (by omega) (by omega)]; omega
   have hmd : (m : Int) < (d : Int) + 1 := by omega
   have hLn : (vcs (H1.length + 1) st')[m]? = some (.ov (H1.length + 1 + m) L.length) := hvk
   have hne : H1.length ≠ H1.length + 1 + m := by omega
   have hfin : ∀ J, zj3 t0 t2 t4 (.ms H1.length 0 (d + 1) (d + 1)) (.int .i64 c) (.int .i64 k) t34 t35 t61 t62 (.int .i64 k) (.sl (rows.map fun r => [.sl (IT.css r) .none]) .none) (.int .i64 rows.length) (.int .i64 i) (NI H1 (st'.set m (L ++ [IT.mk c rows[i]])) ++ J) K Kb3 Kb11 Kb := by
    intro J
    simp [zj3, zwj]
    rw [zam (by omega) (by omega), hnx]
    refine hKb _ _ ⟨rows.length - (i + 1), by omega, Back.at (J := J) (H2 := NI H1 (st.set m (st.getD m [] ++ (rows.take (i + 1)).map (IT.mk c)))) rfl (by simp only [zaQ, List.length_set]; omega) (zcb hs1 fun x n => zco x n) ?_ ⟨_, rfl, i + 1, by omega, rfl, by simp, rfl⟩⟩
    simp only [zaQ, List.length_set, hst', hl] at hsF ⊢
    simpa [zj0, AV.sc, AV.scV, AV.scA, AV.scB] using hsF
   have hlen' : (L ++ [IT.mk c rows[i]]).length = L.length + 1 := by simp
   have hfl : (L ++ [IT.mk c rows[i]]).flatMap IT.cs = L.flatMap IT.cs ++ [.int .i64 c, .sl (IT.css rows[i]) .none] := by simp [IT.cs]
   have hset := fun J => zfD IT.cs zak 2 H1 J st' hkl' (L ++ [IT.mk c rows[i]])
   rw [hlen', hfl, ← ziM _ _ hkl', hlen'] at hset
   have hj3 : ∀ b : Bool, zj2 t0 t2 t4 (.ms H1.length 0 (d + 1) (d + 1)) (.int .i64 c) (.int .i64 k) (.sl (IT.css rows[i]) .none) t34 t35 t61 t62 (.int .i64 k) (.sl (rows.map fun r => [.sl (IT.css r) .none]) .none) (.int .i64 rows.length) (.int .i64 i) (.bool b) (NI H1 st' ++ [.cells [.bool b]]) K Kb3 Kb11 Kb := by
    intro b
    have hbnd : L.length ≤ 9223372036854775806 := by omega
    have hbnd2 : (L.length + 1) * 32 ≤ 140737488355328 := by omega
    simp only [zj2]
    cases b with
    | true =>
     simp [hw, hmd, hck]
     rw [zcW _ hLn]
     simp [zau, zaH, zay, za8, plain, AV.pd, zat, zaI, zaE, hbk, hbnd, hbnd2, List.getElem?_set_ne, hne, hne.symm, hck, AV.cs?]
     have hbl : H1.length + 1 + m < (NI H1 st' ++ [AB.cells [AV.bool true]]).length := (List.getElem?_eq_some_iff.1 (hbk [AB.cells [AV.bool true]])).1
     rw [List.getElem?_set_self hbl]
     have hf := zcs L
     refine ⟨by omega, by omega, ?_⟩
     rw [zli, zlG hf rfl]
     refine ⟨⟨rfl, rfl, by rw [List.length_append, hf]; simp, rfl⟩, ?_⟩
     rw [List.set_comm _ _ hne, List.set_set, hset]
     exact hfin _
    | false =>
     simp [hw, hmd, hck]
     rw [zcW _ hLn]
     simp [zau, zaH, zay, za8, plain, AV.pd, zat, zaI, zaE, hbk, hbnd, hbnd2, List.getElem?_set_ne, hne, hne.symm, hck, AV.cs?]
     refine ⟨by omega, ?_⟩
     rw [hset]
     exact hfin _
   simp [zo0, hlt]
   exact ⟨hj3 false, hj3 true⟩
  ·obtain rfl : i = rows.length := by omega
   rw [List.take_length] at *
   simp only [zo0]
   simp
   rw [zam (by omega) (by omega), show (k : Int) + 1 = (m : Int) by omega]
   simpa using hpost
theorem zrh (c : Int) : ∀ (a b : LR) (k : Nat) (st : LL), apE c (a ++ b) k st = apE c b (k + a.length) (apE c a k st)
 | [], b, k, st => rfl
 | x :: a, b, k, st => by rw [List.cons_append, apE, zrh c a b, apE, List.length_cons, show k + 1 + a.length = k + (a.length + 1) by omega]
theorem zlp (c : Int) : ∀ (ls : LR) (k : Nat) (st : LL), k + ls.length < st.length → zaq (apE c ls k st) = zaq st + zaq ls
 | [], k, st, h => by simp [apE]
 | l :: ls, k, st, h => by
  simp only [List.length_cons] at h
  rw [apE, zlp c ls (k + 1) _ (by simp; omega), zne _ _ _ (by omega)]
  simp; omega
theorem zBo {t0 t2 t4 t34 : AV} {K : Kt} {Kb3 : Lt} (H1 : zaa) (hs1 : HSc H1) (d : Nat) (st : LL) (hl : st.length = d + 1) (hd : d ≤ 1000) (c : Nat) (hc : c ≤ 1000) (ls : LR) (hls : ls.length = d) (hls5 : zaq ls ≤ 500) (ht : zaq st ≤ 90000)
  (hpost : Kb3 (zfv t0 t2 t4 (.ms H1.length 0 (d + 1) (d + 1)) t34 (.int .i64 (c + 1 : Nat))) (NI H1 (apE c ls 0 st))) :
  zpc t0 t2 t4 (.ms H1.length 0 (d + 1) (d + 1)) (.int .i64 c) t34 (.int .i64 c) (lsR ls) (.int .i64 ls.length) (.int .i64 0) (NI H1 st) K Kb3 := by
 refine zHA (Inv := fun q t63 H' => ∃ k : Nat, k ≤ d ∧ q = d - k ∧ t63 = .int .i64 k ∧ H' = NI H1 (apE c (ls.take k) 0 st)) d ?_ ?_
 ·intro _; exact ⟨0, by omega, by omega, rfl, by simp [apE]⟩
 ·rintro q t63 H' ⟨k, hk, rfl, rfl, rfl⟩ hsc hlen hsF Kb hKb
  have hlk : (apE c (ls.take k) 0 st).length = d + 1 := by rw [zeJ, hl]
  have htk := zlp c (ls.take k) 0 st (by simp; omega)
  have hle := zgF ls k
  by_cases hlt : k < d
  ·have hkl : k < ls.length := by omega
   have hap : (apE c (ls.take k) 0 st).set (k + 1) ((apE c (ls.take k) 0 st).getD (k + 1) [] ++ ls[k].map (IT.mk c)) = apE c (ls.take (k + 1)) 0 st := by
    rw [List.take_succ_eq_append_getElem hkl, zrh]
    simp [apE, Nat.min_eq_left (by omega : k ≤ ls.length)]
   have hmem := zeV (List.getElem_mem hkl)
   simp [zoZ, lsR, hkl]
   refine zBp H1 hs1 d _ hlk hd c k (k + 1) rfl hlt ls[k] (by omega) (by omega) ?_ rfl
   rw [hap]
   refine hKb _ _ ⟨d - (k + 1), by omega, Back.at (J := []) (H2 := NI H1 (apE c (ls.take (k + 1)) 0 st)) (by simp) (by simp only [zaQ, zeJ]; omega) (zcb hs1 fun x n => zco x n) ?_ ⟨_, rfl, k + 1, by omega, rfl, rfl, rfl⟩⟩
   simp only [zaQ, zeJ] at hsF ⊢
   simpa [zg2, lsR, AV.sc, AV.scV, AV.scA, AV.scB] using hsF
  ·obtain rfl : k = d := by omega
   have h63 : ¬ ((k : Int) < (ls.length : Int)) := by omega
   rw [List.take_of_length_le (by omega)] at *
   simp [zoZ, h63, zg6, zpb]
   rw [zam (by omega) (by omega)]
   exact hpost
theorem zhE : ∀ {rs : List IT} {i : Nat} (h : i < rs.length), ((rs.flatMap IT.cs).drop (i * 2)).take 2 = rs[i].cs
 | [], i, h => by simp at h
 | x :: rs, 0, h => by
  obtain ⟨a, b, hx, _, _⟩ := zbE x
  simp [hx]
 | x :: rs, i + 1, h => by
  have ih := zhE (rs := rs) (i := i) (by simpa using h)
  obtain ⟨a, b, hx, _, _⟩ := zbE x
  rw [List.flatMap_cons, show (i + 1) * 2 = x.cs.length + i * 2 by simp; omega, ← List.drop_drop, List.drop_left]
  simpa using ih
theorem zlY (v : IT) : v.cs = [.int .i64 v.num, .sl (IT.css v.kids) .none] := by cases v; rfl
theorem zBu {t2 t8 t129 t130 : AV} {r : Int} {K : Kt} {Kb27 Kb30 Kb33 : Lt} (H2 : zaa) (hs2 : HSc H2) (d : Nat) (st : LL) (hl : st.length = d + 1) (hd : d ≤ 1000) (n k j m : Nat) (hm : m + j = k) (hk : k ≤ d) (hj : 1 ≤ j) (e : IT) (rs L : List IT) (hrs : st[m]? = some rs) (hL : st[k]? = some L)
  (hn : n ≤ 500) (hrl : rs.length ≤ 500) (hLl : L.length ≤ 1000) (hkids : ∀ x ∈ rs, x.kids.length ≤ 100000) (hr : -1000000 ≤ r ∧ r ≤ 1000000)
  (h1 : 500 < n + rs.length → ∀ X, H2 <+: X → K (.tup [.snil, .bool false]) X)
  (h2 : ¬ 500 < n + rs.length → Kb33 (zg5 t2 t8 (.ms H2.length 0 (d + 1) (d + 1)) (.int .i64 (n + rs.length : Nat)) (.int .i64 k) (.int .i64 j) t129 t130 (.int .i64 (r + 1))) (NI H2 (st.set k (L ++ rs.map (za5 e))) ++ [.cells e.cs])) :
  zpg t2 t8 (.ms H2.length 0 (d + 1) (d + 1)) (.int .i64 n) (.int .i64 k) (.int .i64 j) (.ptr (H2.length + 1 + (d + 1)) 0) t129 t130 (.int .i64 r) (.ov (H2.length + 1 + m) rs.length) (.int .i64 rs.length) (.int .i64 0) (NI H2 st ++ [.cells e.cs]) K Kb27 Kb30 Kb33 := by
 have hkl : k < st.length := by omega
 refine zHG (Inv := fun q t18 t142 H' => ∃ i : Nat, i ≤ rs.length ∧ q = rs.length - i ∧ t142 = .int .i64 i ∧ t18 = .int .i64 (n + i : Nat) ∧ H' = NI H2 (st.set k (L ++ (rs.take i).map (za5 e))) ++ [.cells e.cs]) rs.length ?_ ?_
 ·intro _
  obtain ⟨_, hLe⟩ := List.getElem?_eq_some_iff.1 hL
  exact ⟨0, by omega, by omega, rfl, by simp, by simp [← hLe]⟩
 ·rintro q t18 t142 H' ⟨i, hi, rfl, rfl, rfl, rfl⟩ hsc hlen hsF Kb hKb
  by_cases hlt : i < rs.length
  ·have hst' : (st.set k (L ++ (rs.take i).map (za5 e))).length = d + 1 := by simpa using hl
   have hget : (st.set k (L ++ (rs.take i).map (za5 e)))[k]? = some (L ++ (rs.take i).map (za5 e)) := List.getElem?_set_self hkl
   have hgm : (st.set k (L ++ (rs.take i).map (za5 e)))[m]? = some rs := by rw [List.getElem?_set_ne (by omega)]; exact hrs
   have hnx : (st.set k (L ++ (rs.take i).map (za5 e))).set k (L ++ (rs.take i).map (za5 e) ++ [za5 e rs[i]]) = st.set k (L ++ (rs.take (i + 1)).map (za5 e)) := by
    rw [List.set_set, List.take_succ_eq_append_getElem hlt, List.map_append, List.append_assoc]; rfl
   have hlb : (L ++ (rs.take i).map (za5 e)).length ≤ 2000 := by
    simp only [List.length_append, List.length_map, List.length_take]; omega
   generalize st.set k (L ++ (rs.take i).map (za5 e)) = st' at *
   generalize L ++ (rs.take i).map (za5 e) = M at *
   have hkl' : k < st'.length := by omega
   have hNl : (NI H2 st').length = H2.length + 1 + (d + 1) := by rw [zaQ, hst']
   have hbk := fun J => zhq IT.cs zak 2 H2 J hget
   have hbm := fun J => zhq IT.cs zak 2 H2 J hgm
   have hck := fun J => zfC IT.cs zak 2 H2 J st'
   have hvk := ziL (H2.length + 1) hget
   have hpe : ∀ J, (NI H2 st' ++ AB.cells e.cs :: J)[H2.length + 1 + (d + 1)]? = some (.cells e.cs) := fun J => by rw [← hNl]; simp
   have hkd : (k : Int) < (d : Int) + 1 := by omega
   have hat := zhE hlt
   have hfl := zcs rs
   obtain ⟨x, y, hvx, hx, hy⟩ := zbE rs[i]
   obtain ⟨u, v, hvu, hu, hv⟩ := zbE e
   simp only [zo5]
   simp [hlt, hbm, hfl, -List.length_flatMap]
   rw [hat]
   have hb1 : i * 2 + 2 ≤ rs.length * 2 := by omega
   simp [hb1, zlY rs[i]]
   rw [← zlY rs[i]]
   simp [hkd, hck, hpe]
   rw [zcW _ hvk]
   simp [hvu, hu, hv]
   rw [← hvu, zdK]
   refine ⟨by omega, ?_⟩
   simp [zay, za8, plain, AV.pd]
   refine zbH (.sl (IT.css (e :: rs[i].kids)) .none) (fun J => zBC [e] rs[i].kids (by simp) (by have := hkids _ (List.getElem_mem hlt); simp; omega) _ _ ⟨rfl, rfl⟩) ?_
   simp [zau, zaH, AV.known]
   have hXb := hbk [AB.cells e.cs, AB.cells rs[i].cs]
   have hXc := hck [AB.cells e.cs, AB.cells rs[i].cs]
   have hset := zfD IT.cs zak 2 H2 [AB.cells e.cs, AB.cells rs[i].cs] st' hkl' (M ++ [za5 e rs[i]])
   have hset' := zqL IT.cs zak 2 H2 [AB.cells e.cs, AB.cells rs[i].cs] st' hkl' (M ++ [za5 e rs[i]])
   have hln : (M ++ [za5 e rs[i]]).length = M.length + 1 := by simp
   have hfm : (M ++ [za5 e rs[i]]).flatMap IT.cs = M.flatMap IT.cs ++ [.int .i64 0, .sl (IT.css (e :: rs[i].kids)) .none] := by simp [za5, IT.cs]
   rw [hln, hfm, ← ziM _ _ hkl', hln] at hset hset'
   have hfin : zd7 t2 t8 (.ms H2.length 0 (d + 1) (d + 1)) (.int .i64 (n + i)) (.int .i64 k) (.int .i64 j) (.ptr (H2.length + 1 + (d + 1)) 0) t129 t130 (.int .i64 r) (.ov (H2.length + 1 + m) rs.length) (.int .i64 rs.length) (.int .i64 i) (NI H2 (st'.set k (M ++ [za5 e rs[i]])) ++ [AB.cells e.cs, AB.cells rs[i].cs]) K Kb27 Kb30 Kb33 Kb := by
    simp [zd7]
    rw [zam (by omega) (by omega), zam (by omega) (by omega), hnx]
    refine hKb _ _ ⟨rs.length - (i + 1), by omega, Back.at (J := [AB.cells rs[i].cs]) (H2 := NI H2 (st.set k (L ++ (rs.take (i + 1)).map (za5 e))) ++ [AB.cells e.cs]) (by simp) (by simp only [List.length_append, zaQ, List.length_set]; omega) ?_ ?_ ⟨_, _, rfl, i + 1, by omega, rfl, by simp, by simp [Int.add_assoc], rfl⟩⟩
    ·exact (zcb hs2 fun x n => zco x n).append (by simp [AB.sc])
    ·simp only [List.length_append, zaQ, List.length_set, hst', hl] at hsF ⊢
     simpa [zj1, AV.sc, AV.scV, AV.scA, AV.scB] using hsF
   rw [← hset] at hset'
   rw [← hset] at hfin
   generalize NI H2 st' ++ [AB.cells e.cs, AB.cells rs[i].cs] = X at *
   have hne : H2.length ≠ H2.length + 1 + k := by omega
   generalize hbb : H2.length + 1 + k = b at *
   have hbl : b < X.length := (List.getElem?_eq_some_iff.1 hXb).1
   have g1 : ∀ v, (X.set b v)[b]? = some v := fun v => List.getElem?_set_self hbl
   have g2 : ∀ v, (X.set b v)[H2.length]? = some (.cells (vcs (H2.length + 1) st')) := fun v => by rw [List.getElem?_set_ne hne.symm]; exact hXc
   have g3 : ∀ v y, ((X.set b v).set H2.length y)[b]? = some v := fun v y => by rw [List.getElem?_set_ne hne, g1]
   have g4 : ∀ v v', ((X.set b v).set b v')[H2.length]? = some (.cells (vcs (H2.length + 1) st')) := fun v v' => by rw [List.getElem?_set_ne hne.symm, g2]
   have hfM := zcs M
   have hf2 := zlG (z := [AV.int .i64 0, .sl [] .none]) (v := [AV.int .i64 0, .sl (IT.css (e :: rs[i].kids)) .none]) hfM rfl
   have hbn : 0 ≤ (M.length : Int) ∧ (M.length : Int) < ((M.length + 1 : Nat) : Int) := by omega
   have hbn2 : (M.length + 1) * 32 ≤ 140737488355328 ∧ M.length + 1 ≤ 9223372036854775807 := by omega
   have hbn3 : M.length * 2 + 2 ≤ (M.flatMap IT.cs).length + 2 := by omega
   have hbn4 : k + 1 ≤ st'.length := by omega
   have hBB : ∀ v1 y v2, ((X.set b v1).set H2.length y).set b v2 = (X.set b v2).set H2.length y := fun v1 y v2 => by rw [List.set_comm _ _ hne, List.set_set]
   simp only [List.append_assoc, List.cons_append, List.nil_append] at hf2
   simp only [zat, zaI, zaE, hXb, zqV, zqX, AV.cs?, zli, zlh, g1, g2, g3, g4, List.length_cons, List.length_nil, List.length_append, Nat.zero_add, Int.toNat_natCast, List.flatten_cons, List.flatten_nil, List.append_nil, List.all_cons, List.all_nil, AV.known, Bool.and_true, Bool.and_self, and_true, true_and, hbn, hbn2, hbn3, hbn4, znk, List.set_set, List.append_assoc, List.singleton_append, hBB, hf2, hfin, List.cons_append, List.nil_append]
   simp
  ·obtain rfl : i = rs.length := by omega
   rw [List.take_length] at *
   have hwr : IntKind.i64.wrap (r + 1) = r + 1 := zam (by omega) (by omega)
   simp [zo5]
   simp only [hwr]
   refine zfJ (fun hb => ⟨⟨rfl, rfl⟩, h1 (by simp at hb; omega) _ (List.IsPrefix.trans (zca _ _ _ _ _) ⟨_, rfl⟩)⟩) (fun hb => ?_)
   have := h2 (by simp at hb; omega)
   simpa [hwr] using this
theorem zyn {H X : zaa} {lo i : Nat} {c : AV} {l : List IT} (h : RdC H lo IT.cs zak 2 c l) (hp : H <+: X) (hi : i < l.length) : ∃ b, c = .ov b l.length ∧ X[b]? = some (.vec zak 2 l.length (l.flatMap IT.cs)) := by
 rcases h with ⟨rfl, _⟩ | ⟨b, _, h1, h2⟩
 ·simp at hi
 ·obtain ⟨J, rfl⟩ := hp
  exact ⟨b, h1, by rw [List.getElem?_append_left (List.getElem?_eq_some_iff.1 h2).1]; exact h2⟩
theorem zyo {H : zaa} {lo : Nat} {α : Type} {f : α → List AV} {e s : Nat} {c : AV} {l : List α} (h : RdC H lo f e s c l) (k : AV → Prop) : zah 1 c k = k (.int .i64 l.length) := by
 rcases h with ⟨rfl, rfl⟩ | ⟨b, _, rfl, _⟩ <;> simp
theorem zBt {t2 t8 : AV} {K : Kt} {Kb27 Kb30 : Lt} (H2 : zaa) (hs2 : HSc H2) (d : Nat) (st : LL) (hl : st.length = d + 1) (hd : d ≤ 1000) (n k j m : Nat) (hm : m + j = k) (hk : k ≤ d) (hj : 1 ≤ j) (es rs L : List IT) (hrs : st[m]? = some rs)
  {lo : Nat} {c : AV} (hc : RdC H2 lo IT.cs zak 2 c es) (hel : es.length ≤ 1000000)
  (hn : n ≤ 500) (hrl : rs.length ≤ 500) (hLl : L.length ≤ n) (hkids : ∀ x ∈ rs, x.kids.length ≤ 100000)
  (h1 : sqE rs es L n = none → ∀ X, H2 <+: X → K (.tup [.snil, .bool false]) X)
  (h2 : ∀ acc n', sqE rs es L n = some (acc, n') → n' ≤ 500 → acc.length ≤ n' → Kb30 (zg4 t2 t8 (.ms H2.length 0 (d + 1) (d + 1)) (.int .i64 (n' : Nat)) (.int .i64 k) (.int .i64 (j + 1 : Nat))) (NI H2 (st.set k acc))) :
  zpf t2 t8 (.ms H2.length 0 (d + 1) (d + 1)) (.int .i64 n) (.int .i64 k) (.int .i64 j) c (.int .i64 es.length) (.int .i64 0) (NI H2 (st.set k L)) K Kb27 Kb30 := by
 have hkl : k < st.length := by omega
 refine zHF (Inv := fun q t18 t131 H' => ∃ (i : Nat) (acc : List IT) (n' : Nat), i ≤ es.length ∧ q = es.length - i ∧ t131 = .int .i64 i ∧ t18 = .int .i64 (n' : Nat) ∧ H' = NI H2 (st.set k acc) ∧ n' ≤ 500 ∧ acc.length ≤ n' ∧ sqE rs (es.drop i) acc n' = sqE rs es L n) es.length ?_ ?_
 ·intro _; exact ⟨0, L, n, by omega, by omega, rfl, rfl, rfl, hn, hLl, by simp⟩
 ·rintro q t18 t131 H' ⟨i, acc, n', hi, rfl, rfl, rfl, rfl, hn', hal, heq⟩ hsc hlen hsF Kb hKb
  by_cases hlt : i < es.length
  ·rw [List.drop_eq_getElem_cons hlt, sqE] at heq
   have hst' : (st.set k acc).length = d + 1 := by simpa using hl
   have hgm : (st.set k acc)[m]? = some rs := by rw [List.getElem?_set_ne (by omega)]; exact hrs
   have hgk : (st.set k acc)[k]? = some acc := List.getElem?_set_self hkl
   obtain ⟨b, rfl, hb⟩ := zyn hc (zca IT.cs zak 2 H2 (st.set k acc)) hlt
   have hb' : (NI H2 (st.set k acc))[b]? = some (.vec zak 2 es.length (es.flatMap IT.cs)) := hb
   have hat := zhE hlt
   have hfl := zcs es
   have hb1 : i * 2 + 2 ≤ es.length * 2 := by omega
   have hw : IntKind.i64.wrap ((k : Int) - j) = (m : Int) := by rw [zam (by omega) (by omega)]; omega
   have hmd : (m : Int) < (d : Int) + 1 := by omega
   have hNl : (NI H2 (st.set k acc)).length = H2.length + 1 + (d + 1) := by rw [zaQ, hst']
   have hck := fun J => zfC IT.cs zak 2 H2 J (st.set k acc)
   have hvm := ziL (H2.length + 1) hgm
   obtain ⟨u, v, hvu, hu, hv⟩ := zbE es[i]
   simp only [zo4]
   simp [hlt, hb', hfl, -List.length_flatMap]
   rw [hat]
   refine ⟨by omega, ?_⟩
   simp [hvu, hu, hv, hw, hmd, hck]
   rw [zcW _ hvm]
   simp
   rw [← hvu, hNl]
   refine ⟨by omega, ?_⟩
   refine zBu (r := (i : Int)) H2 hs2 d (st.set k acc) hst' hd n' k j m hm hk hj es[i] rs acc hgm hgk hn' hrl (by omega) hkids (by omega) (fun hb => ?_) (fun hb => ?_)
   ·rw [if_pos hb] at heq
    exact h1 heq.symm
   ·rw [if_neg hb] at heq
    refine hKb _ _ ⟨es.length - (i + 1), by omega, Back.at (J := [.cells (es[i]).cs]) (H2 := NI H2 (st.set k (acc ++ rs.map (za5 es[i])))) (by rw [List.set_set]) (by simp only [zaQ, List.length_set]; omega) (zcb hs2 fun x n => zco x n) ?_ ⟨_, _, rfl, i + 1, _, _, by omega, rfl, by simp, rfl, rfl, by omega, by simp; omega, heq⟩⟩
    simp only [zaQ, List.length_set] at hsF ⊢
    simpa [zg5, AV.sc, AV.scV, AV.scA, AV.scB] using hsF
  ·obtain rfl : i = es.length := by omega
   rw [List.drop_length, sqE] at heq
   simp [zo4]
   rw [zam (by omega) (by omega)]
   exact h2 acc n' heq.symm hn' hal
theorem zBs {t2 t8 : AV} {K : Kt} {Kb27 : Lt} (H2 : zaa) (hs2 : HSc H2) (d : Nat) (hd : d ≤ 1000) (els dn : LL) (n k : Nat) (hk : k ≤ d) (hdn : dn.length = k) (hel : els.length = d + 1)
  {lo : Nat} (h8 : RdL H2 lo IT.cs zak 2 t8 els) (hel2 : ∀ l ∈ els, l.length ≤ 1000000) (hn : n ≤ 500) (hdn5 : ∀ l ∈ dn, l.length ≤ 500 ∧ ∀ x ∈ l, x.kids.length ≤ 100000)
  (h1 : sqJ els dn k k 1 [] n = none → ∀ X, H2 <+: X → K (.tup [.snil, .bool false]) X)
  (h2 : ∀ acc n', sqJ els dn k k 1 [] n = some (acc, n') → n' ≤ 500 → Kb27 (zg3 t2 t8 (.ms H2.length 0 (d + 1) (d + 1)) (.int .i64 (n' : Nat)) (.int .i64 (k + 1 : Nat))) (NI H2 (dn ++ acc :: List.replicate (d - k) []))) :
  zpe t2 t8 (.ms H2.length 0 (d + 1) (d + 1)) (.int .i64 n) (.int .i64 k) (.int .i64 1) (NI H2 (dn ++ [] :: List.replicate (d - k) [])) K Kb27 := by
 obtain ⟨id, cs, rfl, hid, hcl, hget⟩ := h8.get
 have hset : ∀ a b : List IT, (dn ++ a :: List.replicate (d - k) []).set k b = dn ++ b :: List.replicate (d - k) [] := fun a b => by
  rw [List.set_append_right _ _ (by omega), hdn, Nat.sub_self]; simp
 have hln : ∀ a : List IT, (dn ++ a :: List.replicate (d - k) []).length = d + 1 := fun a => by simp; omega
 refine zHE (Inv := fun q t18 t20 H' => ∃ (j : Nat) (acc : List IT) (n' : Nat), 1 ≤ j ∧ j ≤ k + 1 ∧ q = k + 1 - j ∧ t20 = .int .i64 j ∧ t18 = .int .i64 (n' : Nat) ∧ H' = NI H2 (dn ++ acc :: List.replicate (d - k) []) ∧ n' ≤ 500 ∧ acc.length ≤ n' ∧ sqJ els dn k (k + 1 - j) j acc n' = sqJ els dn k k 1 [] n) k ?_ ?_
 ·intro _; exact ⟨1, [], n, by omega, by omega, by omega, rfl, rfl, rfl, hn, by simp, by simp⟩
 ·rintro q t18 t20 H' ⟨j, acc, n', hj1, hj, rfl, rfl, rfl, rfl, hn', hal, heq⟩ hsc hlen hsF Kb hKb
  by_cases hlt : j ≤ k
  ·rw [show k + 1 - j = (k - j) + 1 by omega, sqJ] at heq
   have hjl : j < els.length := by omega
   obtain ⟨c, hc1, hc2⟩ := hget j hjl
   have hid' : (NI H2 (dn ++ acc :: List.replicate (d - k) []))[id]? = some (.cells cs) := by
    obtain ⟨J, hJ⟩ := zca IT.cs zak 2 H2 (dn ++ acc :: List.replicate (d - k) [])
    show (NX IT.cs zak 2 H2 _)[id]? = _
    rw [← hJ, List.getElem?_append_left (List.getElem?_eq_some_iff.1 hid).1]; exact hid
   have hkj : k - j < dn.length := by omega
   have hgm : (dn ++ acc :: List.replicate (d - k) [])[k - j]? = some dn[k - j] := by
    rw [List.getElem?_append_left hkj, List.getElem?_eq_getElem hkj]
   have hdm := hdn5 _ (List.getElem_mem hkj)
   rw [zc4 hkj, zc4 hjl] at heq
   have hjk : (j : Int) ≤ k := by omega
   have hje : (j : Int) < (els.length : Int) := by omega
   simp only [zo3]
   simp [hjk, hje, hjl, hid']
   rw [zcW _ hc1, zyo hc2]
   have hs0 := hset acc acc
   have key := zBt (t2 := t2) (t8 := .ms id 0 els.length els.length) (K := K) (Kb27 := Kb27) (Kb30 := Kb) H2 hs2 d (dn ++ acc :: List.replicate (d - k) []) (hln acc) hd n' k j (k - j) (by omega) hk hj1 els[j] dn[k - j] acc hgm hc2 (hel2 _ (List.getElem_mem hjl)) hn' hdm.1 hal hdm.2 (fun hn => by
     rw [hn] at heq
     exact h1 heq.symm) (fun acc2 n2 hn hn2 ha2 => by
     rw [hn] at heq
     simp only at heq
     rw [hset]
     refine hKb _ _ ⟨k + 1 - (j + 1), by omega, Back.at (J := []) (H2 := NI H2 (dn ++ acc2 :: List.replicate (d - k) [])) (by simp) (by simp only [zaQ, hln]; omega) (zcb hs2 fun x n => zco x n) ?_ ⟨_, _, rfl, j + 1, acc2, n2, by omega, by omega, rfl, by simp, rfl, rfl, hn2, ha2, ?_⟩⟩
     ·simp only [zaQ, hln] at hsF ⊢
      simpa [zg4, AV.sc, AV.scV, AV.scA, AV.scB] using hsF
     ·rw [show k + 1 - (j + 1) = k - j by omega]; exact heq)
   rw [hs0] at key
   simpa using key
  ·obtain rfl : j = k + 1 := by omega
   rw [Nat.sub_self, sqJ] at heq
   have hjk : ¬ ((k : Int) + 1 ≤ (k : Int)) := by omega
   simp [zo3, hjk]
   rw [zam (by omega) (by omega)]
   have := h2 acc n' heq.symm hn'
   simpa using this
theorem zBq {t8 : AV} {K : Kt} (H2 : zaa) (hs2 : HSc H2) (d : Nat) (hd : d ≤ 1000) (els : LL) (hel : els.length = d + 1)
  {lo : Nat} (h8 : RdL H2 lo IT.cs zak 2 t8 els) (hel2 : ∀ l ∈ els, l.length ≤ 1000000)
  (h1 : sqK els d 0 [[.mk 0 []]] 1 = none → ∀ X, H2 <+: X → K (.tup [.snil, .bool false]) X)
  (h2 : ∀ dn, sqK els d 0 [[.mk 0 []]] 1 = some dn → dn.length = d + 1 → K (.tup [.ms H2.length 0 (d + 1) (d + 1), .bool true]) (NI H2 dn)) :
  zj4 (.int .i64 d) t8 (.ms H2.length 0 (d + 1) (d + 1)) (.int .i64 1) (.int .i64 1) (NI H2 ([.mk 0 []] :: List.replicate d [])) K := by
 refine zHC (Inv := fun q t18 t19 H' => ∃ (k : Nat) (dn : LL) (n : Nat), k ≤ d ∧ q = d - k ∧ t19 = .int .i64 (k + 1 : Nat) ∧ t18 = .int .i64 (n : Nat) ∧ dn.length = k + 1 ∧ H' = NI H2 (dn ++ List.replicate (d - k) []) ∧ n ≤ 500 ∧ zaq dn = n ∧ (∀ m (hm : m < dn.length), ∀ x ∈ dn[m], x.kids.length ≤ m) ∧ sqK els (d - k) k dn n = sqK els d 0 [[.mk 0 []]] 1) d ?_ ?_
 ·intro _
  refine ⟨0, [[.mk 0 []]], 1, by omega, by omega, rfl, rfl, rfl, rfl, by omega, by simp, ?_, rfl⟩
  intro m hm x hx
  obtain rfl : m = 0 := by simpa using hm
  simp at hx
  subst hx
  exact Nat.le_refl _
 ·rintro q t18 t19 H' ⟨k, dn, n, hk, rfl, rfl, rfl, hdn, rfl, hn, htot, hkb, heq⟩ hsc hlen hsF Kb hKb
  by_cases hlt : k < d
  ·rw [show d - k = (d - (k + 1)) + 1 by omega, sqK] at heq
   have hkd : ((k : Int) + 1 ≤ d) := by omega
   have hrep : List.replicate (d - k) ([] : List IT) = [] :: List.replicate (d - (k + 1)) [] := by rw [show d - k = (d - (k + 1)) + 1 by omega, List.replicate_succ]
   simp only [zo1]
   simp [hkd]
   rw [hrep]
   have hdn5 : ∀ l ∈ dn, l.length ≤ 500 ∧ ∀ x ∈ l, x.kids.length ≤ 100000 := fun l hl => by
    refine ⟨by have := zeV hl; omega, fun x hx => ?_⟩
    obtain ⟨m, hm, rfl⟩ := List.mem_iff_getElem.1 hl
    have := hkb m hm x hx
    omega
   refine zBs H2 hs2 d hd els dn n (k + 1) (by omega) hdn hel h8 hel2 hn hdn5 (fun hnn => ?_) (fun acc n' hnn hn' => ?_)
   ·rw [hnn] at heq
    exact h1 heq.symm
   ·rw [hnn] at heq
    simp only at heq
    have hj := zm2 els dn (k + 1) (k + 1) 1 [] n hn
    rw [hnn] at hj
    split at hj
    ·cases hj
    simp only [List.nil_append, Option.some.injEq, Prod.mk.injEq] at hj
    obtain ⟨ha, hb⟩ := hj
    have happ : dn ++ acc :: List.replicate (d - (k + 1)) [] = (dn ++ [acc]) ++ List.replicate (d - (k + 1)) [] := by simp
    refine hKb _ _ ⟨d - (k + 1), by omega, Back.at (J := []) (H2 := NI H2 ((dn ++ [acc]) ++ List.replicate (d - (k + 1)) [])) (by rw [happ]; simp) (by simp only [zaQ, List.length_append, List.length_replicate, List.length_cons, List.length_nil]; omega) (zcb hs2 fun x n => zco x n) ?_ ⟨_, _, rfl, k + 1, dn ++ [acc], n', by omega, rfl, rfl, rfl, by simp [hdn], rfl, hn', ?_, ?_, heq⟩⟩
    ·simp only [zaQ, List.length_append, List.length_replicate, hdn, List.length_cons, List.length_nil] at hsF ⊢
     have e1 : k + 1 + (0 + 1) + (d - (k + 1)) = k + 1 + (d - k) := by omega
     rw [e1]
     simpa [zg3, AV.sc, AV.scV, AV.scA, AV.scB] using hsF
    ·rw [zfe, htot]
     simp
     rw [← ha] at hb
     omega
    ·intro m hm x hx
     simp [hdn] at hm
     by_cases hmk : m < dn.length
     ·rw [List.getElem_append_left hmk] at hx
      exact hkb m hmk x hx
     ·obtain rfl : m = dn.length := by omega
      simp at hx
      rw [ha, ziy] at hx
      obtain ⟨i, hi, hx⟩ := hx
      obtain ⟨e, _, hx⟩ := List.mem_flatMap.1 hx
      obtain ⟨r, hr, rfl⟩ := List.mem_map.1 hx
      have hm2 : k + 1 - (1 + i) < dn.length := by omega
      rw [zc4 hm2] at hr
      have := hkb _ hm2 r hr
      show (e :: r.kids).length ≤ dn.length
      rw [List.length_cons]
      omega
  ·obtain rfl : k = d := by omega
   rw [Nat.sub_self, sqK] at heq
   have hkd : ¬ ((k : Int) + 1 ≤ k) := by omega
   simp only [zo1]
   simp [hkd]
   refine ⟨⟨rfl, rfl⟩, h2 dn heq.symm hdn⟩
theorem ztq {d : Nat} : ∀ (us : List (Option LL)) (l l' : LR), (∀ u ∈ us, ∀ s, u = some s → s.length = d + 1) → l.length = d + 1 → zaq l ≤ 500 → zcw d us l = some l' → l'.length = d + 1 ∧ zaq l' ≤ 500
 | [], l, l', _, h1, h2, h => by
  simp only [zcw, Option.some.injEq] at h
  subst h; exact ⟨h1, h2⟩
 | none :: us, l, l', _, _, _, h => by simp [zcw] at h
 | some s :: us, l, l', hu, h1, h2, h => by
  have hs := hu (some s) (by simp) s rfl
  have hj := zhI s d hs l 0 (List.replicate (d + 1) []) (by omega) (by simp) (by simp)
  simp only [ziE] at hj
  rw [zcw, hj] at h
  split at h
  ·cases h
  ·rename_i st n heq
   split at heq
   ·cases heq
   ·simp only [Option.some.injEq, Prod.mk.injEq] at heq
    obtain ⟨rfl, rfl⟩ := heq
    exact ztq us _ l' (fun u hu' => hu u (by simp [hu'])) (by simp) (by omega) h
theorem zto {d : Nat} {us : List (Option LL)} {l : LR} (hu : ∀ u ∈ us, ∀ s, u = some s → s.length = d + 1) (h : zb5 d us = some l) : l.length = d + 1 ∧ zaq l ≤ 500 :=
 ztq us _ l hu (by simp) (by simp) h
def RdD (H : zaa) (lo : Nat) (a : AV) (ls : LL) : Prop :=
 ∃ id cs, lo ≤ id ∧ a = .ms id 0 ls.length ls.length ∧ H[id]? = some (.cells cs) ∧ All2 (RdC H lo IT.cs zak 2) cs ls ∧ cs.Pairwise fun c c' => ∀ b n b' n', c = .ov b n → c' = .ov b' n' → b ≠ b'
def UpO (H' : zaa) (lo : Nat) (r : AV) : Option LL → Prop
 | none => ∃ x, x.isV = true ∧ r = .tup [x, .bool false]
 | some ls => ∃ x, r = .tup [x, .bool true] ∧ RdD H' lo x ls
theorem RdD.lower {H : zaa} {lo lo' : Nat} {a : AV} {ls : LL} (h : RdD H lo a ls) (hl : lo' ≤ lo) : RdD H lo' a ls := by
 obtain ⟨id, cs, h1, h2, h3, h4, h5⟩ := h
 exact ⟨id, cs, by omega, h2, h3, h4.mono fun _ _ hc => hc.pre ⟨[], by simp⟩ hl, h5⟩
theorem zuo {α : Type} : ∀ (b : Nat) (ls : List (List α)), (∀ c ∈ vcs b ls, ∀ x n, c = .ov x n → b ≤ x) ∧ (vcs b ls).Pairwise fun c c' => ∀ x n x' n', c = .ov x n → c' = .ov x' n' → x ≠ x'
 | _, [] => ⟨by simp [vcs], by simp [vcs]⟩
 | b, l :: ls => by
  obtain ⟨h1, h2⟩ := zuo (b + 1) ls
  refine ⟨fun c hc x n e => ?_, ?_⟩
  ·rcases List.mem_cons.1 hc with rfl | hc
   ·injection e with e1 e2; omega
   ·have := h1 c hc x n e; omega
  ·rw [vcs, List.pairwise_cons]
   refine ⟨fun c hc x n x' n' e e' => ?_, h2⟩
   injection e with e1 e2
   have := h1 c hc x' n' e'
   omega
theorem zlc (lo : Nat) (H1 : zaa) (st : LL) (h : lo ≤ H1.length) : RdD (NI H1 st) lo (.ms H1.length 0 st.length st.length) st := by
 obtain ⟨id, cs, h1, h2, h3, h4⟩ := zlb IT.cs zak 2 lo H1 [] st h
 simp only [List.append_nil] at h3 h4
 injection h2 with h5
 subst h5
 have := zla IT.cs zak 2 H1 st
 rw [h3] at this
 injection this with this
 injection this with this
 exact ⟨H1.length, cs, h1, rfl, h3, h4, by rw [this]; exact (zuo _ _).2⟩
def ncF (data : List Dat) (t : VT) : Nat := match data[t.num.toNat]? with
 | some D => D.cons.length
 | none => 0
theorem zBr (data : List Dat) (hk : zaP data) (H : zaa) (d : Nat) (hd : d ≤ 6) (U : VT → Option LL) (t : VT) (ht : t.nodes ≤ 1000) (nc : Nat) (hnc : nc ≤ 20) (hU : ∀ (c : Nat) ps, 0 < d → zan data t c = some ps → ps.length ≤ 1000 ∧ ∀ p ∈ ps, UpC data (d - 1) p (U p))
  (H1 : zaa) (hs1 : HSc H1) (id : Nat) (hid : H1[id]? = some (.cells t.cs)) {K : Kt}
  (h1 : zcT (zan data) (fun _ => nc) d U t = none → ∀ X, H1 <+: X → K (.tup [.snil, .bool false]) X)
  (h2 : ∀ dn X, H1 <+: X → HSc X → zcT (zan data) (fun _ => nc) d U t = some dn → dn.length = d + 1 → K (.tup [.ms X.length 0 (d + 1) (d + 1), .bool true]) (NI X dn)) :
  zj5 (.sl (data.map Dat.cs) .none) (.int .i64 d) (.ptr id 0) (.ms H1.length 0 (d + 1) (d + 1)) (.int .i64 nc) (.int .i64 0) (NI H1 (List.replicate (d + 1) [])) K := by
 generalize hR : (fun c : Nat => if d = 0 then (none : Option (Option LR)) else (zan data t c).map fun ps => zb5 (d - 1) (ps.map U)) = R
 have hseq : zcT (zan data) (fun _ => nc) d U t = match elG R nc 0 (List.replicate (d + 1) []) with
   | none => none
   | some els => sqK els d 0 [[.mk 0 []]] 1 := by rw [← hR]; rfl
 rw [hseq] at h1 h2
 have hidl := (List.getElem?_eq_some_iff.1 hid).1
 refine zHD (Inv := fun q t35 H' => ∃ (c : Nat) (st : LL), c ≤ nc ∧ q = nc - c ∧ t35 = .int .i64 c ∧ H' = NI H1 st ∧ st.length = d + 1 ∧ zaq st ≤ 500 * c ∧ elG R (nc - c) c st = elG R nc 0 (List.replicate (d + 1) [])) nc ?_ ?_
 ·intro _; exact ⟨0, _, by omega, by omega, rfl, rfl, by simp, by simp, by simp⟩
 ·rintro q t35 H' ⟨c, st, hc, rfl, rfl, rfl, hl, ht5, heq⟩ hsc hlen hsF Kb hKb
  have hid' : ∀ J, (NI H1 st ++ J)[id]? = some (.cells t.cs) := fun J => by
   obtain ⟨J', hJ⟩ := zca IT.cs zak 2 H1 st
   show (NX IT.cs zak 2 H1 st ++ J)[id]? = _
   rw [← hJ, List.append_assoc, List.getElem?_append_left hidl]; exact hid
  have hid0 : (NI H1 st)[id]? = some (.cells t.cs) := by simpa using hid' []
  by_cases hlt : c < nc
  ·rw [show nc - c = (nc - (c + 1)) + 1 by omega, elG] at heq
   obtain ⟨x, y, z, hvx, hx, hy, hz⟩ := zaX t
   have hskip : R c = none → zg6 (.sl (data.map Dat.cs) .none) (.int .i64 d) (.ptr id 0) (.ms H1.length 0 (d + 1) (d + 1)) (.int .i64 nc) (.int .i64 c) (NI H1 st) K Kb := fun hr => by
    rw [hr] at heq
    simp [zg6, zpb]
    rw [zam (by omega) (by omega)]
    refine hKb _ _ ⟨nc - (c + 1), by omega, Back.at (J := []) (H2 := NI H1 st) (by simp) (by simp only [zaQ, List.length_replicate]; omega) hsc ?_ ⟨_, rfl, c + 1, st, by omega, rfl, by simp, rfl, hl, by omega, heq⟩⟩
    simp only [zaQ] at hsF ⊢
    simpa [zfv, AV.sc, AV.scV, AV.scA, AV.scB] using hsF
   simp [zo2, hlt, hid0, hvx, hx, hy, hz]
   rw [← hvx]
   refine zwK data hk t ht c _ _ ?_
   cases hp : zan data t c with
   | none =>
    simp [zbL, zai]
    exact hskip (by rw [← hR]; simp only [hp]; split <;> rfl)
   | some ps =>
    simp [zbL, zai]
    by_cases hd0 : d = 0
    ·subst hd0
     exact hskip (by rw [← hR]; simp)
    ·have hrc : R c = some (zb5 (d - 1) (ps.map U)) := by rw [← hR]; simp [hd0, hp]
     rw [hrc] at heq
     obtain ⟨hpl, hUp⟩ := hU c ps (by omega) hp
     have hdi : ¬ ((d : Int) = 0) := by omega
     have hdb : ((d : Int) == 0) = false := by simpa using hd0
     simp only [hdb, zcq]
     rw [zam (by omega) (by omega), show (d : Int) - 1 = ((d - 1 : Nat) : Int) by omega]
     refine zwc data (d - 1) (by omega) U ps hUp hpl _ _ ?_
     cases hrw : zb5 (d - 1) (ps.map U) with
     | none =>
      rw [hrw] at heq
      simp [zgA]
      refine ⟨⟨rfl, rfl⟩, ?_⟩
      rw [← heq] at h1
      exact h1 rfl _ (zca _ _ _ _ _)
     | some ls =>
      rw [hrw] at heq
      have hlen2 := zto (fun u hu s hs => by
       obtain ⟨p, hp1, rfl⟩ := List.mem_map.1 hu
       exact ((hUp p hp1).1 s hs).1) hrw
      simp [zgA, zsv]
      have hap := zlp c ls 0 st (by omega)
      refine zBo H1 hs1 d st hl (by omega) c (by omega) ls (by omega) hlen2.2 (by omega) ?_
      refine hKb _ _ ⟨nc - (c + 1), by omega, Back.at (J := []) (H2 := NI H1 (apE c ls 0 st)) (by simp) (by simp only [zaQ, List.length_replicate, zeJ]; omega) (zcb hs1 fun x n => zco x n) ?_ ⟨_, rfl, c + 1, _, by omega, rfl, rfl, rfl, by simpa using hl, by omega, heq⟩⟩
      simp only [zaQ, zeJ] at hsF ⊢
      simpa [zfv, AV.sc, AV.scV, AV.scA, AV.scB] using hsF
  ·obtain rfl : c = nc := by omega
   rw [Nat.sub_self, elG] at heq
   rw [← heq] at h1 h2
   simp only [zo2]
   simp
   rw [zam (by omega) (by omega)]
   simp [za4, zcO, zau, zaH]
   refine ⟨by omega, ⟨rfl, rfl⟩, ?_⟩
   have h8 : RdL (NI H1 st) 0 IT.cs zak 2 (.ms H1.length 0 (d + 1) (d + 1)) st := by
    have := zlb IT.cs zak 2 0 H1 [] st (Nat.zero_le _)
    rw [hl] at this
    simpa using this
   have key := zBq (K := K) (NI H1 st) hsc d (by omega) st hl h8 (fun l hl => by have := zeV hl; omega) (fun hn X hp => h1 hn X (List.IsPrefix.trans (zca _ _ _ _ _) hp)) (fun dn hn hdl => h2 dn (NI H1 st) (zca _ _ _ _ _) hsc hn hdl)
   unfold zj4 at key ⊢
   exact ALoop.nx1 IT.cs zak 2 d (.mk 0 []) _ ⟨.refl _, .snil, trivial⟩ key
theorem zHK (data : List Dat) (hk : zaP data) (d : Nat) (hd : d ≤ 6) (U : VT → Option LL) (t : VT) (ht : t.nodes ≤ 1000) (hn0 : 0 ≤ t.num) (hn1 : t.num.toNat < data.length) (hU : ∀ (c : Nat) ps, 0 < d → zan data t c = some ps → ps.length ≤ 1000 ∧ ∀ p ∈ ps, UpC data (d - 1) p (U p))
  (H : zaa) (K : Kt) (hK : ∀ r H', H <+: H' → UpO H' H.length r (zcT (zan data) (ncF data) d U t) → K r H') :
  ACalls tP zmo [.sl (data.map Dat.cs) .none, .agg t.cs, .int .i64 d] H K := by
 refine zHJ fun hs => ?_
 obtain ⟨k, n, ks⟩ := t
 have hn1' : n.toNat < data.length := hn1
 have hn0' : 0 ≤ n := hn0
 have hnc : ncF data (.mk k n ks) = data[n.toNat].cons.length := by simp [ncF, VT.num, hn1']
 have hncb : data[n.toNat].cons.length ≤ 20 := by
  have := (hk.2 _ (List.getElem_mem hn1')).2.1; omega
 have hsf : zcT (zan data) (ncF data) d U (.mk k n ks) = zcT (zan data) (fun _ => data[n.toNat].cons.length) d U (.mk k n ks) := by unfold zcT; rw [hnc]
 rw [hsf] at hK
 have hnl : n < (data.length : Int) := by omega
 simp [zwd, VT.cs]
 rw [zam (by omega) (by omega)]
 simp [za4, hn0', hnl, hn1', Dat.cs]
 refine ⟨by omega, ?_⟩
 have hs1 : HSc (H ++ [AB.cells [AV.int IntKind.i64 k, AV.int IntKind.i64 n, AV.sl (VT.css ks) Tok.none]]) := hs.append (by simp [AB.sc, AV.scA, AV.scB])
 have hln1 : (H ++ [AB.cells [AV.int IntKind.i64 k, AV.int IntKind.i64 n, AV.sl (VT.css ks) Tok.none]]).length = H.length + 1 := by simp
 have key := zBr data hk H d hd U (.mk k n ks) ht data[n.toNat].cons.length hncb hU _ hs1 H.length (by simp [VT.cs]) (K := K) (fun hn X hp => ?_) (fun dn X hp hsX hn hdl => ?_)
 ·rw [hln1] at key
  have e1 : H ++ [AB.cells [AV.int IntKind.i64 k, AV.int IntKind.i64 n, AV.sl (VT.css ks) Tok.none], AB.cells (List.replicate (d + 1) AV.snil)] = (H ++ [AB.cells [AV.int IntKind.i64 k, AV.int IntKind.i64 n, AV.sl (VT.css ks) Tok.none]]) ++ [AB.cells (List.replicate (d + 1) AV.snil)] := by simp
  rw [e1]
  unfold zj5 at key ⊢
  exact ALoop.nx IT.cs zak 2 (d + 1) key
 ·rw [hn] at hK
  exact hK _ _ (List.IsPrefix.trans ⟨_, rfl⟩ hp) ⟨_, rfl, rfl⟩
 ·rw [hn] at hK
  have hpl := hp.length_le
  have := zlc H.length X dn (by rw [hln1] at hpl; omega)
  rw [hdl] at this
  exact hK _ _ (List.IsPrefix.trans (List.IsPrefix.trans ⟨_, rfl⟩ hp) (zca _ _ _ _ _)) ⟨_, rfl, this⟩
end Go.Proofs.YtddlhljflggenaaGreatDoor
