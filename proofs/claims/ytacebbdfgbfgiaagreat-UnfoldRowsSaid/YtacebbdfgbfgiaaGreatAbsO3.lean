import Derived.Test.YtacebbdfgbfgiaaGreatKNum
import Derived.Test.YtacebbdfgbfgiaaGreatProg
import Derived.KernelRfl
import Derived.Test.YtacebbdfgbfgiaaGreatKI2
import Derived.Test.YtacebbdfgbfgiaaGreatAbsQ1
import Derived.Test.YtacebbdfgbfgiaaGreatKGY3
import Derived.Lib.AppendStr
import Derived.Lib.UnsafeStr
import Derived.Sort.Grow
import Derived.Deep.Draws
set_option linter.unusedSimpArgs false
set_option linter.unusedVariables false
namespace Go.Proofs.YtacebbdfgbfgiaaGreat
open Go Go.Abs
set_option maxRecDepth 100000
def zD4 (_ : Nat) : List Bool := []
noncomputable def zD5 : Code := Tryz.f70.body.getD .skip
def ztd (t0 : AV) (H : zaa) (K : Kt) : Prop :=
 zaq t0 H fun t1 H =>
 zaf 0 t1 fun t3 =>
 zad false 1 t3 H fun t4 =>
 ACalls tP zkP [t4] H fun t5 H =>
 zab t5 true H (fun K' => zad true 4 t1 H (K' · H)) fun t7 H =>
 zab t5 true H (fun K' => ACalls tP zkQ [t7] H K') fun t8 H =>
 zaj t5 t8 (.bool false) fun t9 =>
 zab t9 true H (fun K' => zad true 4 t1 H (K' · H)) fun t11 H =>
 zab t9 true H (fun K' => ACalls tP zkS [t11] H K') fun t12 H =>
 zaj t9 t12 (.bool false) fun t13 =>
 zab t13 true H (fun K' => zad true 4 t1 H (K' · H)) fun t15 H =>
 zab t13 true H (fun K' => ACalls tP zkT [t15] H K') fun t16 H =>
 zaj t13 t16 (.bool false) fun t17 =>
 zab t17 true H (fun K' => zad true 4 t1 H (K' · H)) fun t19 H =>
 zab t17 true H (fun K' => ACalls tP zkU [t19] H K') fun t20 H =>
 zaj t17 t20 (.bool false) fun t21 =>
 zab t21 true H (fun K' => zad true 4 t1 H (K' · H)) fun t23 H =>
 zab t21 true H (fun K' => ACalls tP zkV [t23] H K') fun t24 H =>
 zaj t21 t24 (.bool false) fun t25 =>
 zab t25 true H (fun K' => zad true 4 t1 H (K' · H)) fun t27 H =>
 zab t25 true H (fun K' => ACalls tP zkW [t27] H K') fun t28 H =>
 zaj t25 t28 (.bool false) fun t29 =>
 K t29 H
theorem zD7 {t0 : AV} {H : zaa} {K : Kt} (h : HSc H → ztd t0 H K) : ACalls tP zkM [t0] H K :=
 zam (M := zD4) Tryz.func70 (c := zD5) (by kernel_rfl) (fun hs => Eq.mpr (by kernel_rfl) (h hs))
def zFa (_ : Nat) : List Bool := []
noncomputable def zFb : Code := Tryz.f91.body.getD .skip
def ztA (t0 : AV) (H : zaa) (K : Kt) : Prop :=
 zaq t0 H fun t1 H =>
 zaf 2 t1 fun t3 =>
 zad false 1 t3 H fun t4 =>
 zah 1 t4 fun t5 =>
 zac .leq false t5 (.int .i64 3000) fun t6 =>
 zab t6 true H (fun K' => zaf 2 t1 (K' · H)) fun t8 H =>
 zab t6 true H (fun K' => zad false 1 t8 H (K' · H)) fun t9 H =>
 zab t6 true H (fun K' => zb0 zpD [t1] (K' · H)) fun t10 H =>
 zab t6 true H (fun K' => ACalls tP zdX [t9, t10] H K') fun t11 H =>
 zab t6 true H (fun K' => aUn .not t11 (K' · H)) fun t12 H =>
 zaj t6 t12 (.bool false) fun t13 =>
 K t13 H
theorem zFc {t0 : AV} {H : zaa} {K : Kt} (h : HSc H → ztA t0 H K) : ACalls tP zkQ [t0] H K :=
 zam (M := zFa) Tryz.func91 (c := zFb) (by kernel_rfl) (fun hs => Eq.mpr (by kernel_rfl) (h hs))
def zjI : Nat → List Bool
 | 6 => rl false [1,1,1,2,14,3,59]
 | _ => []
noncomputable def znZ : Code := Tryz.f92.body.getD .skip
noncomputable def zFw : List ResultVar := Tryz.f92.results.toList
def zn0 (t1 t3 t4 t19 t20 t21 : AV) : List AV := ux 1 (t1 :: ux 1 (t3 :: t4 :: ux 14 (t19 :: t20 :: t21 :: ux 59 [])))
def zFu : List Bool := zjI 6
noncomputable def zFs : Code := zao [1, 1, 1, 1, 0, 1, 0, 0] znZ
def zFr (K : Kt) : AExit → List AV → zaa → Prop := zap tP zjI [1, 1, 1, 1, 0, 1, 0] znZ (zaw tP zFw K)
def ztK (t1 t3 t4 t19 t20 t21 : AV) (H : zaa) (K : Kt) : Prop := ALoop tP zFs (zFr K) (zn0 t1 t3 t4 t19 t20 t21) H
def ztJ (t1 t3 t4 t6 t19 t20 t21 : AV) (H : zaa) (K : Kt) (Kb6 : Lt) : Prop :=
 zaf 0 t6 fun t42 =>
 zad false 1 t42 H fun t43 =>
 zci t3 t43 (.bool true) H fun H =>
 zaf 1 t6 fun t44 =>
 zad false 1 t44 H fun t45 =>
 zah 1 t45 fun t46 =>
 zac .gtr false t46 (.int .i64 6) fun t47 =>
 zab t47 false H (fun K' => zaf 0 t1 (K' · H)) fun t49 H =>
 zab t47 false H (fun K' => zad false 1 t49 H (K' · H)) fun t50 H =>
 zab t47 false H (fun K' => zaf 3 t6 (K' · H)) fun t51 H =>
 zab t47 false H (fun K' => zad true 3 t51 H (K' · H)) fun t52 H =>
 zab t47 false H (fun K' => ACalls tP zfw [t50, t52, (.int .i64 0)] H K') fun t53 H =>
 zab t47 false H (fun K' => aUn .not t53 (K' · H)) fun t54 H =>
 zaj t47 (.bool true) t54 fun t55 =>
 zag t55
 (K (.bool false) H)
 (zae H (fun K' => zaf 6 t6 (K' · H)) fun t56 =>
 zae H (fun K' => zan false 1 t56 H (K' · H)) fun t57 =>
 zae H (fun K' => zac .lss false t57 (.int .i64 0) (K' · H)) fun t58 =>
 zae H (fun K' => K' t58 H) fun t59 =>
 zab t59 false H (fun K' => zae H (fun K'' => zaf 6 t6 (K'' · H)) (K' · H)) fun t60 H =>
 zab t59 false H (fun K' => zae H (fun K'' => zan false 1 t60 H (K'' · H)) (K' · H)) fun t61 H =>
 zab t59 false H (fun K' => zae H (fun K'' => zaf 3 t1 (K'' · H)) (K' · H)) fun t62 H =>
 zab t59 false H (fun K' => zae H (fun K'' => zan false 1 t62 H (K'' · H)) (K' · H)) fun t63 H =>
 zab t59 false H (fun K' => zae H (fun K'' => zah 1 t63 (K'' · H)) (K' · H)) fun t64 H =>
 zab t59 false H (fun K' => zae H (fun K'' => zac .geq false t61 t64 (K'' · H)) (K' · H)) fun t65 H =>
 zae H (fun K' => zaj t59 (.bool true) t65 (K' · H)) fun t66 =>
 zae H (fun K' => K' t66 H) fun t67 =>
 zab t67 false H (fun K' => zae H (fun K'' => zaf 3 t1 (K'' · H)) (K' · H)) fun t68 H =>
 zab t67 false H (fun K' => zae H (fun K'' => zan false 1 t68 H (K'' · H)) (K' · H)) fun t69 H =>
 zab t67 false H (fun K' => zae H (fun K'' => zaf 6 t6 (K'' · H)) (K' · H)) fun t70 H =>
 zab t67 false H (fun K' => zae H (fun K'' => zan false 1 t70 H (K'' · H)) (K' · H)) fun t71 H =>
 zab t67 false H (fun K' => zae H (fun K'' => zai 8 t69 t71 (K'' · H)) (K' · H)) fun t72 H =>
 zab t67 false H (fun K' => zae H (fun K'' => zaf 5 t72 (K'' · H)) (K' · H)) fun t73 H =>
 zab t67 false H (fun K' => zae H (fun K'' => zan true 3 t73 H (K'' · H)) (K' · H)) fun t74 H =>
 zab t67 false H (fun K' => zae H (fun K'' => zaf 3 t6 (K'' · H)) (K' · H)) fun t75 H =>
 zab t67 false H (fun K' => zae H (fun K'' => zan true 3 t75 H (K'' · H)) (K' · H)) fun t76 H =>
 zab t67 false H (fun K' => zbl H (fun H K'' => ACalls tP zvw [t74, t76] H K'') (K' · H)) fun t77 H =>
 zab t67 false H (fun K' => zae H (fun K'' => aUn .not t77 (K'' · H)) (K' · H)) fun t78 H =>
 zae H (fun K' => zaj t67 (.bool true) t78 (K' · H)) fun t79 =>
 zag t79
 (K (.bool false) H)
 (zac .add false t21 (.int .i64 1) fun t80 =>
 Kb6 (zn0 t1 t3 t4 t19 t20 t80) H))
def ztI (t1 t3 t4 t19 t20 t21 : AV) (H : zaa) (K : Kt) (Kb6 : Lt) : Prop :=
 zac .lss false t21 t20 fun t22 =>
 zag t22
 (zai 7 t19 t21 fun t23 =>
 zad true 7 t23 H fun t24 =>
 zau [(.str []), .snil, .snil, (.int .i64 0), (.int .i64 0), .snil, (.int .i64 0)] H fun t6 H =>
 zak 7 t6 t24 H fun H =>
 zaf 0 t6 fun t25 =>
 zad false 1 t25 H fun t26 =>
 zac .eql false t26 (.str []) fun t27 =>
 zag t27
 (ztJ t1 t3 (.bool true) t6 t19 t20 t21 H K Kb6)
 (zab t4 false H (fun K' => K' t3 H) fun t30 H =>
 zab t4 false H (fun K' => zaf 0 t6 (K' · H)) fun t31 H =>
 zab t4 false H (fun K' => zad false 1 t31 H (K' · H)) fun t32 H =>
 zab t4 false H (fun K' => zcN (.bool false) false t30 t32 H (K' · H)) fun t33 H =>
 zaj t4 (.bool true) t33 fun t34 =>
 zab t34 false H (fun K' => zaf 2 t6 (K' · H)) fun t36 H =>
 zab t34 false H (fun K' => zad false 1 t36 H (K' · H)) fun t37 H =>
 zab t34 false H (fun K' => zah 1 t37 (K' · H)) fun t38 H =>
 zab t34 false H (fun K' => zac .gtr false t38 (.int .i64 0) (K' · H)) fun t39 H =>
 zaj t34 (.bool true) t39 fun t40 =>
 zag t40
 (K (.bool false) H)
 (ztJ t1 t3 t4 t6 t19 t20 t21 H K Kb6)))
 (K (.bool true) H)
def ztH (t0 : AV) (H : zaa) (K : Kt) : Prop :=
 zaq t0 H fun t1 H =>
 zaf 1 t1 fun t7 =>
 zad false 1 t7 H fun t8 =>
 zah 1 t8 fun t9 =>
 zac .gtr false t9 (.int .i64 64) fun t10 =>
 zab t10 false H (fun K' => zaf 3 t1 (K' · H)) fun t12 H =>
 zab t10 false H (fun K' => zad false 1 t12 H (K' · H)) fun t13 H =>
 zab t10 false H (fun K' => zah 1 t13 (K' · H)) fun t14 H =>
 zab t10 false H (fun K' => zac .gtr false t14 (.int .i64 3000) (K' · H)) fun t15 H =>
 zaj t10 (.bool true) t15 fun t16 =>
 zag t16
 (K (.bool false) H)
 (zdl H fun t17 H =>
 zaf 1 t1 fun t18 =>
 zad false 1 t18 H fun t19 =>
 zah 1 t19 fun t20 =>
 ztK t1 t17 (.bool false) t19 t20 (.int .i64 0) H K)
theorem zFt {t1 t3 t4 t19 t20 t21 : AV} {H : zaa} {K : Kt} (Inv : Nat → AV → AV → zaa → Prop) (n : Nat) (h0 : HSc H → Inv n t4 t21 H)
  (round : Rd2 (fun t4 => fun t21 => zn0 t1 t3 t4 t19 t20 t21) (fun t4 => fun t21 => fun H Kb6 => ztI t1 t3 t4 t19 t20 t21 H K Kb6) H Inv) : ztK t1 t3 t4 t19 t20 t21 H K :=
 lp2 (M := zjI) zFu t4 t21 (by kernel_rfl) Inv n h0 round
theorem zFv {t0 : AV} {H : zaa} {K : Kt} (h : HSc H → ztH t0 H K) : ACalls tP zkS [t0] H K :=
 zam (M := zjI) Tryz.func92 (c := znZ) (by kernel_rfl) (fun hs => Eq.mpr (by kernel_rfl) (h hs))
def zdK : Nat → List Bool
 | 5 => rl false [1,1,2,2,12,3,54]
 | 11 => rl false [1,1,2,2,25,3,41]
 | 16 => rl false [1,1,2,2,2,1,22,3,12,3,26]
 | _ => []
noncomputable def zf1 : Code := Tryz.f93.body.getD .skip
noncomputable def ztT : List ResultVar := Tryz.f93.results.toList
def zn2 (t1 t4 t5 t18 t19 t20 : AV) : List AV := ux 1 (t1 :: ux 2 (t4 :: t5 :: ux 12 (t18 :: t19 :: t20 :: ux 54 [])))
def zFF : List Bool := zdK 5
noncomputable def zFA : Code := zao [1, 1, 1, 1, 0, 1, 0, 0] zf1
def zFy (K : Kt) : AExit → List AV → zaa → Prop := zap tP zdK [1, 1, 1, 1, 0, 1, 0] zf1 (zaw tP ztT K)
def ztR (t1 t4 t5 t18 t19 t20 : AV) (H : zaa) (K : Kt) : Prop := ALoop tP zFA (zFy K) (zn2 t1 t4 t5 t18 t19 t20) H
def ztP (t1 t4 t5 t31 t32 t33 : AV) : List AV := ux 1 (t1 :: ux 2 (t4 :: t5 :: ux 25 (t31 :: t32 :: t33 :: ux 41 [])))
def ztS : List Bool := zdK 11
noncomputable def zn1 : Code := zao [1, 1, 1, 1, 1, 0, 1, 0, 0] zf1
def ztM (K : Kt) : AExit → List AV → zaa → Prop := zap tP zdK [1, 1, 1, 1, 1, 0, 1, 0] zf1 (zaw tP ztT K)
def ztQ (t1 t4 t5 t31 t32 t33 : AV) (H : zaa) (K : Kt) : Prop := ALoop tP zn1 (ztM K) (ztP t1 t4 t5 t31 t32 t33) H
def zFB (t1 t4 t5 t8 t31 t32 t33 t46 t47 t48 : AV) : List AV := ux 1 (t1 :: ux 2 (t4 :: t5 :: ux 2 (t8 :: ux 22 (t31 :: t32 :: t33 :: ux 12 (t46 :: t47 :: t48 :: ux 26 [])))))
noncomputable def zFz : Code := zao [1, 1, 0, 0, 1, 1, 1, 0, 0] zn1
def zFx (K : Kt) (Kb11 : Lt) : AExit → List AV → zaa → Prop := zap tP zdK [1, 1, 0, 0, 1, 1, 1, 0] zn1 (zbm ztS Kb11 (ztM K))
def zFC (t1 t4 t5 t8 t31 t32 t33 t46 t47 t48 : AV) (H : zaa) (K : Kt) (Kb11 : Lt) : Prop := ALoop tP zFz (zFx K Kb11) (zFB t1 t4 t5 t8 t31 t32 t33 t46 t47 t48) H
def ztN (t1 t4 t5 t31 t32 t33 : AV) (H : zaa) (K : Kt) (Kb11 : Lt) : Prop :=
 zac .lss false t33 t32 fun t34 =>
 zag t34
 (zai 8 t31 t33 fun t36 =>
 zad true 8 t36 H fun t37 =>
 zau [(.int .i64 0), (.int .i64 0), .snil, .snil, .snil, (.int .i64 0), (.int .i64 0), .snil] H fun t9 H =>
 zak 8 t9 t37 H fun H =>
 zaf 3 t9 fun t38 =>
 zad false 1 t38 H fun t39 =>
 zah 1 t39 fun t40 =>
 zaf 4 t9 fun t41 =>
 zad false 1 t41 H fun t42 =>
 zah 1 t42 fun t43 =>
 zac .neq false t40 t43 fun t44 =>
 zag t44
 (K (.bool false) H)
 (zaf 4 t9 fun t45 =>
 zad false 1 t45 H fun t46 =>
 zah 1 t46 fun t47 =>
 zFC t1 t4 t5 t33 t31 t32 t33 t46 t47 (.int .i64 0) H K Kb11))
 (zad false 1 t4 H fun t70 =>
 zaf 3 t1 fun t71 =>
 zad false 1 t71 H fun t72 =>
 zah 1 t72 fun t73 =>
 zac .eql false t70 t73 fun t74 =>
 K t74 H)
def ztO (t1 t4 t5 t18 t19 t20 : AV) (H : zaa) (K : Kt) (Kb5 : Lt) : Prop :=
 zac .lss false t20 t19 fun t21 =>
 zag t21
 (zai 7 t18 t20 fun t22 =>
 zad true 7 t22 H fun t23 =>
 zau [(.str []), .snil, .snil, (.int .i64 0), (.int .i64 0), .snil, (.int .i64 0)] H fun t7 H =>
 zak 7 t7 t23 H fun H =>
 zaf 6 t7 fun t25 =>
 zad false 1 t25 H fun t26 =>
 aCallV tP t5 [t26] H fun t27 H =>
 aUn .not t27 fun t28 =>
 zag t28
 (K (.bool false) H)
 (zac .add false t20 (.int .i64 1) fun t29 =>
 Kb5 (zn2 t1 t4 t5 t18 t19 t29) H))
 (zaf 3 t1 fun t30 =>
 zad false 1 t30 H fun t31 =>
 zah 1 t31 fun t32 =>
 ztQ t1 t4 t5 t31 t32 (.int .i64 0) H K)
def ztL (t0 : AV) (H : zaa) (K : Kt) : Prop :=
 zaq t0 H fun t1 H =>
 zaf 3 t1 fun t12 =>
 zad false 1 t12 H fun t13 =>
 zah 1 t13 fun t14 =>
 zbo 1 [(.bool false)] t14 t14 H fun t15 H =>
 zau [.snil] H fun t3 H =>
 zak 1 t3 t15 H fun H =>
 zau [(.int .i64 0)] H fun t4 H =>
 zak 1 t4 (.int .i64 0) H fun H =>
 zb0 zvx [t3, t4] fun t16 =>
 zaf 1 t1 fun t17 =>
 zad false 1 t17 H fun t18 =>
 zah 1 t18 fun t19 =>
 ztR t1 t4 t16 t18 t19 (.int .i64 0) H K
theorem zFD {t1 t4 t5 t31 t32 t33 : AV} {H : zaa} {K : Kt} (Inv : Nat → AV → zaa → Prop) (n : Nat) (h0 : HSc H → Inv n t33 H)
  (round : Rd1 (fun t33 => ztP t1 t4 t5 t31 t32 t33) (fun t33 => fun H Kb11 => ztN t1 t4 t5 t31 t32 t33 H K Kb11) H Inv) : ztQ t1 t4 t5 t31 t32 t33 H K :=
 lp1 (M := zdK) ztS t33 (by kernel_rfl) Inv n h0 round
theorem zFE {t1 t4 t5 t18 t19 t20 : AV} {H : zaa} {K : Kt} (Inv : Nat → AV → zaa → Prop) (n : Nat) (h0 : HSc H → Inv n t20 H)
  (round : Rd1 (fun t20 => zn2 t1 t4 t5 t18 t19 t20) (fun t20 => fun H Kb5 => ztO t1 t4 t5 t18 t19 t20 H K Kb5) H Inv) : ztR t1 t4 t5 t18 t19 t20 H K :=
 lp1 (M := zdK) zFF t20 (by kernel_rfl) Inv n h0 round
theorem zFG {t0 : AV} {H : zaa} {K : Kt} (h : HSc H → ztL t0 H K) : ACalls tP zkT [t0] H K :=
 zam (M := zdK) Tryz.func93 (c := zf1) (by kernel_rfl) (fun hs => Eq.mpr (by kernel_rfl) (h hs))
def zdL : Nat → List Bool
 | 5 => rl false [1,1,2,2,12,3,41]
 | 11 => rl false [1,1,2,2,32,3,21]
 | 14 => rl false [1,1,2,2,32,3,4,3,14]
 | _ => []
noncomputable def zf2 : Code := Tryz.f94.body.getD .skip
noncomputable def zt2 : List ResultVar := Tryz.f94.results.toList
def zn4 (t1 t4 t5 t18 t19 t20 : AV) : List AV := ux 1 (t1 :: ux 2 (t4 :: t5 :: ux 12 (t18 :: t19 :: t20 :: ux 41 [])))
def zFP : List Bool := zdL 5
noncomputable def zFK : Code := zao [1, 1, 1, 1, 0, 1, 0, 0] zf2
def zFI (K : Kt) : AExit → List AV → zaa → Prop := zap tP zdL [1, 1, 1, 1, 0, 1, 0] zf2 (zaw tP zt2 K)
def zt0 (t1 t4 t5 t18 t19 t20 : AV) (H : zaa) (K : Kt) : Prop := ALoop tP zFK (zFI K) (zn4 t1 t4 t5 t18 t19 t20) H
def ztY (t1 t4 t5 t38 t39 t40 : AV) : List AV := ux 1 (t1 :: ux 2 (t4 :: t5 :: ux 32 (t38 :: t39 :: t40 :: ux 21 [])))
def zt1 : List Bool := zdL 11
noncomputable def zn3 : Code := zao [1, 1, 1, 1, 1, 0, 1, 0, 0] zf2
def ztV (K : Kt) : AExit → List AV → zaa → Prop := zap tP zdL [1, 1, 1, 1, 1, 0, 1, 0] zf2 (zaw tP zt2 K)
def ztZ (t1 t4 t5 t38 t39 t40 : AV) (H : zaa) (K : Kt) : Prop := ALoop tP zn3 (ztV K) (ztY t1 t4 t5 t38 t39 t40) H
def zFL (t1 t4 t5 t38 t39 t40 t45 t46 t47 : AV) : List AV := ux 1 (t1 :: ux 2 (t4 :: t5 :: ux 32 (t38 :: t39 :: t40 :: ux 4 (t45 :: t46 :: t47 :: ux 14 []))))
noncomputable def zFJ : Code := zao [1, 1, 0, 0, 1, 1, 0, 0] zn3
def zFH (K : Kt) (Kb11 : Lt) : AExit → List AV → zaa → Prop := zap tP zdL [1, 1, 0, 0, 1, 1, 0] zn3 (zbm zt1 Kb11 (ztV K))
def zFM (t1 t4 t5 t38 t39 t40 t45 t46 t47 : AV) (H : zaa) (K : Kt) (Kb11 : Lt) : Prop := ALoop tP zFJ (zFH K Kb11) (zFL t1 t4 t5 t38 t39 t40 t45 t46 t47) H
def ztW (t1 t4 t5 t38 t39 t40 : AV) (H : zaa) (K : Kt) (Kb11 : Lt) : Prop :=
 zac .lss false t40 t39 fun t41 =>
 zag t41
 (zai 8 t38 t40 fun t42 =>
 zad true 8 t42 H fun t43 =>
 zau [(.int .i64 0), (.int .i64 0), .snil, .snil, .snil, (.int .i64 0), (.int .i64 0), .snil] H fun t9 H =>
 zak 8 t9 t43 H fun H =>
 zaf 3 t9 fun t44 =>
 zad false 1 t44 H fun t45 =>
 zah 1 t45 fun t46 =>
 zFM t1 t4 t5 t38 t39 t40 t45 t46 (.int .i64 0) H K Kb11)
 (zad false 1 t4 H fun t57 =>
 zaf 2 t1 fun t58 =>
 zad false 1 t58 H fun t59 =>
 zah 1 t59 fun t60 =>
 zac .eql false t57 t60 fun t61 =>
 K t61 H)
def ztX (t1 t4 t5 t18 t19 t20 : AV) (H : zaa) (K : Kt) (Kb5 : Lt) : Prop :=
 zac .lss false t20 t19 fun t21 =>
 zag t21
 (zai 7 t18 t20 fun t22 =>
 zad true 7 t22 H fun t23 =>
 zau [(.str []), .snil, .snil, (.int .i64 0), (.int .i64 0), .snil, (.int .i64 0)] H fun t7 H =>
 zak 7 t7 t23 H fun H =>
 zaf 1 t7 fun t25 =>
 zad false 1 t25 H fun t26 =>
 aCallV tP t5 [t26] H fun t27 H =>
 aUn .not t27 fun t28 =>
 zab t28 false H (fun K' => K' t5 H) fun t30 H =>
 zab t28 false H (fun K' => zaf 2 t7 (K' · H)) fun t31 H =>
 zab t28 false H (fun K' => zad false 1 t31 H (K' · H)) fun t32 H =>
 zab t28 false H (fun K' => aCallV tP t30 [t32] H K') fun t33 H =>
 zab t28 false H (fun K' => aUn .not t33 (K' · H)) fun t34 H =>
 zaj t28 (.bool true) t34 fun t35 =>
 zag t35
 (K (.bool false) H)
 (zac .add false t20 (.int .i64 1) fun t36 =>
 Kb5 (zn4 t1 t4 t5 t18 t19 t36) H))
 (zaf 3 t1 fun t37 =>
 zad false 1 t37 H fun t38 =>
 zah 1 t38 fun t39 =>
 ztZ t1 t4 t5 t38 t39 (.int .i64 0) H K)
def ztU (t0 : AV) (H : zaa) (K : Kt) : Prop :=
 zaq t0 H fun t1 H =>
 zaf 2 t1 fun t12 =>
 zad false 1 t12 H fun t13 =>
 zah 1 t13 fun t14 =>
 zbo 1 [(.bool false)] t14 t14 H fun t15 H =>
 zau [.snil] H fun t3 H =>
 zak 1 t3 t15 H fun H =>
 zau [(.int .i64 0)] H fun t4 H =>
 zak 1 t4 (.int .i64 0) H fun H =>
 zb0 zvy [t3, t4] fun t16 =>
 zaf 1 t1 fun t17 =>
 zad false 1 t17 H fun t18 =>
 zah 1 t18 fun t19 =>
 zt0 t1 t4 t16 t18 t19 (.int .i64 0) H K
theorem zFN {t1 t4 t5 t38 t39 t40 : AV} {H : zaa} {K : Kt} (Inv : Nat → AV → zaa → Prop) (n : Nat) (h0 : HSc H → Inv n t40 H)
  (round : Rd1 (fun t40 => ztY t1 t4 t5 t38 t39 t40) (fun t40 => fun H Kb11 => ztW t1 t4 t5 t38 t39 t40 H K Kb11) H Inv) : ztZ t1 t4 t5 t38 t39 t40 H K :=
 lp1 (M := zdL) zt1 t40 (by kernel_rfl) Inv n h0 round
theorem zFO {t1 t4 t5 t18 t19 t20 : AV} {H : zaa} {K : Kt} (Inv : Nat → AV → zaa → Prop) (n : Nat) (h0 : HSc H → Inv n t20 H)
  (round : Rd1 (fun t20 => zn4 t1 t4 t5 t18 t19 t20) (fun t20 => fun H Kb5 => ztX t1 t4 t5 t18 t19 t20 H K Kb5) H Inv) : zt0 t1 t4 t5 t18 t19 t20 H K :=
 lp1 (M := zdL) zFP t20 (by kernel_rfl) Inv n h0 round
theorem zFQ {t0 : AV} {H : zaa} {K : Kt} (h : HSc H → ztU t0 H K) : ACalls tP zkU [t0] H K :=
 zam (M := zdL) Tryz.func94 (c := zf2) (by kernel_rfl) (fun hs => Eq.mpr (by kernel_rfl) (h hs))
def zjJ : Nat → List Bool
 | 6 => rl false [4,2,9,3,25]
 | _ => []
noncomputable def zn5 : Code := Tryz.f95.body.getD .skip
noncomputable def zFW : List ResultVar := Tryz.f95.results.toList
def zn6 (t4 t5 t15 t16 t17 : AV) : List AV := ux 4 (t4 :: t5 :: ux 9 (t15 :: t16 :: t17 :: ux 25 []))
def zFU : List Bool := zjJ 6
noncomputable def zFS : Code := zao [1, 1, 1, 1, 1, 0, 1, 0, 0] zn5
def zFR (K : Kt) : AExit → List AV → zaa → Prop := zap tP zjJ [1, 1, 1, 1, 1, 0, 1, 0] zn5 (zaw tP zFW K)
def zt5 (t4 t5 t15 t16 t17 : AV) (H : zaa) (K : Kt) : Prop := ALoop tP zFS (zFR K) (zn6 t4 t5 t15 t16 t17) H
def zt4 (t4 t5 t15 t16 t17 : AV) (H : zaa) (K : Kt) (Kb6 : Lt) : Prop :=
 zac .lss false t17 t16 fun t18 =>
 zag t18
 (zai 7 t15 t17 fun t19 =>
 zad true 7 t19 H fun t20 =>
 zau [(.str []), .snil, .snil, (.int .i64 0), (.int .i64 0), .snil, (.int .i64 0)] H fun t7 H =>
 zak 7 t7 t20 H fun H =>
 zad false 1 t4 H fun t21 =>
 zaf 1 t7 fun t22 =>
 zad false 1 t22 H fun t23 =>
 aCallV tP t21 [t23, (.bool true)] H fun t24 H =>
 zad false 1 t4 H fun t25 =>
 zaf 2 t7 fun t26 =>
 zad false 1 t26 H fun t27 =>
 aCallV tP t25 [t27, (.bool true)] H fun t28 H =>
 zad false 1 t5 H fun t29 =>
 zaf 6 t7 fun t30 =>
 zad false 1 t30 H fun t31 =>
 aCallV tP t29 [t31] H fun t32 H =>
 aUn .not t32 fun t33 =>
 zag t33
 (K (.bool false) H)
 (zad false 1 t4 H fun t34 =>
 zaf 1 t7 fun t35 =>
 zad false 1 t35 H fun t36 =>
 aCallV tP t34 [t36, (.bool false)] H fun t37 H =>
 zad false 1 t4 H fun t38 =>
 zaf 2 t7 fun t39 =>
 zad false 1 t39 H fun t40 =>
 aCallV tP t38 [t40, (.bool false)] H fun t41 H =>
 zac .add false t17 (.int .i64 1) fun t42 =>
 Kb6 (zn6 t4 t5 t15 t16 t42) H))
 (K (.bool true) H)
def zt3 (t0 : AV) (H : zaa) (K : Kt) : Prop :=
 zaq t0 H fun t1 H =>
 zaf 2 t1 fun t8 =>
 zad false 1 t8 H fun t9 =>
 zah 1 t9 fun t10 =>
 zbo 1 [(.bool false)] t10 t10 H fun t11 H =>
 zau [.snil] H fun t3 H =>
 zak 1 t3 t11 H fun H =>
 zb0 zvz [t3] fun t12 =>
 zau [.nilfn] H fun t4 H =>
 zak 1 t4 t12 H fun H =>
 zau [.nilfn] H fun t5 H =>
 zb0 zvA [t1, t3, t4, t5] fun t13 =>
 zak 1 t5 t13 H fun H =>
 zaf 1 t1 fun t14 =>
 zad false 1 t14 H fun t15 =>
 zah 1 t15 fun t16 =>
 zt5 t4 t5 t15 t16 (.int .i64 0) H K
theorem zFT {t4 t5 t15 t16 t17 : AV} {H : zaa} {K : Kt} (Inv : Nat → AV → zaa → Prop) (n : Nat) (h0 : HSc H → Inv n t17 H)
  (round : Rd1 (fun t17 => zn6 t4 t5 t15 t16 t17) (fun t17 => fun H Kb6 => zt4 t4 t5 t15 t16 t17 H K Kb6) H Inv) : zt5 t4 t5 t15 t16 t17 H K :=
 lp1 (M := zjJ) zFU t17 (by kernel_rfl) Inv n h0 round
theorem zFV {t0 : AV} {H : zaa} {K : Kt} (h : HSc H → zt3 t0 H K) : ACalls tP zkV [t0] H K :=
 zam (M := zjJ) Tryz.func95 (c := zn5) (by kernel_rfl) (fun hs => Eq.mpr (by kernel_rfl) (h hs))
def zej : Nat → List Bool
 | 3 => rl false [1,1,1,1,12,3,30]
 | 9 => rl false [3,1,24,3,18]
 | _ => []
noncomputable def zf3 : Code := Tryz.f96.body.getD .skip
noncomputable def zub : List ResultVar := Tryz.f96.results.toList
def zn7 (t1 t3 t16 t17 t18 : AV) : List AV := ux 1 (t1 :: ux 1 (t3 :: ux 12 (t16 :: t17 :: t18 :: ux 30 [])))
def zF3 : List Bool := zej 3
noncomputable def zFZ : Code := zao [1, 1, 0, 1, 0, 0] zf3
def zFX (K : Kt) : AExit → List AV → zaa → Prop := zap tP zej [1, 1, 0, 1, 0] zf3 (zaw tP zub K)
def zt9 (t1 t3 t16 t17 t18 : AV) (H : zaa) (K : Kt) : Prop := ALoop tP zFZ (zFX K) (zn7 t1 t3 t16 t17 t18) H
def zn8 (t3 t28 t29 t30 : AV) : List AV := ux 3 (t3 :: ux 24 (t28 :: t29 :: t30 :: ux 18 []))
def zF4 : List Bool := zej 9
noncomputable def zF0 : Code := zao [1, 1, 1, 0, 1, 0, 0] zf3
def zFY (K : Kt) : AExit → List AV → zaa → Prop := zap tP zej [1, 1, 1, 0, 1, 0] zf3 (zaw tP zub K)
def zua (t3 t28 t29 t30 : AV) (H : zaa) (K : Kt) : Prop := ALoop tP zF0 (zFY K) (zn8 t3 t28 t29 t30) H
def zt8 (t3 t28 t29 t30 : AV) (H : zaa) (K : Kt) (Kb9 : Lt) : Prop :=
 zac .lss false t30 t29 fun t31 =>
 zag t31
 (zai 7 t28 t30 fun t33 =>
 zad true 7 t33 H fun t34 =>
 zau [(.str []), .snil, .snil, (.int .i64 0), (.int .i64 0), .snil, (.int .i64 0)] H fun t7 H =>
 zak 7 t7 t34 H fun H =>
 zaf 0 t7 fun t35 =>
 zad false 1 t35 H fun t36 =>
 zac .eql false t36 (.str []) fun t37 =>
 zab t37 true H (fun K' => K' t3 H) fun t39 H =>
 zab t37 true H (fun K' => za9 t39 (K' · H)) fun t40 H =>
 zab t37 true H (fun K' => zaf 4 t40 (K' · H)) fun t41 H =>
 zab t37 true H (fun K' => zad false 1 t41 H (K' · H)) fun t42 H =>
 zab t37 true H (fun K' => K' t30 H) fun t43 H =>
 zab t37 true H (fun K' => zai 1 t42 t43 (K' · H)) fun t44 H =>
 zab t37 true H (fun K' => zad false 1 t44 H (K' · H)) fun t45 H =>
 zab t37 true H (fun K' => zac .neq false t45 (.int .i64 1) (K' · H)) fun t46 H =>
 zaj t37 t46 (.bool false) fun t47 =>
 zag t47
 (K (.bool false) H)
 (zac .add false t30 (.int .i64 1) fun t48 =>
 Kb9 (zn8 t3 t28 t29 t48) H))
 (K (.bool true) H)
def zt7 (t1 t3 t16 t17 t18 : AV) (H : zaa) (K : Kt) (Kb3 : Lt) : Prop :=
 zac .lss false t18 t17 fun t19 =>
 zag t19
 (zai 8 t16 t18 fun t20 =>
 zad true 8 t20 H fun t21 =>
 zau [(.int .i64 0), (.int .i64 0), .snil, .snil, .snil, (.int .i64 0), (.int .i64 0), .snil] H fun t5 H =>
 zak 8 t5 t21 H fun H =>
 zad true 8 t5 H fun t23 =>
 ACalls tP zvB [t3, t23] H fun t24 H =>
 aUn .not t24 fun t25 =>
 zag t25
 (K (.bool false) H)
 (zac .add false t18 (.int .i64 1) fun t26 =>
 Kb3 (zn7 t1 t3 t16 t17 t26) H))
 (zaf 1 t1 fun t27 =>
 zad false 1 t27 H fun t28 =>
 zah 1 t28 fun t29 =>
 zua t3 t28 t29 (.int .i64 0) H K)
def zt6 (t0 : AV) (H : zaa) (K : Kt) : Prop :=
 zaq t0 H fun t1 H =>
 zae H (fun K' => zan true 4 t1 H (K' · H)) fun t8 =>
 zae H (fun K' => zaf 1 t1 (K' · H)) fun t9 =>
 zae H (fun K' => zan false 1 t9 H (K' · H)) fun t10 =>
 zae H (fun K' => zah 1 t10 (K' · H)) fun t11 =>
 zbo 8 [(.int .i64 0)] t11 t11 H fun t12 H =>
 zae H (fun K' => zav [.snil, .snil, .snil, .snil, .snil] [(0, 4), (4, 1)] [(0, t8), (1, t12)] (K' · H)) fun t13 =>
 zaq t13 H fun t14 H =>
 zae H (fun K' => K' t14 H) fun t3 =>
 zaf 3 t1 fun t15 =>
 zad false 1 t15 H fun t16 =>
 zah 1 t16 fun t17 =>
 zt9 t1 t3 t16 t17 (.int .i64 0) H K
theorem zF2 {t3 t28 t29 t30 : AV} {H : zaa} {K : Kt} (Inv : Nat → AV → zaa → Prop) (n : Nat) (h0 : HSc H → Inv n t30 H)
  (round : Rd1 (fun t30 => zn8 t3 t28 t29 t30) (fun t30 => fun H Kb9 => zt8 t3 t28 t29 t30 H K Kb9) H Inv) : zua t3 t28 t29 t30 H K :=
 lp1 (M := zej) zF4 t30 (by kernel_rfl) Inv n h0 round
theorem zF1 {t1 t3 t16 t17 t18 : AV} {H : zaa} {K : Kt} (Inv : Nat → AV → zaa → Prop) (n : Nat) (h0 : HSc H → Inv n t18 H)
  (round : Rd1 (fun t18 => zn7 t1 t3 t16 t17 t18) (fun t18 => fun H Kb3 => zt7 t1 t3 t16 t17 t18 H K Kb3) H Inv) : zt9 t1 t3 t16 t17 t18 H K :=
 lp1 (M := zej) zF3 t18 (by kernel_rfl) Inv n h0 round
theorem zF5 {t0 : AV} {H : zaa} {K : Kt} (h : HSc H → zt6 t0 H K) : ACalls tP zkW [t0] H K :=
 zam (M := zej) Tryz.func96 (c := zf3) (by kernel_rfl) (fun hs => Eq.mpr (by kernel_rfl) (h hs))
end Go.Proofs.YtacebbdfgbfgiaaGreat

namespace Go.Proofs.YtacebbdfgbfgiaaGreat
open Go Go.Abs
set_option maxRecDepth 8000
def d4 (data : List Dat) : AV := .agg [.sl (data.map Dat.cs) .none, .snil, .snil, .snil]
section
variable {H : zaa} {K : Kt} (data : List Dat)
theorem zxr (hK : K (.bool true) H) : ACalls tP zkQ [d4 data] H K := by
 refine ACalls.out (zFc fun hs => ?_)
 simp [ztA, d4]
 refine ⟨rfl, ACalls.wk (args' := [.sl (VT.css []) .none, .fn zpD [.ptr H.length 0]]) ?_ ⟨.atom .snil, .atom (.refl _), trivial⟩⟩
 refine zj0 [] (by simp) _ _ _ (by simp [AV.sc, AV.scV, AV.scA, AV.scB]) (fun _ H' => H' = H ++ [.cells [.sl (data.map Dat.cs) .none, .snil, .snil, .snil]]) rfl (fun i h => by simp at h) ?_
 rintro H' rfl
 simp
 exact Out.bool rfl (Nat.le_refl _) hs hK
theorem zuV (hK : K (.bool true) H) : ACalls tP zkS [d4 data] H K := by
 refine ACalls.out (zFv fun hs => ?_)
 simp [ztH, d4]
 refine zFt (Inv := fun _ _ t H' => t = .int .i64 0 ∧ H' = _) 0 (fun _ => ⟨rfl, rfl⟩) ?_
 rintro q t4 t H' ⟨rfl, rfl⟩ _ _ _ Kb hKb
 simp [ztI]
 exact Out.bool rfl (Nat.le_refl _) hs hK
theorem zxk (hK : K (.bool true) H) : ACalls tP zkT [d4 data] H K := by
 refine ACalls.out (zFG fun hs => ?_)
 simp [ztL, d4, zbo]
 refine ⟨⟨rfl, rfl⟩, zFE (Inv := fun _ t H' => t = .int .i64 0 ∧ H' = _) 0 (fun _ => ⟨rfl, rfl⟩) ?_⟩
 rintro q t H' ⟨rfl, rfl⟩ _ _ _ Kb hKb
 simp [ztO]
 refine zFD (Inv := fun _ t H' => t = .int .i64 0 ∧ H' = _) 0 (fun _ => ⟨rfl, rfl⟩) ?_
 rintro q t H' ⟨rfl, rfl⟩ _ _ _ Kb2 hKb2
 simp [ztN, Nat.add_assoc]
 exact Out.bool rfl (Nat.le_refl _) hs hK
theorem zuK (hK : K (.bool true) H) : ACalls tP zkU [d4 data] H K := by
 refine ACalls.out (zFQ fun hs => ?_)
 simp [ztU, d4, zbo]
 refine ⟨⟨rfl, rfl⟩, zFO (Inv := fun _ t H' => t = .int .i64 0 ∧ H' = _) 0 (fun _ => ⟨rfl, rfl⟩) ?_⟩
 rintro q t H' ⟨rfl, rfl⟩ _ _ _ Kb hKb
 simp [ztX]
 refine zFN (Inv := fun _ t H' => t = .int .i64 0 ∧ H' = _) 0 (fun _ => ⟨rfl, rfl⟩) ?_
 rintro q t H' ⟨rfl, rfl⟩ _ _ _ Kb2 hKb2
 simp [ztW, Nat.add_assoc]
 exact Out.bool rfl (Nat.le_refl _) hs hK
theorem zwp (hK : K (.bool true) H) : ACalls tP zkV [d4 data] H K := by
 refine ACalls.out (zFV fun hs => ?_)
 simp [zt3, d4, zbo]
 refine ⟨rfl, ⟨rfl, rfl, rfl, rfl⟩, zFT (Inv := fun _ t H' => t = .int .i64 0 ∧ H' = _) 0 (fun _ => ⟨rfl, rfl⟩) ?_⟩
 rintro q t H' ⟨rfl, rfl⟩ _ _ _ Kb hKb
 simp [zt4]
 exact Out.bool rfl (Nat.le_refl _) hs hK
theorem zu7 (hK : K (.bool true) H) : ACalls tP zkW [d4 data] H K := by
 refine ACalls.out (zF5 fun hs => ?_)
 simp [zt6, d4, zbo, zav, zaU]
 refine zF1 (Inv := fun _ t H' => t = .int .i64 0 ∧ H' = _) 0 (fun _ => ⟨rfl, rfl⟩) ?_
 rintro q t H' ⟨rfl, rfl⟩ _ _ _ Kb hKb
 simp [zt7]
 refine zF2 (Inv := fun _ t H' => t = .int .i64 0 ∧ H' = _) 0 (fun _ => ⟨rfl, rfl⟩) ?_
 rintro q t H' ⟨rfl, rfl⟩ _ _ _ Kb2 hKb2
 simp [zt8]
 exact Out.bool rfl (Nat.le_refl _) hs hK
theorem zD6 (hB : zjO data) (hl : data.length ≤ 1000000) (hK : K (.bool (zbh data)) H) : ACalls tP zkM [d4 data] H K := by
 refine ACalls.out (zD7 fun hs => ?_)
 simp [ztd, d4]
 refine zE9 data hB hl _ _ ?_
 cases hd : zbh data with
 | false =>
  rw [hd] at hK
  simp
  exact Out.bool rfl (Nat.le_refl _) hs hK
 | true =>
  rw [hd] at hK
  simp
  refine zxr data ?_
  simp
  refine zuV data ?_
  simp
  refine zxk data ?_
  simp
  refine zuK data ?_
  simp
  refine zwp data ?_
  simp
  refine zu7 data ?_
  exact Out.bool rfl (Nat.le_refl _) hs hK
def zbp (data : List Dat) (t : VT) : Bool := zbh data && zbe data 0 t
end
end Go.Proofs.YtacebbdfgbfgiaaGreat
namespace Go.Proofs.YtacebbdfgbfgiaaGreat
open Go Go.Abs
set_option maxRecDepth 8000
structure DOk (data : List Dat) : Prop where
 ok : zbh data = true
 k : za6 data
theorem zc6 {data : List Dat} (h : za6 data) : data.length ≤ 1000000 ∧ (∀ d ∈ data, ∀ c ∈ d.cons, c.args.length ≤ 1000 ∧ ∀ x ∈ c.args, x.nodes ≤ 1000) ∧ ∀ d ∈ data, d.cons.length ≤ 1000000 := by
 obtain ⟨h1, h2⟩ := h
 refine ⟨by omega, fun D hD c hc => ?_, fun D hD => ?_⟩
 ·obtain ⟨_, h3, h4⟩ := h2 D hD
  obtain ⟨_, h5, h6⟩ := h4 c hc
  exact ⟨by omega, fun x hx => by have := h6 x hx; omega⟩
 ·obtain ⟨_, h3, h4⟩ := h2 D hD
  omega
section
variable {data : List Dat} (hD : DOk data)
theorem i0 (n : Nat) : ((n : Int) == 0) = (n == 0) := by
 rw [Bool.eq_iff_iff]; simp
end
theorem zp2 : ∀ (a : List VT) (b : List Bool) (x : VT) (y : Bool), a.length = b.length → pick (a ++ [x]) (b ++ [y]) = pick a b ++ (if y then [] else [x])
 | [], [], x, y, _ => by cases y <;> rfl
 | [], _ :: _, _, _, h => by cases h
 | _ :: _, [], _, _, h => by cases h
 | c :: a, d :: b, x, y, h => by
  have := zp2 a b x y (by simpa using h)
  cases d <;> simp [pick, this]
theorem zp3 {l : List VT} {bs : List Bool} {i : Nat} (h : l.length = bs.length) (hi : i < l.length) : pick (l.take (i + 1)) (bs.take (i + 1)) = pick (l.take i) (bs.take i) ++ (if bs[i]'(by omega) then [] else [l[i]]) := by
 rw [List.take_succ_eq_append_getElem hi, List.take_succ_eq_append_getElem (by omega : i < bs.length)]
 exact zp2 _ _ _ _ (by simp; omega)
theorem zp1 : ∀ (a : List VT) (b : List Bool), (pick a b).length ≤ a.length
 | [], b => by simp [pick]
 | _ :: _, [] => by simp [pick]
 | c :: a, d :: b => by
  have := zp1 a b
  cases d <;> simp [pick] <;> omega
theorem ze0 {l : List Bool} {i : Nat} (h : i < (zaY l).length) : (zaY l)[i] = [.bool (l[i]'(by simpa [zaY] using h))] := by simp [zaY]
theorem zdo (l : List Bool) : (zaY l).length = l.length := by simp [zaY]
theorem zk1 {data : List Dat} {k n : Int} {ks : List VT} {c : Int} {l : List VT} (hk : za6 data) (hf : zaL data (.mk k n ks) c = some l) :
  ∃ bs, l.length = bs.length ∧ l.length ≤ 8 ∧ zbG data (.mk k n ks) c = some (pick l bs) ∧ (∀ x ∈ l, x.nodes ≤ 200) ∧ k = 5 ∧
   (∀ H K, K (.sl (zaY bs) .none) H → ACalls tP zc7 [.sl (data.map Dat.cs) .none, .int .i64 n, .int .i64 c] H K) ∧
   (∀ H K, K (.sl (zaY bs) .none) H → ACalls tP zc8 [.sl (data.map Dat.cs) .none, .int .i64 n, .int .i64 c] H K) := by
 obtain ⟨k5, n0, c0, hn, hc, hv, rfl, h200⟩ := zfa hf
 obtain ⟨f1, f2, f3⟩ := zc6 hk
 have hd := List.getElem_mem hn
 have hcm := List.getElem_mem hc
 obtain ⟨g1, g2⟩ := f2 _ hd _ hcm
 have g3 := f3 _ hd
 have h8 := ((hk.2 _ hd).2.2 _ hcm).2.1
 refine ⟨zbQ n.toNat data[n.toNat] (data[n.toNat]).cons[c.toNat], by simp [zbQ], by simpa using h8, ?_, h200, k5, fun H K hK => ?_, fun H K hK => ?_⟩
 ·simp [zbG, hf, zk5, hn, hc, List.getD_eq_getElem?_getD, VT.num]
 ·have := zm8 data n.toNat c.toNat hn hc f1 g3 (by omega) (fun x hx => by have := g2 x hx; omega) H K (by simpa [zaY, zbQ, Function.comp_def] using hK)
  rwa [Int.toNat_of_nonneg n0, Int.toNat_of_nonneg c0] at this
 ·have := ztv data n.toNat c.toNat hn hc f1 g3 (by omega) (fun x hx => by have := g2 x hx; omega) H K hK
  rwa [Int.toNat_of_nonneg n0, Int.toNat_of_nonneg c0] at this
theorem zp0 {data : List Dat} {t : VT} {c : Int} (hf : zaL data t c = none) : zbG data t c = none := by simp [zbG, hf]
theorem zEV (data : List Dat) (hk : za6 data) (t : VT) (ht : t.nodes ≤ 1000) (c : Int) (H : zaa) (K : Kt) (hK : K (zbK (zbG data t c)) H) :
  ACalls tP zkO [.sl (data.map Dat.cs) .none, .agg t.cs, .int .i64 c] H K := by
 refine ACalls.out (zET fun hs => ?_)
 obtain ⟨f1, f2, f3⟩ := zc6 hk
 obtain ⟨k, n, ks⟩ := t
 simp [zts, VT.cs, Nat.add_assoc]
 refine zmk data f1 f2 f3 (.mk k n ks) ht c _ _ ?_
 cases hf : zaL data (.mk k n ks) c with
 | none =>
  rw [zp0 hf] at hK
  simp [zbK]
  refine ⟨⟨rfl, rfl⟩, ?_⟩
  exact Out.tup (bs := [.sl [] .none, .bool false]) hs hK ⟨zd5, za4 rfl rfl, trivial⟩
 | some l =>
  obtain ⟨bs, hlb, hl8, hpay, h200, k5, hsc, _⟩ := zk1 hk hf
  rw [hpay] at hK
  simp [zbK]
  refine hsc _ _ ?_
  simp [zdo]
  unfold zjy
  refine ALoop.own 10 zaP 3 rfl ?_
  have hl1 : (H ++ [AB.cells [AV.int IntKind.i64 k, AV.int IntKind.i64 n, AV.sl (VT.css ks) Tok.none]]).length = H.length + 1 := by simp
  rw [hl1]
  show zjy (.sl (VT.css l) .none) (.sl [] (.own (H.length + 1))) (.sl (zaY bs) .none) (.int .i64 bs.length) (.int .i64 0) (H ++ [.cells [.int .i64 k, .int .i64 n, .sl (VT.css ks) .none]] ++ [.perm zaP 3 0]) (Out H.length K)
  have hperm : ∀ m, HSc (H ++ [.cells [.int .i64 k, .int .i64 n, .sl (VT.css ks) .none], .perm zaP 3 m]) := fun m => hs.append (by simp [AB.sc, AV.scA, AV.scB])
  refine zER (Inv := fun q t10 t28 H' => ∃ i : Nat, i ≤ bs.length ∧ q = bs.length - i ∧ t28 = .int .i64 i ∧ t10 = .sl (VT.css (pick (l.take i) (bs.take i))) (.own (H.length + 1)) ∧ H' = H ++ [.cells [.int .i64 k, .int .i64 n, .sl (VT.css ks) .none], .perm zaP 3 (pick (l.take i) (bs.take i)).length]) bs.length ?_ ?_
  ·intro _; exact ⟨0, by omega, by omega, rfl, by simp [pick, VT.css], by simp [pick]⟩
  ·rintro q t10 t28 H' ⟨i, hi, rfl, rfl, rfl, rfl⟩ hsc' hlen hsF Kb hKb
   by_cases hlt : i < bs.length
   ·have hps := zp3 hlb (by omega : i < l.length)
    have hpl := zp1 (l.take i) (bs.take i)
    rw [List.length_take] at hpl
    have hnext : ∀ J, zjx (.sl (VT.css l) .none) (.sl (VT.css (pick (l.take (i + 1)) (bs.take (i + 1)))) (.own (H.length + 1))) (.sl (zaY bs) .none) (.int .i64 bs.length) (.int .i64 i)
      (H ++ .cells [.int .i64 k, .int .i64 n, .sl (VT.css ks) .none] :: .perm zaP 3 (pick (l.take (i + 1)) (bs.take (i + 1))).length :: J) (Out H.length K) Kb := by
     intro J
     simp [zjx, ztt]
     rw [zal (by omega) (by omega)]
     refine hKb _ _ ⟨bs.length - (i + 1), by omega, Back.at (J := J) (H2 := H ++ [.cells [.int .i64 k, .int .i64 n, .sl (VT.css ks) .none], .perm zaP 3 (pick (l.take (i + 1)) (bs.take (i + 1))).length]) (by simp) (by simp) (hperm _) ?_ ⟨_, _, rfl, i + 1, by omega, rfl, by simp, rfl, rfl⟩⟩
     simp [zjw, AV.sc, AV.scV, AV.scA, AV.scB]
    simp [znK, zdo, hlt, ze0]
    cases hbi : bs[i] with
    | true =>
     rw [hbi] at hps
     simp at hps
     simp
     have := hnext []
     rw [hps] at this
     exact this
    | false =>
     rw [hbi] at hps
     simp only [Bool.false_eq_true, if_false] at hps
     simp [show i < l.length by omega]
     rw [zdQ]
     simp [zar, zaW, zaI]
     have := hnext []
     rw [hps] at this
     rw [show VT.css (pick (l.take i) (bs.take i) ++ [l[i]]) = VT.css (pick (l.take i) (bs.take i)) ++ [l[i].cs] by simp [VT.css_map], show (pick (l.take i) (bs.take i) ++ [l[i]]).length = (pick (l.take i) (bs.take i)).length + 1 by simp] at this
     exact ⟨⟨by omega, by omega⟩, this⟩
   ·obtain rfl : i = bs.length := by omega
    rw [List.take_of_length_le (by omega), List.take_length] at *
    simp [znK]
    refine ⟨⟨rfl, rfl⟩, ?_⟩
    exact Out.tup (bs := [.sl (VT.css (pick l bs)) .none, .bool true]) hs hK ⟨slV, za4 rfl rfl, trivial⟩
def pos (v : Bool) (bs : List Bool) (i : Nat) : List Nat := (List.range i).filter fun j => bs.getD j false == v
def zaz (l : List Nat) : List (List AV) := l.map fun (n : Nat) => [AV.int .i64 (Int.ofNat n)]
theorem zfE (v : Bool) (bs : List Bool) (i : Nat) (h : i < bs.length) : pos v bs (i + 1) = pos v bs i ++ (if bs[i] == v then [i] else []) := by
 unfold pos
 rw [List.range_succ, List.filter_append]
 congr 1
 simp [List.filter_cons, List.getD_eq_getElem?_getD, h]
theorem zcR (v : Bool) (bs : List Bool) (i : Nat) : (pos v bs i).length ≤ i := by
 have := List.length_filter_le (fun j => bs.getD j false == v) (List.range i)
 simpa [pos] using this
theorem zfD {v : Bool} {bs : List Bool} {i j : Nat} (h : j ∈ pos v bs i) : j < i := by
 simp [pos] at h
 exact h.1
theorem zg6 {l : List VT} {bs : List Bool} (h : l.length = bs.length) (d : VT) : ∀ i, i ≤ l.length → pick (l.take i) (bs.take i) = (pos false bs i).map fun j => l.getD j d
 | 0, _ => by simp [pick, pos]
 | i + 1, hi => by
  rw [zp3 h (by omega), zfE false bs i (by omega), List.map_append, zg6 h d i (by omega)]
  congr 1
  cases hb : bs[i]'(by omega) <;> simp [List.getD_eq_getElem?_getD, show i < l.length by omega]
theorem zbB (l : List Nat) : (zaz l).length = l.length := by simp [zaz]
theorem zfz {l : List Nat} {i : Nat} (h : i < (zaz l).length) : (zaz l)[i] = [.int .i64 ((l[i]'(by simpa [zaz] using h) : Nat) : Int)] := by simp [zaz]
theorem zg1 (l m : List Nat) : zaz (l ++ m) = zaz l ++ zaz m := by simp [zaz]
theorem ztc (data : List Dat) (hk : za6 data) (k n : Int) (ks : List VT) (ht : (VT.mk k n ks).nodes ≤ 1000) (c : Int) {l : List VT} {bs : List Bool} (hf : zaL data (.mk k n ks) c = some l)
  (hlb : l.length = bs.length) (hl8 : l.length ≤ 8) (hrec : ∀ H K, K (.sl (zaY bs) .none) H → ACalls tP zc8 [.sl (data.map Dat.cs) .none, .int .i64 n, .int .i64 c] H K) (H : zaa) (K : Kt)
  (hK : K (.tup [.sl (zaz (pos false bs bs.length)) .none, .sl (zaz (pos true bs bs.length)) .none, .bool true]) H) :
  ACalls tP zgU [.sl (data.map Dat.cs) .none, .agg (VT.mk k n ks).cs, .int .i64 c] H K := by
 refine ACalls.out (zD2 fun hs => ?_)
 obtain ⟨f1, f2, f3⟩ := zc6 hk
 simp [zta, VT.cs, Nat.add_assoc]
 refine zhR data f1 f2 f3 (.mk k n ks) ht c _ _ ?_
 rw [hf]
 simp [zbK]
 refine hrec _ _ ?_
 simp [zdo]
 unfold zjm
 refine ALoop.own 11 zaZ 1 rfl ?_
 refine ALoop.own 12 zaZ 1 rfl ?_
 have hl1 : (H ++ [AB.cells [AV.int IntKind.i64 k, AV.int IntKind.i64 n, AV.sl (VT.css ks) Tok.none]]).length = H.length + 1 := by simp
 have hl2 : (H ++ [AB.cells [AV.int IntKind.i64 k, AV.int IntKind.i64 n, AV.sl (VT.css ks) Tok.none]] ++ [AB.perm zaZ 1 0]).length = H.length + 2 := by simp
 rw [hl1, hl2]
 show zjm (.sl [] (.own (H.length + 1))) (.sl [] (.own (H.length + 2))) (.sl (zaY bs) .none) (.int .i64 bs.length) (.int .i64 0) (H ++ [.cells [.int .i64 k, .int .i64 n, .sl (VT.css ks) .none]] ++ [.perm zaZ 1 0] ++ [.perm zaZ 1 0]) (Out H.length K)
 have hperm : ∀ m m2, HSc (H ++ [.cells [.int .i64 k, .int .i64 n, .sl (VT.css ks) .none], .perm zaZ 1 m, .perm zaZ 1 m2]) := fun m m2 => hs.append (by simp [AB.sc, AV.scA, AV.scB])
 refine zD0 (Inv := fun q t11 t12 t30 H' => ∃ i : Nat, i ≤ bs.length ∧ q = bs.length - i ∧ t30 = .int .i64 i ∧ t11 = .sl (zaz (pos false bs i)) (.own (H.length + 1)) ∧ t12 = .sl (zaz (pos true bs i)) (.own (H.length + 2)) ∧
  H' = H ++ [.cells [.int .i64 k, .int .i64 n, .sl (VT.css ks) .none], .perm zaZ 1 (pos false bs i).length, .perm zaZ 1 (pos true bs i).length]) bs.length ?_ ?_
 ·intro _; exact ⟨0, by omega, by omega, rfl, by simp [pos, zaz], by simp [pos, zaz], by simp [pos]⟩
 ·rintro q t11 t12 t30 H' ⟨i, hi, rfl, rfl, rfl, rfl, rfl⟩ hsc' hlen hsF Kb hKb
  by_cases hlt : i < bs.length
  ·have hp1 := zfE false bs i hlt
   have hp2 := zfE true bs i hlt
   have hn1 := zcR false bs i
   have hn2 := zcR true bs i
   have hnext : zjl (.sl (zaz (pos false bs (i + 1))) (.own (H.length + 1))) (.sl (zaz (pos true bs (i + 1))) (.own (H.length + 2))) (.sl (zaY bs) .none) (.int .i64 bs.length) (.int .i64 i)
     (H ++ [.cells [.int .i64 k, .int .i64 n, .sl (VT.css ks) .none], .perm zaZ 1 (pos false bs (i + 1)).length, .perm zaZ 1 (pos true bs (i + 1)).length]) (Out H.length K) Kb := by
    simp [zjl, ztb]
    rw [zal (by omega) (by omega)]
    refine hKb _ _ ⟨bs.length - (i + 1), by omega, Back.at (J := []) (H2 := H ++ [.cells [.int .i64 k, .int .i64 n, .sl (VT.css ks) .none], .perm zaZ 1 (pos false bs (i + 1)).length, .perm zaZ 1 (pos true bs (i + 1)).length]) (by simp) (by simp) (hperm _ _) ?_ ⟨_, _, _, rfl, i + 1, by omega, rfl, by simp, rfl, rfl, rfl⟩⟩
    simp [zjk, AV.sc, AV.scV, AV.scA, AV.scB]
   cases hbi : bs[i] with
   | true =>
    rw [hbi] at hp1 hp2
    simp at hp1 hp2
    rw [hp1, hp2] at hnext
    simp [zjj, zdo, hlt, ze0, hbi, zaA, zbt, zaB, AV.pd, zar, zaW, zaI, zbB]
    refine ⟨⟨by omega, by omega⟩, ?_⟩
    simpa [zg1, zaz] using hnext
   | false =>
    rw [hbi] at hp1 hp2
    simp at hp1 hp2
    rw [hp1, hp2] at hnext
    simp [zjj, zdo, hlt, ze0, hbi, zaA, zbt, zaB, AV.pd, zar, zaW, zaI, zbB]
    refine ⟨⟨by omega, by omega⟩, ?_⟩
    simpa [zg1, zaz] using hnext
  ·obtain rfl : i = bs.length := by omega
   simp [zjj]
   refine ⟨⟨rfl, rfl, rfl⟩, ?_⟩
   exact Out.tup (bs := [.sl (zaz (pos false bs bs.length)) .none, .sl (zaz (pos true bs bs.length)) .none, .bool true]) hs hK ⟨slV, slV, za4 rfl rfl, trivial⟩
end Go.Proofs.YtacebbdfgbfgiaaGreat
namespace Go.Abs
open Go Go.RowKit
variable {P : Program} {B : Nat} {w : World} {G : Gh} {H : zaa}
theorem HRel.frz (h : HRel B w G H) {id : Nat} {cs : List AV} (hH : H[id]? = some (.cells cs)) :
  ∃ G', Ext B w G w G' ∧ HRel B w G' (H.set id .dead) ∧ ∃ b, G.μ[id]? = some (.blk b) ∧ G'.L b = cs.length ∧ ∃ (vs : Array Value) (e : TypeId), w.heap[b]? = some (.cells vs e (0, 0)) ∧ All2 (ARel w G) vs.toList cs := by
 have hlt : id < G.μ.length := by rw [h.len]; exact (List.getElem?_eq_some_iff.1 hH).1
 obtain ⟨gi, hgi⟩ : ∃ gi, G.μ[id]? = some gi := ⟨_, List.getElem?_eq_getElem hlt⟩
 have hok := h.ok id _ _ hH hgi
 cases gi with
 | gap => exact hok.elim
 | own v s n => exact hok.elim
 | blk b =>
  obtain ⟨hB, hL, vs, e, hw, hcs⟩ := hok
  have hl : vs.size = cs.length := by simpa using hcs.length
  have he : Ext B w G w ⟨fun x => if x = b then cs.length else G.L x, G.μ⟩ :=
   ⟨Nat.le_refl _, Below.refl _ _, fun x => by by_cases hx : x = b <;> simp [hx, hL], fun _ _ _ => rfl, fun _ gi h => ⟨gi, h, gi.le_refl⟩⟩
  refine ⟨_, he, ⟨by simp [h.len], ?_, h.dist, fun x hx => ?_, h.lt, h.base⟩, b, hgi, by simp, vs, e, hw, hcs⟩
  ·intro id' ab gi h1 h2
   by_cases hid : id' = id
   ·subst hid
    rw [List.getElem?_set_self (List.getElem?_eq_some_iff.1 hH).1] at h1
    cases h1
    have h2 : G.μ[id']? = some gi := h2
    rw [hgi] at h2
    cases h2
    exact ⟨vs, e, (0, 0), hw, by simp [hl]⟩
   ·rw [List.getElem?_set_ne (fun h => hid h.symm)] at h1
    refine (h.ok id' ab gi h1 h2).keep he (fun x hx => ⟨rfl, ?_⟩)
    have : ¬ x = b := fun hxb => hid (h.dist id' id gi _ b h2 hgi (by rw [hx, hxb]) rfl)
    simp [this]
  ·have := h.lt id _ b hgi rfl
   have h3 : ¬ x = b := by omega
   simp [h3, h.fresh x hx]
inductive FzA (id off len cap : Nat) (es : List (List AV)) : AV → AV → Prop
 | refl (a : AV) : FzA id off len cap es a a
 | ms : FzA id off len cap es (.ms id off len cap) (.sl es .none)
inductive FzT (id off len cap : Nat) (es : List (List AV)) : AV → AV → Prop
 | one {a b : AV} (h : FzA id off len cap es a b) : FzT id off len cap es a b
 | agg {asx bs : List AV} (h : All2 (FzA id off len cap es) asx bs) : FzT id off len cap es (.agg asx) (.agg bs)
theorem FzA.rel {id off len cap size : Nat} {cs : List AV} {es : List (List AV)} (hfit : off + len * size ≤ cs.length)
  (hp : zaB ((cs.drop off).take (len * size)) = some es.flatten) (hlen : es.length = len) (hsz : ∀ c ∈ es, c.length = size) (hcap : len ≤ cap) {G' : Gh} (hE : Ext B w G w G') {b : Nat} (hμ : G.μ[id]? = some (.blk b)) (hLb : G'.L b = cs.length)
  {vs0 : Array Value} {e : TypeId} (hw : w.heap[b]? = some (.cells vs0 e (0, 0))) (hcs : All2 (ARel w G) vs0.toList cs) {v : Value} {a b' : AV} (hab : FzA id off len cap es a b') (hr : ARel w G v a) : ARel w G' v b' := by
 cases hab with
 | refl a => exact hE.arel hr
 | ms =>
  obtain ⟨b2, hb2, rfl⟩ := hr
  rw [hμ] at hb2
  cases hb2
  show DRel w G'.L _ _
  subst hlen
  by_cases hne : es = []
  ·subst hne; exact .slE _ _
  ·have hl := hcs.length
   have hd := zcI ((hcs.drop off).take (es.length * size)) hp
   refine DRel.of_flat_at (zs := (vs0.toList.drop off).take (es.length * size)) hsz hne hcap (by rw [hLb]; exact hfit) (hd.mono fun _ _ => hE.drel) ?_
   intro j u hj
   rw [List.getElem?_take] at hj
   split at hj
   ·simp only [World.cell?, hw]
    simpa using hj
   ·cases hj
theorem zjT {R R' : Value → AV → Prop} {S : AV → AV → Prop} (h : ∀ v a b, S a b → R v a → R' v b) {vs : List Value} {asx bs : List AV} (hr : All2 R vs asx) (hs : All2 S asx bs) : All2 R' vs bs :=
 All2.of_get (hr.length.trans hs.length) fun i x y hx hy => by
  obtain ⟨a, ha, hxa⟩ := All2.get' hr hx
  obtain ⟨y', hy', hay⟩ := All2.get' hs ha
  rw [hy] at hy'
  cases hy'
  exact h _ _ _ hay hxa
theorem ACalls.frz {f : FuncId} {args args' : List AV} {K : Kt} (id off len cap size : Nat) (cs : List AV) (es : List (List AV)) (hH : H[id]? = some (.cells cs)) (hfit : off + len * size ≤ cs.length)
  (hp : zaB ((cs.drop off).take (len * size)) = some es.flatten) (hlen : es.length = len) (hsz : ∀ c ∈ es, c.length = size) (hcap : len ≤ cap) (ha : All2 (FzT id off len cap es) args args')
  (h : ACalls P f args' (H.set id .dead) K) : ACalls P f args H K := by
 intro B w G vs hR hv
 obtain ⟨G', hE, hR', b, hμ, hLb, vs0, e, hw, hcs⟩ := hR.frz hH
 have h1 : ∀ v a b, FzA id off len cap es a b → ARel w G v a → ARel w G' v b := fun v a b' hab hr => FzA.rel hfit hp hlen hsz hcap hE hμ hLb hw hcs hab hr
 have h2 : ∀ v a b, FzT id off len cap es a b → TRel w G v a → TRel w G' v b := by
  intro v a b' hab hr
  cases hab with
  | one hab =>
   cases hab with
   | refl a => exact hE.trel hr
   | ms => exact TRel.of_v (VRel.of_a (h1 _ _ _ .ms hr))
  | agg hab =>
   obtain ⟨us, hu, hr⟩ := hr
   exact ⟨us, hu, zjT h1 hr hab⟩
 refine (h B w G' vs hR' (zjT h2 hv ha)).mono fun e w' ⟨v, r, H', G'', k1, k2, k3, k4, k5⟩ => ⟨v, r, H', G'', k1, hE.trans k2, k3, k4, k5⟩
theorem AWp.frz {c : Code} {Q : AExit → List AV → zaa → Prop} {F : List AV} (id off len cap size : Nat) (cs : List AV) (es : List (List AV)) (id2 : Nat) (cs2 cs2' : List AV) (hH : H[id]? = some (.cells cs)) (hfit : off + len * size ≤ cs.length)
  (hp : zaB ((cs.drop off).take (len * size)) = some es.flatten) (hlen : es.length = len) (hsz : ∀ c ∈ es, c.length = size) (hcap : len ≤ cap) (hne : id ≠ id2) (hH2 : H[id2]? = some (.cells cs2)) (ha : All2 (FzA id off len cap es) cs2 cs2')
  (h : AWp P c Q F ((H.set id .dead).set id2 (.cells cs2'))) : AWp P c Q F H := by
 intro B w G a hR hF hd
 obtain ⟨G', hE, hR', b, hμ, hLb, vs0, e, hw, hcs⟩ := hR.frz hH
 have h1 : ∀ v a b, FzA id off len cap es a b → ARel w G v a → ARel w G' v b := fun v a b' hab hr => FzA.rel hfit hp hlen hsz hcap hE hμ hLb hw hcs hab hr
 have hlt2 : id2 < G.μ.length := by rw [hR.len]; exact (List.getElem?_eq_some_iff.1 hH2).1
 have hH2' : (H.set id .dead)[id2]? = some (.cells cs2) := by rw [List.getElem?_set_ne hne]; exact hH2
 have hR2 : HRel B w G' ((H.set id .dead).set id2 (.cells cs2')) := by
  refine ⟨by simp [hR'.len], ?_, hR'.dist, hR'.fresh, hR'.lt, hR'.base⟩
  intro i ab gi k1 k2
  by_cases hi : i = id2
  ·subst hi
   rw [List.getElem?_set_self (List.getElem?_eq_some_iff.1 hH2').1] at k1
   cases k1
   have hok := hR'.ok i _ _ hH2' k2
   have hgi : G.μ[i]? = some gi := by
    obtain ⟨gi0, hgi0⟩ : ∃ gi0, G.μ[i]? = some gi0 := ⟨_, List.getElem?_eq_getElem hlt2⟩
    have hok0 := hR.ok i _ _ hH2 hgi0
    obtain ⟨gi1, hg1, hle⟩ := hE.ids i gi0 hgi0
    rw [k2] at hg1
    cases hg1
    cases gi0 with
    | blk x => cases gi with
     | blk y => obtain rfl : x = y := hle; exact hgi0
     | own v s n => exact hle.elim
     | gap => exact hle.elim
    | own v s n => exact hok0.elim
    | gap => exact hok0.elim
   have hok0 := hR.ok i _ _ hH2 hgi
   cases gi with
   | blk x =>
    obtain ⟨k3, k4, vs, e', k5, k6⟩ := hok
    obtain ⟨_, _, vs1, e1, k7, k8⟩ := hok0
    rw [k5] at k7
    cases k7
    exact ⟨k3, k4, vs, e', k5, zjT h1 k8 ha⟩
   | own v s n => exact hok.elim
   | gap => exact hok.elim
  ·rw [List.getElem?_set_ne (fun h => hi h.symm)] at k1
   exact hR'.ok i ab gi k1 k2
 refine wp_mono (h B w G' a hR2 (hF.ext hE) hd) fun e a' w' hp => ?_
 obtain ⟨F', H', G'', e', rfl, k1, k2, k3, k4, k5⟩ := hp
 exact ⟨F', H', G'', e', rfl, hE.trans k1, k2, k3, k4, k5⟩
end Go.Abs
namespace Go.Abs
open Go Go.RowKit
variable {P : Program} {B : Nat} {w : World} {G : Gh} {H : zaa}
inductive OutW (H : zaa) (n : Nat) : AV → AV → Prop
 | one {a b : AV} (h : OutV H n a b) : OutW H n a b
 | rows (id e m : Nat) (cs : List AV) (rs : List (List (List AV))) (hid : n ≤ id) (hH : H[id]? = some (.vec e 1 m cs)) (hm : rs.length = m)
   (hall : All2 (OutV H n) cs (rs.map fun r => .sl r .none)) : OutW H n (.ov id m) (.sl (rs.map fun r => [.sl r .none]) .none)
theorem OutW.vrel (hH : HRel B w G H) {n : Nat} {v : Value} {a b : AV} (h : OutW H n a b) (hr : TRel w G v a) : VRel w (G.cut w n) v b := by
 cases h with
 | one h => exact h.vrel hH hr
 | rows id e m cs rs hid hHid hm hall =>
  obtain ⟨⟨a, cap0, rfl, _⟩, v', s0, n', hμ, _, heq⟩ := hr
  obtain ⟨rfl, rfl, ⟨xs, hown, hcs⟩, _⟩ := hH.ok id _ _ hHid hμ
  obtain rfl := heq rfl
  subst hm
  show DRel w (G.cut w n).L _ _
  by_cases hne : rs = []
  ·subst hne; exact .slE _ _
  ·have hown2 := hown
   obtain ⟨hl, hrow⟩ := hown2
   have hd : All2 (DRel w (G.cut w n).L) xs (rs.map fun r => AV.sl r .none) := All2.of_get (hcs.length.trans hall.length) fun i x y hx hy => by
    obtain ⟨a, ha, hxa⟩ := All2.get' hcs hx
    obtain ⟨y', hy', hay⟩ := All2.get' hall ha
    rw [hy] at hy'
    cases hy'
    obtain ⟨r, hr, rfl⟩ : ∃ r, rs[i]? = some r ∧ AV.sl r .none = y := by simpa using hy
    exact hay.vrel hH (TRel.of_v (VRel.of_a hxa))
   rcases hrow with ⟨h1, h2⟩ | ⟨g, cap, cur, h1, h2, h3, h4, h5, h6, h7⟩
   ·cases rs <;> simp_all
   ·simp at h1
    obtain ⟨rfl, rfl⟩ := h1
    obtain ⟨_, _, _, hcell⟩ := zcH hown
    have hfl : ∀ l : List (List (List AV)), (l.map fun r => [AV.sl r .none]).flatten = l.map fun r => AV.sl r .none := by
     intro l
     induction l with
     | nil => rfl
     | cons r l ih => simp [ih]
    have := DRel.of_flat_at (w := w) (L := (G.cut w n).L) (g := g) (off := 0) (size := 1) (cap := cap0) (es := rs.map fun r => [AV.sl r .none]) (zs := xs) (by simp) (by simpa using hne) (by simpa using h4) ?_ (by rw [hfl rs]; exact hd) ?_
    ·simpa using this
    ·have : (G.cut w n).L g = cur.size := by
      simp only [Gh.cut]
      rw [if_pos (cut_dropped.2 ⟨id, _, hid, hμ, rfl⟩), h3]
     rw [this, h6]
     simpa using h4
    ·intro j u hj
     rw [Nat.zero_add, hcell j (by rw [← hl]; exact (List.getElem?_eq_some_iff.1 hj).1)]
     exact hj
inductive OutT2 (H : zaa) (n : Nat) : AV → AV → Prop
 | one {a b : AV} (h : OutW H n a b) : OutT2 H n a b
 | tup {asx bs : List AV} (h : All2 (OutW H n) asx bs) : OutT2 H n (.tup asx) (.tup bs)
theorem zvT (hH : HRel B w G H) {n : Nat} {asx bs : List AV} (h : All2 (OutW H n) asx bs) {vs : List Value} (hr : All2 (VRel w G) vs asx) : All2 (VRel w (G.cut w n)) vs bs :=
 All2.of_get (hr.length.trans h.length) fun i x y hx hy => by
  obtain ⟨a, ha, hxa⟩ := All2.get' hr hx
  obtain ⟨y', hy', hay⟩ := All2.get' h ha
  rw [hy] at hy'
  cases hy'
  exact hay.vrel hH (TRel.of_v hxa)
def zc0 (n : Nat) (K : AV → zaa → Prop) (r : AV) (H' : zaa) : Prop := ∃ r2 H2 J, H' = H2 ++ J ∧ n ≤ H2.length ∧ HSc H2 ∧ OutT2 H' H2.length r r2 ∧ K r2 H2
theorem ACalls.out2 {f : FuncId} {args : List AV} {K : AV → zaa → Prop} (h : ACalls P f args H (zc0 H.length K)) : ACalls P f args H K := by
 intro B w G vs hH hv
 refine (h B w G vs hH hv).mono fun e w' ⟨v, r, H', G', h1, h2, h3, h4, h5⟩ => ?_
 obtain ⟨r2, H2, J, hJ, hn, hsc, ho, hk⟩ := h5
 subst hJ
 refine ⟨v, r2, H2, G'.cut w' H2.length, h1, zj3 h3 h2 (by rw [hH.len]; exact hn), h3.cut hsc, ?_, hk⟩
 cases ho with
 | one ho => exact TRel.of_v (ho.vrel h3 h4)
 | tup ho =>
  obtain ⟨us, hu, hr⟩ := h4
  exact ⟨us, hu, zvT h3 ho hr⟩
theorem Out.two {n : Nat} {K : AV → zaa → Prop} {r : AV} (h : Out n K r H) : zc0 n K r H := by
 obtain ⟨r2, H2, J, hJ, hn, hsc, ho, hk⟩ := h
 refine ⟨r2, H2, J, hJ, hn, hsc, ?_, hk⟩
 cases ho with
 | one h => exact .one (.one h)
 | tup h => exact .tup (All2.of_get h.length fun i x y hx hy => by
   obtain ⟨y', hy', hay⟩ := All2.get' h hx
   rw [hy] at hy'
   cases hy'
   exact .one hay)
end Go.Abs
namespace Go.Abs
open Go Go.RowKit Go.Lib
variable {P : Program} {B : Nat} {w : World}
end Go.Abs
namespace Go.Abs
open Go Go.RowKit Go.Lib
variable {P : Program} {B : Nat} {w : World} {G : Gh} {H : zaa}
theorem HRel.dead (h : HRel B w G H) {id e s n : Nat} (hH : H[id]? = some (.perm e s n)) : HRel B w G (H.set id .dead) := by
 refine ⟨by simp [h.len], ?_, h.dist, h.fresh, h.lt, h.base⟩
 intro i ab gi h1 h2
 by_cases hi : i = id
 ·subst hi
  rw [List.getElem?_set_self (List.getElem?_eq_some_iff.1 hH).1] at h1
  cases h1
  have hok := h.ok i _ _ hH h2
  cases gi with
  | blk b => exact hok.elim
  | gap => exact hok.elim
  | own v s' n' =>
   obtain ⟨rfl, rfl, ⟨xs, hl, ⟨rfl, _⟩ | ⟨g, cap, cur, rfl, k1, k2, k3, k4, k5, k6⟩⟩, hL⟩ := hok
   ·intro b hb
    cases hb
   ·intro b hb
    simp [Value.ownBlock] at hb
    subst hb
    exact ⟨cur, e, _, k2, by rw [hL g rfl, k5]; exact Nat.mul_le_mul_right _ k3⟩
 ·rw [List.getElem?_set_ne (fun h => hi h.symm)] at h1
  exact h.ok i ab gi h1 h2
theorem HRel.other (h : HRel B w G H) (o : Obj) : Ext B w G (w.alloc o) G ∧ HRel B (w.alloc o) G H := by
 have he := Ext.alloc h o G.L (fun _ _ => rfl) []
 simp only [List.append_nil] at he
 refine ⟨he, h.keep he rfl (fun id gi b h1 h2 => ⟨zen (h.lt id gi b h1 h2), rfl⟩) (fun b hb => ?_)⟩
 rw [zct] at hb
 exact h.fresh b (by omega)
end Go.Abs
namespace Go.Abs
open Go Go.RowKit Go.Sort
variable {P : Program} {B : Nat} {w : World} {G : Gh} {H : zaa}
end Go.Abs
namespace Go.Abs
open Go Go.RowKit
variable {P : Program} {B : Nat} {w : World} {G : Gh} {H : zaa}
theorem HRel.newVec (h : HRel B w G H) (e size : Nat) : Ext B w G w ⟨G.L, G.μ ++ [.own (.slice none 0 0) size 0]⟩ ∧ HRel B w ⟨G.L, G.μ ++ [.own (.slice none 0 0) size 0]⟩ (H ++ [.vec e size 0 []]) := by
 obtain ⟨hE, hH⟩ := h.newOwn e size
 refine ⟨hE, by simpa using hH.len, fun id ab gi h1 h2 => ?_, hH.dist, hH.fresh, hH.lt, hH.base⟩
 by_cases hlt : id < H.length
 ·rw [List.getElem?_append_left hlt] at h1
  exact hH.ok id ab gi (by rw [List.getElem?_append_left hlt]; exact h1) h2
 ·have hlt2 := (List.getElem?_eq_some_iff.1 h2).1
  simp [h.len] at hlt2
  obtain rfl : id = H.length := by omega
  simp at h1
  have h2 : (G.μ ++ [GI.own (.slice none 0 0) size 0])[H.length]? = some gi := h2
  rw [← h.len] at h2
  simp at h2
  subst h1 h2
  exact ⟨rfl, rfl, ⟨[], World.ownsRow_nil w B e size, trivial⟩, fun b hb => by simp [Value.ownBlock] at hb⟩
end Go.Abs
namespace Go.Abs
open Go Go.RowKit
variable {P : Program} {B : Nat} {w : World} {G : Gh} {H : zaa}
theorem zpV (h : HRel B w G H) (e size : Nat) : TRel w ⟨G.L, G.μ ++ [.own (.slice none 0 0) size 0]⟩ (.slice none 0 0) (.ov H.length 0) := by
 refine ⟨⟨none, 0, rfl, fun h => absurd h (by omega)⟩, .slice none 0 0, size, 0, ?_, Nat.le_refl _, fun _ => rfl⟩
 rw [← h.len]
 simp
theorem ALoop.vec {c : Code} {Q : AExit → List AV → zaa → Prop} {F : List AV} (i e size : Nat) (hi : F[i]? = some .snil)
  (h : ALoop P c Q (F.set i (.ov H.length 0)) (H ++ [.vec e size 0 []])) : ALoop P c Q F H := by
 intro B w G a hH hF hd
 obtain ⟨hE, hH'⟩ := hH.newVec e size
 have hF' : FRel w ⟨G.L, G.μ ++ [.own (.slice none 0 0) size 0]⟩ a.tmps (F.set i (.ov H.length 0)) := by
  unfold FRel
  obtain ⟨v, h1, h2⟩ := All2.get hF hi
  have h2 : v = .slice none 0 0 := h2
  subst h2
  have hset : a.tmps.toList = a.tmps.toList.set i (.slice none 0 0) := by
   apply List.ext_getElem?
   intro k
   by_cases hk : k = i
   ·subst hk; rw [List.getElem?_set_self (List.getElem?_eq_some_iff.1 h1).1]; exact h1
   ·rw [List.getElem?_set_ne (fun h => hk h.symm)]
  rw [hset]
  exact All2.set i (hF.ext hE) (zpV hH e size)
 refine wp_mono (h B w _ a hH' hF' hd) fun e a' w' hp => ?_
 obtain ⟨F'', H'', G'', e'', rfl, k1, k2, k3, k4, k5⟩ := hp
 exact ⟨F'', H'', G'', e'', rfl, hE.trans k1, k2, k3, k4, k5⟩
theorem ACalls.vecRes {f : FuncId} {args : List AV} {K : Kt} (e size : Nat) (h : ACalls P f args H fun r H' => (r = .snil ∧ K (.ov H'.length 0) (H' ++ [.vec e size 0 []])) ∨ K r H') : ACalls P f args H K := by
 intro B w G vs hH hv
 refine (h B w G vs hH hv).mono fun ex w' ⟨v, r, H', G', h1, h2, h3, h4, h5⟩ => ?_
 rcases h5 with ⟨rfl, hk⟩ | hk
 ·have h4 : v = .slice none 0 0 := h4
  subst h4
  obtain ⟨hE, hH'⟩ := h3.newVec e size
  exact ⟨_, _, _, _, h1, h2.trans hE, hH', zpV h3 e size, hk⟩
 ·exact ⟨v, r, H', G', h1, h2, h3, h4, hk⟩
theorem ACalls.withSc {f : FuncId} {args : List AV} {K : Kt} (h : ACalls P f args H fun r H' => HSc H' → K r H') : ACalls P f args H K := by
 intro B w G vs hH hv
 exact (h B w G vs hH hv).mono fun ex w' ⟨v, r, H', G', h1, h2, h3, h4, h5⟩ => ⟨v, r, H', G', h1, h2, h3, h4, h5 h3.sc⟩
theorem zq2 {vs : List Value} : ∀ {cs cs' : List AV}, All2 WkA cs cs' → ∀ {vs : List Value}, All2 (ARel w G) vs cs → All2 (ARel w G) vs cs'
 | [], [], _, _, hv => hv
 | x :: cs, x' :: cs', hw, [], hv => hv.elim
 | x :: cs, x' :: cs', hw, v :: vs, hv => ⟨hw.1.arel hv.1, zq2 (vs := []) hw.2 hv.2⟩
 | [], _ :: _, hw, _, _ => hw.elim
 | _ :: _, [], hw, _, _ => hw.elim
theorem ALoop.reCell {c : Code} {Q : AExit → List AV → zaa → Prop} {F : List AV} {id : Nat} {cs : List AV} (cs' : List AV) (hid : H[id]? = some (.cells cs)) (hw : All2 WkA cs cs') (h : ALoop P c Q F (H.set id (.cells cs'))) : ALoop P c Q F H := by
 intro B w G a hH hF hd
 exact h B w G a (hH.reCell hid fun vs hv => zq2 (vs := []) hw hv) hF hd
theorem HRel.frzV (h : HRel B w G H) {id e size n : Nat} {cs : List AV} (hH : H[id]? = some (.vec e size n cs)) {es : List (List AV)} (hp : zaB cs = some es.flatten) (hlen : es.length = n) (hsz : ∀ c ∈ es, c.length = size) :
  ∃ G', Ext B w G w G' ∧ HRel B w G' (H.set id .dead) ∧ ∀ v, ARel w G v (.ov id n) → DRel w G'.L v (.sl es .none) := by
 have hlt : id < G.μ.length := by rw [h.len]; exact (List.getElem?_eq_some_iff.1 hH).1
 obtain ⟨gi, hgi⟩ : ∃ gi, G.μ[id]? = some gi := ⟨_, List.getElem?_eq_getElem hlt⟩
 have hok := h.ok id _ _ hH hgi
 cases gi with
 | gap => exact hok.elim
 | blk b => exact hok.elim
 | own v0 s0 n0 =>
  obtain ⟨rfl, rfl, ⟨xs, hown, hcs⟩, hL0⟩ := hok
  have hown2 := hown
  obtain ⟨hl, hrow⟩ := hown2
  rcases hrow with ⟨h1, h2⟩ | ⟨g, cap, cur, h1, hB, hw, hcap, hcm, hcz, htk⟩
  ·subst h1
   refine ⟨G, Ext.refl _ _ _, ⟨by simp [h.len], ?_, h.dist, h.fresh, h.lt, h.base⟩, ?_⟩
   ·intro id' ab gi k1 k2
    by_cases hid : id' = id
    ·subst hid
     rw [List.getElem?_set_self (List.getElem?_eq_some_iff.1 hH).1] at k1
     cases k1
     rw [hgi] at k2
     cases k2
     exact fun b hb => by simp [Value.ownBlock] at hb
    ·rw [List.getElem?_set_ne (fun h => hid h.symm)] at k1
     exact h.ok id' ab gi k1 k2
   ·intro v hv
    obtain ⟨⟨a, cap0, rfl, _⟩, v', s', n', hμ, _, heq⟩ := hv
    have hes : es = [] := List.eq_nil_of_length_eq_zero (by omega)
    subst hes
    subst hlen
    exact .slE _ _
  ·subst h1
   have hLg : G.L g = 0 := hL0 g rfl
   have he : Ext B w G w ⟨fun x => if x = g then cur.size else G.L x, G.μ⟩ :=
    ⟨Nat.le_refl _, Below.refl _ _, fun x => by by_cases hx : x = g <;> simp [hx, hLg], fun _ _ _ => rfl, fun _ gi h => ⟨gi, h, gi.le_refl⟩⟩
   refine ⟨_, he, ⟨by simp [h.len], ?_, h.dist, fun x hx => ?_, h.lt, h.base⟩, ?_⟩
   ·intro id' ab gi k1 k2
    by_cases hid : id' = id
    ·subst hid
     rw [List.getElem?_set_self (List.getElem?_eq_some_iff.1 hH).1] at k1
     cases k1
     have k2 : G.μ[id']? = some gi := k2
     rw [hgi] at k2
     cases k2
     intro b hb
     simp [Value.ownBlock] at hb
     subst hb
     exact ⟨cur, e, _, hw, by simp⟩
    ·rw [List.getElem?_set_ne (fun h => hid h.symm)] at k1
     refine (h.ok id' ab gi k1 k2).keep he (fun x hx => ⟨rfl, ?_⟩)
     have : ¬ x = g := fun hxb => hid (h.dist id' id gi _ g k2 hgi (by rw [hx, hxb]) rfl)
     simp [this]
   ·have := h.lt id _ g hgi rfl
    have h3 : ¬ x = g := by omega
    simp [h3, h.fresh x hx]
   ·intro v hv
    obtain ⟨⟨a, cap0, rfl, _⟩, v', s', n', hμ, _, heq⟩ := hv
    rw [hgi] at hμ
    simp only [Option.some.injEq, GI.own.injEq] at hμ
    obtain ⟨rfl, rfl, rfl⟩ := hμ
    have hvv := heq rfl
    simp only [Value.slice.injEq, true_and] at hvv
    obtain ⟨rfl, rfl⟩ := hvv
    subst hlen
    by_cases hes : es = []
    ·subst hes; exact .slE _ _
    ·obtain ⟨_, _, _, hcell⟩ := zcH hown
     refine DRel.of_flat_at (zs := xs) hsz hes hcap ?_ ((zcI hcs hp).mono fun _ _ => he.drel) ?_
     ·simp only [if_true]
      rw [hcz, Nat.zero_add]
      exact Nat.mul_le_mul_right _ hcap
     ·intro j u hj
      rw [Nat.zero_add, hcell j (by rw [← hl]; exact (List.getElem?_eq_some_iff.1 hj).1)]
      exact hj
theorem ACalls.frzV {f : FuncId} {x : AV} {K : Kt} (id e size n : Nat) (cs : List AV) (es : List (List AV)) (hH : H[id]? = some (.vec e size n cs)) (hp : zaB cs = some es.flatten) (hlen : es.length = n) (hsz : ∀ c ∈ es, c.length = size)
  (h : ACalls P f [.agg [x, .sl es .none]] (H.set id .dead) K) : ACalls P f [.agg [x, .ov id n]] H K := by
 intro B w G vs hR hv
 obtain ⟨G', hE, hR', hd⟩ := hR.frzV hH hp hlen hsz
 refine (h B w G' vs hR' ?_).mono fun e w' ⟨v, r, H', G'', k1, k2, k3, k4, k5⟩ => ⟨v, r, H', G'', k1, hE.trans k2, k3, k4, k5⟩
 generalize vs.toList = l at *
 match l, hv with
 | [v], ⟨⟨us, hu, h1⟩, _⟩ =>
  refine ⟨⟨us, hu, ?_⟩, trivial⟩
  generalize us.toList = m at *
  match m, h1 with
  | [a, b], ⟨h2, h3, _⟩ => exact ⟨hE.arel h2, hd b h3, trivial⟩
end Go.Abs
