import Derived.Test.YtkdmpbhbmmhijaaKNum
import Derived.Test.YtkdmpbhbmmhijaaProg
import Derived.KernelRfl
import Derived.Test.YtkdmpbhbmmhijaaKY14
set_option linter.unusedSimpArgs false
set_option linter.unusedVariables false
namespace Go.Proofs.Ytkdmpbhbmmhijaa
open Go Go.Abs
set_option maxRecDepth 100000
def ze5 : Nat → List Bool
 | 5 => rl false [0,1,2,2,9,2,89]
 | 13 => rl false [0,1,2,3,8,2,60,3,26]
 | _ => []
noncomputable def zox : Code := Try.f41.body.getD .skip
noncomputable def zEC : List ResultVar := Try.f41.results.toList
def zjE (t0 t3 t4 t14 t15 : AV) : List AV := t0 :: ux 2 (t3 :: t4 :: ux 9 (t14 :: t15 :: ux 89 []))
def zud : List Bool := ze5 5
noncomputable def zoy : Code := zao [1, 1, 1, 0, 1, 0, 0] zox
def zua (K : Kt) : AExit → List AV → zaa → Prop := zap tP ze5 [1, 1, 1, 0, 1, 0] zox (zat tP zEC K)
def zuc (t0 t3 t4 t14 t15 : AV) (H : zaa) (K : Kt) : Prop := ALoop tP zoy (zua K) (zjE t0 t3 t4 t14 t15) H
def zjD (t0 t3 t4 t5 t14 t15 t76 t77 t78 : AV) : List AV := t0 :: ux 2 (t3 :: t4 :: t5 :: ux 8 (t14 :: t15 :: ux 60 (t76 :: t77 :: t78 :: ux 26 [])))
def zEA : List Bool := ze5 13
noncomputable def zEx : Code := zao [1, 1, 0, 0, 1, 1, 1, 1, 1, 0, 0] zoy
def zEw (K : Kt) (Kb5 : Lt) : AExit → List AV → zaa → Prop := zap tP ze5 [1, 1, 0, 0, 1, 1, 1, 1, 1, 0] zoy (zbJ zud Kb5 (zua K))
def zub (t0 t3 t4 t5 t14 t15 t76 t77 t78 : AV) (H : zaa) (K : Kt) (Kb5 : Lt) : Prop := ALoop tP zEx (zEw K Kb5) (zjD t0 t3 t4 t5 t14 t15 t76 t77 t78) H
def zov (t0 t3 t4 t5 t14 t15 t76 t77 t78 : AV) (H : zaa) (K : Kt) (Kb5 : Lt) (Kb13 : Lt) : Prop :=
 zad .lss false t78 t77 fun t79 =>
 zag t79
 (zaj 2 t76 t78 fun t81 =>
 zae true 2 t81 H fun t82 =>
 zaA [(.str []), .snil] H fun t7 H =>
 zar 2 t7 t82 H fun H =>
 zaf 0 t7 fun t83 =>
 zae false 1 t83 H fun t84 =>
 ACalls tP zhS [t84] H fun t85 H =>
 aUn .not t85 fun t86 =>
 zab t86 false H (fun K' => K' t4 H) fun t88 H =>
 zab t86 false H (fun K' => zaf 0 t7 (K' · H)) fun t89 H =>
 zab t86 false H (fun K' => zae false 1 t89 H (K' · H)) fun t90 H =>
 zab t86 false H (fun K' => zdo (.bool false) false t88 t90 H (K' · H)) fun t91 H =>
 zah t86 (.bool true) t91 fun t92 =>
 zab t92 false H (fun K' => K' t0 H) fun t94 H =>
 zab t92 false H (fun K' => K' t5 H) fun t95 H =>
 zab t92 false H (fun K' => K' t78 H) fun t96 H =>
 zab t92 false H (fun K' => ACalls tP zmu [t94, t95, t96] H K') fun t97 H =>
 zab t92 false H (fun K' => aUn .not t97 (K' · H)) fun t98 H =>
 zah t92 (.bool true) t98 fun t99 =>
 zag t99
 (K (.bool false) H)
 (zaf 0 t7 fun t101 =>
 zae false 1 t101 H fun t102 =>
 zcN t4 t102 (.bool true) H fun H =>
 zad .add false t78 (.int .i64 1) fun t103 =>
 Kb13 (zjD t0 t3 t4 t5 t14 t15 t76 t77 t103) H))
 (zad .add false t15 (.int .i64 1) fun t104 =>
 Kb5 (zjE t0 t3 t4 t14 t104) H)
def zow (t0 t3 t4 t14 t15 : AV) (H : zaa) (K : Kt) (Kb5 : Lt) : Prop :=
 zad .lss false t15 t14 fun t16 =>
 zag t16
 (zaj 3 t0 t15 fun t20 =>
 zaf 0 t20 fun t21 =>
 zae false 1 t21 H fun t22 =>
 ACalls tP zhS [t22] H fun t23 H =>
 aUn .not t23 fun t24 =>
 zab t24 false H (fun K' => K' t3 H) fun t26 H =>
 zab t24 false H (fun K' => K' t0 H) fun t27 H =>
 zab t24 false H (fun K' => K' t15 H) fun t28 H =>
 zab t24 false H (fun K' => zaj 3 t27 t28 (K' · H)) fun t29 H =>
 zab t24 false H (fun K' => zaf 0 t29 (K' · H)) fun t30 H =>
 zab t24 false H (fun K' => zae false 1 t30 H (K' · H)) fun t31 H =>
 zab t24 false H (fun K' => zdo (.bool false) false t26 t31 H (K' · H)) fun t32 H =>
 zah t24 (.bool true) t32 fun t33 =>
 zab t33 false H (fun K' => K' t0 H) fun t35 H =>
 zab t33 false H (fun K' => K' t15 H) fun t36 H =>
 zab t33 false H (fun K' => zaj 3 t35 t36 (K' · H)) fun t37 H =>
 zab t33 false H (fun K' => zaf 1 t37 (K' · H)) fun t38 H =>
 zab t33 false H (fun K' => zae false 1 t38 H (K' · H)) fun t39 H =>
 zab t33 false H (fun K' => zad .lss false t39 (.int .i64 0) (K' · H)) fun t40 H =>
 zah t33 (.bool true) t40 fun t41 =>
 zab t41 false H (fun K' => K' t0 H) fun t43 H =>
 zab t41 false H (fun K' => K' t15 H) fun t44 H =>
 zab t41 false H (fun K' => zaj 3 t43 t44 (K' · H)) fun t45 H =>
 zab t41 false H (fun K' => zaf 1 t45 (K' · H)) fun t46 H =>
 zab t41 false H (fun K' => zae false 1 t46 H (K' · H)) fun t47 H =>
 zab t41 false H (fun K' => zad .gtr false t47 (.int .i64 6) (K' · H)) fun t48 H =>
 zah t41 (.bool true) t48 fun t49 =>
 zag t49
 (K (.bool false) H)
 (zaj 3 t0 t15 fun t53 =>
 zaf 0 t53 fun t54 =>
 zae false 1 t54 H fun t55 =>
 zcN t3 t55 (.bool true) H fun H =>
 zaj 3 t0 t15 fun t58 =>
 zaf 2 t58 fun t59 =>
 zae false 1 t59 H fun t60 =>
 zak 1 t60 fun t61 =>
 zad .lss false t61 (.int .i64 1) fun t62 =>
 zab t62 false H (fun K' => K' t0 H) fun t64 H =>
 zab t62 false H (fun K' => K' t15 H) fun t65 H =>
 zab t62 false H (fun K' => zaj 3 t64 t65 (K' · H)) fun t66 H =>
 zab t62 false H (fun K' => zaf 2 t66 (K' · H)) fun t67 H =>
 zab t62 false H (fun K' => zae false 1 t67 H (K' · H)) fun t68 H =>
 zab t62 false H (fun K' => zak 1 t68 (K' · H)) fun t69 H =>
 zab t62 false H (fun K' => zad .gtr false t69 (.int .i64 8) (K' · H)) fun t70 H =>
 zah t62 (.bool true) t70 fun t71 =>
 zag t71
 (K (.bool false) H)
 (zaj 3 t0 t15 fun t74 =>
 zaf 2 t74 fun t75 =>
 zae false 1 t75 H fun t76 =>
 zak 1 t76 fun t77 =>
 zub t0 t3 t4 t15 t14 t15 t76 t77 (.int .i64 0) H K Kb5)))
 (K (.bool true) H)
def zou (t0 : AV) (H : zaa) (K : Kt) : Prop :=
 zak 1 t0 fun t9 =>
 zad .gtr false t9 (.int .i64 12) fun t10 =>
 zag t10
 (K (.bool false) H)
 (zd7 H fun t11 H =>
 zd7 H fun t12 H =>
 zak 1 t0 fun t14 =>
 zuc t0 t11 t12 t14 (.int .i64 0) H K)
theorem zEy {t0 t3 t4 t5 t14 t15 t76 t77 t78 : AV} {H : zaa} {K : Kt} {Kb5 : Lt} (Inv : Nat → AV → zaa → Prop) (n : Nat) (h0 : HSc H → Inv n t78 H)
  (round : Rd1 (fun t78 => zjD t0 t3 t4 t5 t14 t15 t76 t77 t78) (fun t78 => fun H Kb13 => zov t0 t3 t4 t5 t14 t15 t76 t77 t78 H K Kb5 Kb13) H Inv) : zub t0 t3 t4 t5 t14 t15 t76 t77 t78 H K Kb5 :=
 lp1 (M := ze5) zEA t78 (by kernel_rfl) Inv n h0 round
theorem zEz {t0 t3 t4 t14 t15 : AV} {H : zaa} {K : Kt} (Inv : Nat → AV → zaa → Prop) (n : Nat) (h0 : HSc H → Inv n t15 H)
  (round : Rd1 (fun t15 => zjE t0 t3 t4 t14 t15) (fun t15 => fun H Kb5 => zow t0 t3 t4 t14 t15 H K Kb5) H Inv) : zuc t0 t3 t4 t14 t15 H K :=
 lp1 (M := ze5) zud t15 (by kernel_rfl) Inv n h0 round
theorem zEB {t0 : AV} {H : zaa} {K : Kt} (h : HSc H → zou t0 H K) : ACalls tP zmj [t0] H K :=
 zau (M := ze5) Try.func41 (c := zox) (by kernel_rfl) (fun hs => Eq.mpr (by kernel_rfl) (h hs))
def zEE (_ : Nat) : List Bool := []
noncomputable def zEF : Code := Try.f42.body.getD .skip
def zue (t0 : AV) (H : zaa) (K : Kt) : Prop :=
 zaF t0 H fun t1 H =>
 zaf 2 t1 fun t3 =>
 zae false 1 t3 H fun t4 =>
 zak 1 t4 fun t5 =>
 zad .leq false t5 (.int .i64 3000) fun t6 =>
 zab t6 true H (fun K' => zaf 2 t1 (K' · H)) fun t8 H =>
 zab t6 true H (fun K' => zae false 1 t8 H (K' · H)) fun t9 H =>
 zab t6 true H (fun K' => zcx zmv [t1] (K' · H)) fun t10 H =>
 zab t6 true H (fun K' => ACalls tP zeS [t9, t10] H K') fun t11 H =>
 zab t6 true H (fun K' => aUn .not t11 (K' · H)) fun t12 H =>
 zah t6 t12 (.bool false) fun t13 =>
 K t13 H
theorem zEG {t0 : AV} {H : zaa} {K : Kt} (h : HSc H → zue t0 H K) : ACalls tP zmk [t0] H K :=
 zau (M := zEE) Try.func42 (c := zEF) (by kernel_rfl) (fun hs => Eq.mpr (by kernel_rfl) (h hs))
def zjF : Nat → List Bool
 | 6 => rl false [1,1,1,2,14,3,59]
 | _ => []
noncomputable def zoz : Code := Try.f43.body.getD .skip
noncomputable def zEN : List ResultVar := Try.f43.results.toList
def zjG (t1 t3 t4 t19 t20 t21 : AV) : List AV := ux 1 (t1 :: ux 1 (t3 :: t4 :: ux 14 (t19 :: t20 :: t21 :: ux 59 [])))
def zEL : List Bool := zjF 6
noncomputable def zEJ : Code := zao [1, 1, 1, 1, 0, 1, 0, 0] zoz
def zEI (K : Kt) : AExit → List AV → zaa → Prop := zap tP zjF [1, 1, 1, 1, 0, 1, 0] zoz (zat tP zEN K)
def zug (t1 t3 t4 t19 t20 t21 : AV) (H : zaa) (K : Kt) : Prop := ALoop tP zEJ (zEI K) (zjG t1 t3 t4 t19 t20 t21) H
def zgR (t1 t3 t4 t6 t19 t20 t21 : AV) (H : zaa) (K : Kt) (Kb6 : Lt) : Prop :=
 zaf 0 t6 fun t42 =>
 zae false 1 t42 H fun t43 =>
 zcN t3 t43 (.bool true) H fun H =>
 zaf 1 t6 fun t44 =>
 zae false 1 t44 H fun t45 =>
 zak 1 t45 fun t46 =>
 zad .gtr false t46 (.int .i64 6) fun t47 =>
 zab t47 false H (fun K' => zaf 0 t1 (K' · H)) fun t49 H =>
 zab t47 false H (fun K' => zae false 1 t49 H (K' · H)) fun t50 H =>
 zab t47 false H (fun K' => zaf 3 t6 (K' · H)) fun t51 H =>
 zab t47 false H (fun K' => zae true 3 t51 H (K' · H)) fun t52 H =>
 zab t47 false H (fun K' => ACalls tP zfD [t50, t52, (.int .i64 0)] H K') fun t53 H =>
 zab t47 false H (fun K' => aUn .not t53 (K' · H)) fun t54 H =>
 zah t47 (.bool true) t54 fun t55 =>
 zag t55
 (K (.bool false) H)
 (zac H (fun K' => zaf 6 t6 (K' · H)) fun t56 =>
 zac H (fun K' => zai false 1 t56 H (K' · H)) fun t57 =>
 zac H (fun K' => zad .lss false t57 (.int .i64 0) (K' · H)) fun t58 =>
 zac H (fun K' => K' t58 H) fun t59 =>
 zab t59 false H (fun K' => zac H (fun K'' => zaf 6 t6 (K'' · H)) (K' · H)) fun t60 H =>
 zab t59 false H (fun K' => zac H (fun K'' => zai false 1 t60 H (K'' · H)) (K' · H)) fun t61 H =>
 zab t59 false H (fun K' => zac H (fun K'' => zaf 3 t1 (K'' · H)) (K' · H)) fun t62 H =>
 zab t59 false H (fun K' => zac H (fun K'' => zai false 1 t62 H (K'' · H)) (K' · H)) fun t63 H =>
 zab t59 false H (fun K' => zac H (fun K'' => zak 1 t63 (K'' · H)) (K' · H)) fun t64 H =>
 zab t59 false H (fun K' => zac H (fun K'' => zad .geq false t61 t64 (K'' · H)) (K' · H)) fun t65 H =>
 zac H (fun K' => zah t59 (.bool true) t65 (K' · H)) fun t66 =>
 zac H (fun K' => K' t66 H) fun t67 =>
 zab t67 false H (fun K' => zac H (fun K'' => zaf 3 t1 (K'' · H)) (K' · H)) fun t68 H =>
 zab t67 false H (fun K' => zac H (fun K'' => zai false 1 t68 H (K'' · H)) (K' · H)) fun t69 H =>
 zab t67 false H (fun K' => zac H (fun K'' => zaf 6 t6 (K'' · H)) (K' · H)) fun t70 H =>
 zab t67 false H (fun K' => zac H (fun K'' => zai false 1 t70 H (K'' · H)) (K' · H)) fun t71 H =>
 zab t67 false H (fun K' => zac H (fun K'' => zaj 8 t69 t71 (K'' · H)) (K' · H)) fun t72 H =>
 zab t67 false H (fun K' => zac H (fun K'' => zaf 5 t72 (K'' · H)) (K' · H)) fun t73 H =>
 zab t67 false H (fun K' => zac H (fun K'' => zai true 3 t73 H (K'' · H)) (K' · H)) fun t74 H =>
 zab t67 false H (fun K' => zac H (fun K'' => zaf 3 t6 (K'' · H)) (K' · H)) fun t75 H =>
 zab t67 false H (fun K' => zac H (fun K'' => zai true 3 t75 H (K'' · H)) (K' · H)) fun t76 H =>
 zab t67 false H (fun K' => zaw H (fun H K'' => ACalls tP zbF [t74, t76] H K'') (K' · H)) fun t77 H =>
 zab t67 false H (fun K' => zac H (fun K'' => aUn .not t77 (K'' · H)) (K' · H)) fun t78 H =>
 zac H (fun K' => zah t67 (.bool true) t78 (K' · H)) fun t79 =>
 zag t79
 (K (.bool false) H)
 (zad .add false t21 (.int .i64 1) fun t80 =>
 Kb6 (zjG t1 t3 t4 t19 t20 t80) H))
def ze6 (t1 t3 t4 t19 t20 t21 : AV) (H : zaa) (K : Kt) (Kb6 : Lt) : Prop :=
 zad .lss false t21 t20 fun t22 =>
 zag t22
 (zaj 7 t19 t21 fun t23 =>
 zae true 7 t23 H fun t24 =>
 zaA [(.str []), .snil, .snil, (.int .i64 0), (.int .i64 0), .snil, (.int .i64 0)] H fun t6 H =>
 zar 7 t6 t24 H fun H =>
 zaf 0 t6 fun t25 =>
 zae false 1 t25 H fun t26 =>
 zad .eql false t26 (.str []) fun t27 =>
 zag t27
 (zgR t1 t3 (.bool true) t6 t19 t20 t21 H K Kb6)
 (zab t4 false H (fun K' => K' t3 H) fun t30 H =>
 zab t4 false H (fun K' => zaf 0 t6 (K' · H)) fun t31 H =>
 zab t4 false H (fun K' => zae false 1 t31 H (K' · H)) fun t32 H =>
 zab t4 false H (fun K' => zdo (.bool false) false t30 t32 H (K' · H)) fun t33 H =>
 zah t4 (.bool true) t33 fun t34 =>
 zab t34 false H (fun K' => zaf 2 t6 (K' · H)) fun t36 H =>
 zab t34 false H (fun K' => zae false 1 t36 H (K' · H)) fun t37 H =>
 zab t34 false H (fun K' => zak 1 t37 (K' · H)) fun t38 H =>
 zab t34 false H (fun K' => zad .gtr false t38 (.int .i64 0) (K' · H)) fun t39 H =>
 zah t34 (.bool true) t39 fun t40 =>
 zag t40
 (K (.bool false) H)
 (zgR t1 t3 t4 t6 t19 t20 t21 H K Kb6)))
 (K (.bool true) H)
def zuf (t0 : AV) (H : zaa) (K : Kt) : Prop :=
 zaF t0 H fun t1 H =>
 zaf 1 t1 fun t7 =>
 zae false 1 t7 H fun t8 =>
 zak 1 t8 fun t9 =>
 zad .gtr false t9 (.int .i64 64) fun t10 =>
 zab t10 false H (fun K' => zaf 3 t1 (K' · H)) fun t12 H =>
 zab t10 false H (fun K' => zae false 1 t12 H (K' · H)) fun t13 H =>
 zab t10 false H (fun K' => zak 1 t13 (K' · H)) fun t14 H =>
 zab t10 false H (fun K' => zad .gtr false t14 (.int .i64 3000) (K' · H)) fun t15 H =>
 zah t10 (.bool true) t15 fun t16 =>
 zag t16
 (K (.bool false) H)
 (zd7 H fun t17 H =>
 zaf 1 t1 fun t18 =>
 zae false 1 t18 H fun t19 =>
 zak 1 t19 fun t20 =>
 zug t1 t17 (.bool false) t19 t20 (.int .i64 0) H K)
theorem zEK {t1 t3 t4 t19 t20 t21 : AV} {H : zaa} {K : Kt} (Inv : Nat → AV → AV → zaa → Prop) (n : Nat) (h0 : HSc H → Inv n t4 t21 H)
  (round : Rd2 (fun t4 => fun t21 => zjG t1 t3 t4 t19 t20 t21) (fun t4 => fun t21 => fun H Kb6 => ze6 t1 t3 t4 t19 t20 t21 H K Kb6) H Inv) : zug t1 t3 t4 t19 t20 t21 H K :=
 lp2 (M := zjF) zEL t4 t21 (by kernel_rfl) Inv n h0 round
theorem zEM {t0 : AV} {H : zaa} {K : Kt} (h : HSc H → zuf t0 H K) : ACalls tP zml [t0] H K :=
 zau (M := zjF) Try.func43 (c := zoz) (by kernel_rfl) (fun hs => Eq.mpr (by kernel_rfl) (h hs))
def zdK : Nat → List Bool
 | 5 => rl false [1,1,2,2,12,3,54]
 | 11 => rl false [1,1,2,2,25,3,41]
 | 16 => rl false [1,1,2,2,2,1,22,3,12,3,26]
 | _ => []
noncomputable def zgT : Code := Try.f44.body.getD .skip
noncomputable def zun : List ResultVar := Try.f44.results.toList
def zjK (t1 t4 t5 t18 t19 t20 : AV) : List AV := ux 1 (t1 :: ux 2 (t4 :: t5 :: ux 12 (t18 :: t19 :: t20 :: ux 54 [])))
def zEX : List Bool := zdK 5
noncomputable def zES : Code := zao [1, 1, 1, 1, 0, 1, 0, 0] zgT
def zEQ (K : Kt) : AExit → List AV → zaa → Prop := zap tP zdK [1, 1, 1, 1, 0, 1, 0] zgT (zat tP zun K)
def zul (t1 t4 t5 t18 t19 t20 : AV) (H : zaa) (K : Kt) : Prop := ALoop tP zES (zEQ K) (zjK t1 t4 t5 t18 t19 t20) H
def zjI (t1 t4 t5 t31 t32 t33 : AV) : List AV := ux 1 (t1 :: ux 2 (t4 :: t5 :: ux 25 (t31 :: t32 :: t33 :: ux 41 [])))
def zum : List Bool := zdK 11
noncomputable def zoB : Code := zao [1, 1, 1, 1, 1, 0, 1, 0, 0] zgT
def zui (K : Kt) : AExit → List AV → zaa → Prop := zap tP zdK [1, 1, 1, 1, 1, 0, 1, 0] zgT (zat tP zun K)
def zuj (t1 t4 t5 t31 t32 t33 : AV) (H : zaa) (K : Kt) : Prop := ALoop tP zoB (zui K) (zjI t1 t4 t5 t31 t32 t33) H
def zjJ (t1 t4 t5 t8 t31 t32 t33 t46 t47 t48 : AV) : List AV := ux 1 (t1 :: ux 2 (t4 :: t5 :: ux 2 (t8 :: ux 22 (t31 :: t32 :: t33 :: ux 12 (t46 :: t47 :: t48 :: ux 26 [])))))
def zEW : List Bool := zdK 16
noncomputable def zER : Code := zao [1, 1, 0, 0, 1, 1, 1, 0, 0] zoB
def zEP (K : Kt) (Kb11 : Lt) : AExit → List AV → zaa → Prop := zap tP zdK [1, 1, 0, 0, 1, 1, 1, 0] zoB (zbJ zum Kb11 (zui K))
def zuk (t1 t4 t5 t8 t31 t32 t33 t46 t47 t48 : AV) (H : zaa) (K : Kt) (Kb11 : Lt) : Prop := ALoop tP zER (zEP K Kb11) (zjJ t1 t4 t5 t8 t31 t32 t33 t46 t47 t48) H
def zgS (t1 t4 t5 t8 t31 t32 t33 t46 t47 t48 : AV) (H : zaa) (K : Kt) (Kb11 : Lt) (Kb16 : Lt) : Prop :=
 zad .lss false t48 t47 fun t49 =>
 zag t49
 (zaj 1 t46 t48 fun t50 =>
 zae false 1 t50 H fun t51 =>
 zad .leq false t51 t8 fun t54 =>
 zab t54 false H (fun K' => K' t51 H) fun t56 H =>
 zab t54 false H (fun K' => zaf 3 t1 (K' · H)) fun t57 H =>
 zab t54 false H (fun K' => zae false 1 t57 H (K' · H)) fun t58 H =>
 zab t54 false H (fun K' => zak 1 t58 (K' · H)) fun t59 H =>
 zab t54 false H (fun K' => zad .geq false t56 t59 (K' · H)) fun t60 H =>
 zah t54 (.bool true) t60 fun t61 =>
 zab t61 false H (fun K' => K' t5 H) fun t63 H =>
 zab t61 false H (fun K' => K' t51 H) fun t64 H =>
 zab t61 false H (fun K' => aCallV tP t63 [t64] H K') fun t65 H =>
 zab t61 false H (fun K' => aUn .not t65 (K' · H)) fun t66 H =>
 zah t61 (.bool true) t66 fun t67 =>
 zag t67
 (K (.bool false) H)
 (zad .add false t48 (.int .i64 1) fun t68 =>
 Kb16 (zjJ t1 t4 t5 t8 t31 t32 t33 t46 t47 t68) H))
 (zad .add false t33 (.int .i64 1) fun t69 =>
 Kb11 (zjI t1 t4 t5 t31 t32 t69) H)
def zjH (t1 t4 t5 t31 t32 t33 : AV) (H : zaa) (K : Kt) (Kb11 : Lt) : Prop :=
 zad .lss false t33 t32 fun t34 =>
 zag t34
 (zaj 8 t31 t33 fun t36 =>
 zae true 8 t36 H fun t37 =>
 zaA [(.int .i64 0), (.int .i64 0), .snil, .snil, .snil, (.int .i64 0), (.int .i64 0), .snil] H fun t9 H =>
 zar 8 t9 t37 H fun H =>
 zaf 3 t9 fun t38 =>
 zae false 1 t38 H fun t39 =>
 zak 1 t39 fun t40 =>
 zaf 4 t9 fun t41 =>
 zae false 1 t41 H fun t42 =>
 zak 1 t42 fun t43 =>
 zad .neq false t40 t43 fun t44 =>
 zag t44
 (K (.bool false) H)
 (zaf 4 t9 fun t45 =>
 zae false 1 t45 H fun t46 =>
 zak 1 t46 fun t47 =>
 zuk t1 t4 t5 t33 t31 t32 t33 t46 t47 (.int .i64 0) H K Kb11))
 (zae false 1 t4 H fun t70 =>
 zaf 3 t1 fun t71 =>
 zae false 1 t71 H fun t72 =>
 zak 1 t72 fun t73 =>
 zad .eql false t70 t73 fun t74 =>
 K t74 H)
def zoA (t1 t4 t5 t18 t19 t20 : AV) (H : zaa) (K : Kt) (Kb5 : Lt) : Prop :=
 zad .lss false t20 t19 fun t21 =>
 zag t21
 (zaj 7 t18 t20 fun t22 =>
 zae true 7 t22 H fun t23 =>
 zaA [(.str []), .snil, .snil, (.int .i64 0), (.int .i64 0), .snil, (.int .i64 0)] H fun t7 H =>
 zar 7 t7 t23 H fun H =>
 zaf 6 t7 fun t25 =>
 zae false 1 t25 H fun t26 =>
 aCallV tP t5 [t26] H fun t27 H =>
 aUn .not t27 fun t28 =>
 zag t28
 (K (.bool false) H)
 (zad .add false t20 (.int .i64 1) fun t29 =>
 Kb5 (zjK t1 t4 t5 t18 t19 t29) H))
 (zaf 3 t1 fun t30 =>
 zae false 1 t30 H fun t31 =>
 zak 1 t31 fun t32 =>
 zuj t1 t4 t5 t31 t32 (.int .i64 0) H K)
def zuh (t0 : AV) (H : zaa) (K : Kt) : Prop :=
 zaF t0 H fun t1 H =>
 zaf 3 t1 fun t12 =>
 zae false 1 t12 H fun t13 =>
 zak 1 t13 fun t14 =>
 zbc 1 [(.bool false)] t14 t14 H fun t15 H =>
 zaA [.snil] H fun t3 H =>
 zar 1 t3 t15 H fun H =>
 zaA [(.int .i64 0)] H fun t4 H =>
 zar 1 t4 (.int .i64 0) H fun H =>
 zcx zhT [t3, t4] fun t16 =>
 zaf 1 t1 fun t17 =>
 zae false 1 t17 H fun t18 =>
 zak 1 t18 fun t19 =>
 zul t1 t4 t16 t18 t19 (.int .i64 0) H K
theorem zEU {t1 t4 t5 t8 t31 t32 t33 t46 t47 t48 : AV} {H : zaa} {K : Kt} {Kb11 : Lt} (Inv : Nat → AV → zaa → Prop) (n : Nat) (h0 : HSc H → Inv n t48 H)
  (round : Rd1 (fun t48 => zjJ t1 t4 t5 t8 t31 t32 t33 t46 t47 t48) (fun t48 => fun H Kb16 => zgS t1 t4 t5 t8 t31 t32 t33 t46 t47 t48 H K Kb11 Kb16) H Inv) : zuk t1 t4 t5 t8 t31 t32 t33 t46 t47 t48 H K Kb11 :=
 lp1 (M := zdK) zEW t48 (by kernel_rfl) Inv n h0 round
theorem zET {t1 t4 t5 t31 t32 t33 : AV} {H : zaa} {K : Kt} (Inv : Nat → AV → zaa → Prop) (n : Nat) (h0 : HSc H → Inv n t33 H)
  (round : Rd1 (fun t33 => zjI t1 t4 t5 t31 t32 t33) (fun t33 => fun H Kb11 => zjH t1 t4 t5 t31 t32 t33 H K Kb11) H Inv) : zuj t1 t4 t5 t31 t32 t33 H K :=
 lp1 (M := zdK) zum t33 (by kernel_rfl) Inv n h0 round
theorem zEV {t1 t4 t5 t18 t19 t20 : AV} {H : zaa} {K : Kt} (Inv : Nat → AV → zaa → Prop) (n : Nat) (h0 : HSc H → Inv n t20 H)
  (round : Rd1 (fun t20 => zjK t1 t4 t5 t18 t19 t20) (fun t20 => fun H Kb5 => zoA t1 t4 t5 t18 t19 t20 H K Kb5) H Inv) : zul t1 t4 t5 t18 t19 t20 H K :=
 lp1 (M := zdK) zEX t20 (by kernel_rfl) Inv n h0 round
theorem zEY {t0 : AV} {H : zaa} {K : Kt} (h : HSc H → zuh t0 H K) : ACalls tP zmm [t0] H K :=
 zau (M := zdK) Try.func44 (c := zgT) (by kernel_rfl) (fun hs => Eq.mpr (by kernel_rfl) (h hs))
def zdL : Nat → List Bool
 | 5 => rl false [1,1,2,2,12,3,41]
 | 11 => rl false [1,1,2,2,32,3,21]
 | 14 => rl false [1,1,2,2,32,3,4,3,14]
 | _ => []
noncomputable def zgU : Code := Try.f45.body.getD .skip
noncomputable def zuu : List ResultVar := Try.f45.results.toList
def zjN (t1 t4 t5 t18 t19 t20 : AV) : List AV := ux 1 (t1 :: ux 2 (t4 :: t5 :: ux 12 (t18 :: t19 :: t20 :: ux 41 [])))
def zE8 : List Bool := zdL 5
noncomputable def zE3 : Code := zao [1, 1, 1, 1, 0, 1, 0, 0] zgU
def zE1 (K : Kt) : AExit → List AV → zaa → Prop := zap tP zdL [1, 1, 1, 1, 0, 1, 0] zgU (zat tP zuu K)
def zus (t1 t4 t5 t18 t19 t20 : AV) (H : zaa) (K : Kt) : Prop := ALoop tP zE3 (zE1 K) (zjN t1 t4 t5 t18 t19 t20) H
def zjL (t1 t4 t5 t38 t39 t40 : AV) : List AV := ux 1 (t1 :: ux 2 (t4 :: t5 :: ux 32 (t38 :: t39 :: t40 :: ux 21 [])))
def zut : List Bool := zdL 11
noncomputable def zoF : Code := zao [1, 1, 1, 1, 1, 0, 1, 0, 0] zgU
def zup (K : Kt) : AExit → List AV → zaa → Prop := zap tP zdL [1, 1, 1, 1, 1, 0, 1, 0] zgU (zat tP zuu K)
def zuq (t1 t4 t5 t38 t39 t40 : AV) (H : zaa) (K : Kt) : Prop := ALoop tP zoF (zup K) (zjL t1 t4 t5 t38 t39 t40) H
def zjM (t1 t4 t5 t38 t39 t40 t45 t46 t47 : AV) : List AV := ux 1 (t1 :: ux 2 (t4 :: t5 :: ux 32 (t38 :: t39 :: t40 :: ux 4 (t45 :: t46 :: t47 :: ux 14 []))))
def zE7 : List Bool := zdL 14
noncomputable def zE2 : Code := zao [1, 1, 0, 0, 1, 1, 0, 0] zoF
def zE0 (K : Kt) (Kb11 : Lt) : AExit → List AV → zaa → Prop := zap tP zdL [1, 1, 0, 0, 1, 1, 0] zoF (zbJ zut Kb11 (zup K))
def zur (t1 t4 t5 t38 t39 t40 t45 t46 t47 : AV) (H : zaa) (K : Kt) (Kb11 : Lt) : Prop := ALoop tP zE2 (zE0 K Kb11) (zjM t1 t4 t5 t38 t39 t40 t45 t46 t47) H
def zoD (t1 t4 t5 t38 t39 t40 t45 t46 t47 : AV) (H : zaa) (K : Kt) (Kb11 : Lt) (Kb14 : Lt) : Prop :=
 zad .lss false t47 t46 fun t48 =>
 zag t48
 (zaj 1 t45 t47 fun t49 =>
 zae false 1 t49 H fun t50 =>
 aCallV tP t5 [t50] H fun t53 H =>
 aUn .not t53 fun t54 =>
 zag t54
 (K (.bool false) H)
 (zad .add false t47 (.int .i64 1) fun t55 =>
 Kb14 (zjM t1 t4 t5 t38 t39 t40 t45 t46 t55) H))
 (zad .add false t40 (.int .i64 1) fun t56 =>
 Kb11 (zjL t1 t4 t5 t38 t39 t56) H)
def zoC (t1 t4 t5 t38 t39 t40 : AV) (H : zaa) (K : Kt) (Kb11 : Lt) : Prop :=
 zad .lss false t40 t39 fun t41 =>
 zag t41
 (zaj 8 t38 t40 fun t42 =>
 zae true 8 t42 H fun t43 =>
 zaA [(.int .i64 0), (.int .i64 0), .snil, .snil, .snil, (.int .i64 0), (.int .i64 0), .snil] H fun t9 H =>
 zar 8 t9 t43 H fun H =>
 zaf 3 t9 fun t44 =>
 zae false 1 t44 H fun t45 =>
 zak 1 t45 fun t46 =>
 zur t1 t4 t5 t38 t39 t40 t45 t46 (.int .i64 0) H K Kb11)
 (zae false 1 t4 H fun t57 =>
 zaf 2 t1 fun t58 =>
 zae false 1 t58 H fun t59 =>
 zak 1 t59 fun t60 =>
 zad .eql false t57 t60 fun t61 =>
 K t61 H)
def zoE (t1 t4 t5 t18 t19 t20 : AV) (H : zaa) (K : Kt) (Kb5 : Lt) : Prop :=
 zad .lss false t20 t19 fun t21 =>
 zag t21
 (zaj 7 t18 t20 fun t22 =>
 zae true 7 t22 H fun t23 =>
 zaA [(.str []), .snil, .snil, (.int .i64 0), (.int .i64 0), .snil, (.int .i64 0)] H fun t7 H =>
 zar 7 t7 t23 H fun H =>
 zaf 1 t7 fun t25 =>
 zae false 1 t25 H fun t26 =>
 aCallV tP t5 [t26] H fun t27 H =>
 aUn .not t27 fun t28 =>
 zab t28 false H (fun K' => K' t5 H) fun t30 H =>
 zab t28 false H (fun K' => zaf 2 t7 (K' · H)) fun t31 H =>
 zab t28 false H (fun K' => zae false 1 t31 H (K' · H)) fun t32 H =>
 zab t28 false H (fun K' => aCallV tP t30 [t32] H K') fun t33 H =>
 zab t28 false H (fun K' => aUn .not t33 (K' · H)) fun t34 H =>
 zah t28 (.bool true) t34 fun t35 =>
 zag t35
 (K (.bool false) H)
 (zad .add false t20 (.int .i64 1) fun t36 =>
 Kb5 (zjN t1 t4 t5 t18 t19 t36) H))
 (zaf 3 t1 fun t37 =>
 zae false 1 t37 H fun t38 =>
 zak 1 t38 fun t39 =>
 zuq t1 t4 t5 t38 t39 (.int .i64 0) H K)
def zuo (t0 : AV) (H : zaa) (K : Kt) : Prop :=
 zaF t0 H fun t1 H =>
 zaf 2 t1 fun t12 =>
 zae false 1 t12 H fun t13 =>
 zak 1 t13 fun t14 =>
 zbc 1 [(.bool false)] t14 t14 H fun t15 H =>
 zaA [.snil] H fun t3 H =>
 zar 1 t3 t15 H fun H =>
 zaA [(.int .i64 0)] H fun t4 H =>
 zar 1 t4 (.int .i64 0) H fun H =>
 zcx zhU [t3, t4] fun t16 =>
 zaf 1 t1 fun t17 =>
 zae false 1 t17 H fun t18 =>
 zak 1 t18 fun t19 =>
 zus t1 t4 t16 t18 t19 (.int .i64 0) H K
theorem zE5 {t1 t4 t5 t38 t39 t40 t45 t46 t47 : AV} {H : zaa} {K : Kt} {Kb11 : Lt} (Inv : Nat → AV → zaa → Prop) (n : Nat) (h0 : HSc H → Inv n t47 H)
  (round : Rd1 (fun t47 => zjM t1 t4 t5 t38 t39 t40 t45 t46 t47) (fun t47 => fun H Kb14 => zoD t1 t4 t5 t38 t39 t40 t45 t46 t47 H K Kb11 Kb14) H Inv) : zur t1 t4 t5 t38 t39 t40 t45 t46 t47 H K Kb11 :=
 lp1 (M := zdL) zE7 t47 (by kernel_rfl) Inv n h0 round
theorem zE4 {t1 t4 t5 t38 t39 t40 : AV} {H : zaa} {K : Kt} (Inv : Nat → AV → zaa → Prop) (n : Nat) (h0 : HSc H → Inv n t40 H)
  (round : Rd1 (fun t40 => zjL t1 t4 t5 t38 t39 t40) (fun t40 => fun H Kb11 => zoC t1 t4 t5 t38 t39 t40 H K Kb11) H Inv) : zuq t1 t4 t5 t38 t39 t40 H K :=
 lp1 (M := zdL) zut t40 (by kernel_rfl) Inv n h0 round
theorem zE6 {t1 t4 t5 t18 t19 t20 : AV} {H : zaa} {K : Kt} (Inv : Nat → AV → zaa → Prop) (n : Nat) (h0 : HSc H → Inv n t20 H)
  (round : Rd1 (fun t20 => zjN t1 t4 t5 t18 t19 t20) (fun t20 => fun H Kb5 => zoE t1 t4 t5 t18 t19 t20 H K Kb5) H Inv) : zus t1 t4 t5 t18 t19 t20 H K :=
 lp1 (M := zdL) zE8 t20 (by kernel_rfl) Inv n h0 round
theorem zE9 {t0 : AV} {H : zaa} {K : Kt} (h : HSc H → zuo t0 H K) : ACalls tP zmn [t0] H K :=
 zau (M := zdL) Try.func45 (c := zgU) (by kernel_rfl) (fun hs => Eq.mpr (by kernel_rfl) (h hs))
def zjO : Nat → List Bool
 | 6 => rl false [4,2,9,3,25]
 | _ => []
noncomputable def zoH : Code := Try.f46.body.getD .skip
noncomputable def zFg : List ResultVar := Try.f46.results.toList
def zjP (t4 t5 t15 t16 t17 : AV) : List AV := ux 4 (t4 :: t5 :: ux 9 (t15 :: t16 :: t17 :: ux 25 []))
def zFe : List Bool := zjO 6
noncomputable def zFc : Code := zao [1, 1, 1, 1, 1, 0, 1, 0, 0] zoH
def zFb (K : Kt) : AExit → List AV → zaa → Prop := zap tP zjO [1, 1, 1, 1, 1, 0, 1, 0] zoH (zat tP zFg K)
def zuw (t4 t5 t15 t16 t17 : AV) (H : zaa) (K : Kt) : Prop := ALoop tP zFc (zFb K) (zjP t4 t5 t15 t16 t17) H
def zoG (t4 t5 t15 t16 t17 : AV) (H : zaa) (K : Kt) (Kb6 : Lt) : Prop :=
 zad .lss false t17 t16 fun t18 =>
 zag t18
 (zaj 7 t15 t17 fun t19 =>
 zae true 7 t19 H fun t20 =>
 zaA [(.str []), .snil, .snil, (.int .i64 0), (.int .i64 0), .snil, (.int .i64 0)] H fun t7 H =>
 zar 7 t7 t20 H fun H =>
 zae false 1 t4 H fun t21 =>
 zaf 1 t7 fun t22 =>
 zae false 1 t22 H fun t23 =>
 aCallV tP t21 [t23, (.bool true)] H fun t24 H =>
 zae false 1 t4 H fun t25 =>
 zaf 2 t7 fun t26 =>
 zae false 1 t26 H fun t27 =>
 aCallV tP t25 [t27, (.bool true)] H fun t28 H =>
 zae false 1 t5 H fun t29 =>
 zaf 6 t7 fun t30 =>
 zae false 1 t30 H fun t31 =>
 aCallV tP t29 [t31] H fun t32 H =>
 aUn .not t32 fun t33 =>
 zag t33
 (K (.bool false) H)
 (zae false 1 t4 H fun t34 =>
 zaf 1 t7 fun t35 =>
 zae false 1 t35 H fun t36 =>
 aCallV tP t34 [t36, (.bool false)] H fun t37 H =>
 zae false 1 t4 H fun t38 =>
 zaf 2 t7 fun t39 =>
 zae false 1 t39 H fun t40 =>
 aCallV tP t38 [t40, (.bool false)] H fun t41 H =>
 zad .add false t17 (.int .i64 1) fun t42 =>
 Kb6 (zjP t4 t5 t15 t16 t42) H))
 (K (.bool true) H)
def zuv (t0 : AV) (H : zaa) (K : Kt) : Prop :=
 zaF t0 H fun t1 H =>
 zaf 2 t1 fun t8 =>
 zae false 1 t8 H fun t9 =>
 zak 1 t9 fun t10 =>
 zbc 1 [(.bool false)] t10 t10 H fun t11 H =>
 zaA [.snil] H fun t3 H =>
 zar 1 t3 t11 H fun H =>
 zcx zek [t3] fun t12 =>
 zaA [.nilfn] H fun t4 H =>
 zar 1 t4 t12 H fun H =>
 zaA [.nilfn] H fun t5 H =>
 zcx zel [t1, t3, t4, t5] fun t13 =>
 zar 1 t5 t13 H fun H =>
 zaf 1 t1 fun t14 =>
 zae false 1 t14 H fun t15 =>
 zak 1 t15 fun t16 =>
 zuw t4 t5 t15 t16 (.int .i64 0) H K
theorem zFd {t4 t5 t15 t16 t17 : AV} {H : zaa} {K : Kt} (Inv : Nat → AV → zaa → Prop) (n : Nat) (h0 : HSc H → Inv n t17 H)
  (round : Rd1 (fun t17 => zjP t4 t5 t15 t16 t17) (fun t17 => fun H Kb6 => zoG t4 t5 t15 t16 t17 H K Kb6) H Inv) : zuw t4 t5 t15 t16 t17 H K :=
 lp1 (M := zjO) zFe t17 (by kernel_rfl) Inv n h0 round
theorem zFf {t0 : AV} {H : zaa} {K : Kt} (h : HSc H → zuv t0 H K) : ACalls tP zmo [t0] H K :=
 zau (M := zjO) Try.func46 (c := zoH) (by kernel_rfl) (fun hs => Eq.mpr (by kernel_rfl) (h hs))
def ze7 : Nat → List Bool
 | 3 => rl false [1,1,1,1,12,3,30]
 | 9 => rl false [3,1,24,3,18]
 | _ => []
noncomputable def zgW : Code := Try.f47.body.getD .skip
noncomputable def zuA : List ResultVar := Try.f47.results.toList
def zjQ (t1 t3 t16 t17 t18 : AV) : List AV := ux 1 (t1 :: ux 1 (t3 :: ux 12 (t16 :: t17 :: t18 :: ux 30 [])))
def zFo : List Bool := ze7 3
noncomputable def zFk : Code := zao [1, 1, 0, 1, 0, 0] zgW
def zFi (K : Kt) : AExit → List AV → zaa → Prop := zap tP ze7 [1, 1, 0, 1, 0] zgW (zat tP zuA K)
def zuy (t1 t3 t16 t17 t18 : AV) (H : zaa) (K : Kt) : Prop := ALoop tP zFk (zFi K) (zjQ t1 t3 t16 t17 t18) H
def zgX (t3 t28 t29 t30 : AV) : List AV := ux 3 (t3 :: ux 24 (t28 :: t29 :: t30 :: ux 18 []))
def zFp : List Bool := ze7 9
noncomputable def zFl : Code := zao [1, 1, 1, 0, 1, 0, 0] zgW
def zFj (K : Kt) : AExit → List AV → zaa → Prop := zap tP ze7 [1, 1, 1, 0, 1, 0] zgW (zat tP zuA K)
def zuz (t3 t28 t29 t30 : AV) (H : zaa) (K : Kt) : Prop := ALoop tP zFl (zFj K) (zgX t3 t28 t29 t30) H
def zgV (t3 t28 t29 t30 : AV) (H : zaa) (K : Kt) (Kb9 : Lt) : Prop :=
 zad .lss false t30 t29 fun t31 =>
 zag t31
 (zaj 7 t28 t30 fun t33 =>
 zae true 7 t33 H fun t34 =>
 zaA [(.str []), .snil, .snil, (.int .i64 0), (.int .i64 0), .snil, (.int .i64 0)] H fun t7 H =>
 zar 7 t7 t34 H fun H =>
 zaf 0 t7 fun t35 =>
 zae false 1 t35 H fun t36 =>
 zad .eql false t36 (.str []) fun t37 =>
 zab t37 true H (fun K' => K' t3 H) fun t39 H =>
 zab t37 true H (fun K' => za0 t39 (K' · H)) fun t40 H =>
 zab t37 true H (fun K' => zaf 4 t40 (K' · H)) fun t41 H =>
 zab t37 true H (fun K' => zae false 1 t41 H (K' · H)) fun t42 H =>
 zab t37 true H (fun K' => K' t30 H) fun t43 H =>
 zab t37 true H (fun K' => zaj 1 t42 t43 (K' · H)) fun t44 H =>
 zab t37 true H (fun K' => zae false 1 t44 H (K' · H)) fun t45 H =>
 zab t37 true H (fun K' => zad .neq false t45 (.int .i64 1) (K' · H)) fun t46 H =>
 zah t37 t46 (.bool false) fun t47 =>
 zag t47
 (K (.bool false) H)
 (zad .add false t30 (.int .i64 1) fun t48 =>
 Kb9 (zgX t3 t28 t29 t48) H))
 (K (.bool true) H)
def zoI (t1 t3 t16 t17 t18 : AV) (H : zaa) (K : Kt) (Kb3 : Lt) : Prop :=
 zad .lss false t18 t17 fun t19 =>
 zag t19
 (zaj 8 t16 t18 fun t20 =>
 zae true 8 t20 H fun t21 =>
 zaA [(.int .i64 0), (.int .i64 0), .snil, .snil, .snil, (.int .i64 0), (.int .i64 0), .snil] H fun t5 H =>
 zar 8 t5 t21 H fun H =>
 zae true 8 t5 H fun t23 =>
 ACalls tP zmw [t3, t23] H fun t24 H =>
 aUn .not t24 fun t25 =>
 zag t25
 (K (.bool false) H)
 (zad .add false t18 (.int .i64 1) fun t26 =>
 Kb3 (zjQ t1 t3 t16 t17 t26) H))
 (zaf 1 t1 fun t27 =>
 zae false 1 t27 H fun t28 =>
 zak 1 t28 fun t29 =>
 zuz t3 t28 t29 (.int .i64 0) H K)
def zux (t0 : AV) (H : zaa) (K : Kt) : Prop :=
 zaF t0 H fun t1 H =>
 zac H (fun K' => zai true 4 t1 H (K' · H)) fun t8 =>
 zac H (fun K' => zaf 1 t1 (K' · H)) fun t9 =>
 zac H (fun K' => zai false 1 t9 H (K' · H)) fun t10 =>
 zac H (fun K' => zak 1 t10 (K' · H)) fun t11 =>
 zbc 8 [(.int .i64 0)] t11 t11 H fun t12 H =>
 zac H (fun K' => zaI [.snil, .snil, .snil, .snil, .snil] [(0, 4), (4, 1)] [(0, t8), (1, t12)] (K' · H)) fun t13 =>
 zaF t13 H fun t14 H =>
 zac H (fun K' => K' t14 H) fun t3 =>
 zaf 3 t1 fun t15 =>
 zae false 1 t15 H fun t16 =>
 zak 1 t16 fun t17 =>
 zuy t1 t3 t16 t17 (.int .i64 0) H K
theorem zFn {t3 t28 t29 t30 : AV} {H : zaa} {K : Kt} (Inv : Nat → AV → zaa → Prop) (n : Nat) (h0 : HSc H → Inv n t30 H)
  (round : Rd1 (fun t30 => zgX t3 t28 t29 t30) (fun t30 => fun H Kb9 => zgV t3 t28 t29 t30 H K Kb9) H Inv) : zuz t3 t28 t29 t30 H K :=
 lp1 (M := ze7) zFp t30 (by kernel_rfl) Inv n h0 round
theorem zFm {t1 t3 t16 t17 t18 : AV} {H : zaa} {K : Kt} (Inv : Nat → AV → zaa → Prop) (n : Nat) (h0 : HSc H → Inv n t18 H)
  (round : Rd1 (fun t18 => zjQ t1 t3 t16 t17 t18) (fun t18 => fun H Kb3 => zoI t1 t3 t16 t17 t18 H K Kb3) H Inv) : zuy t1 t3 t16 t17 t18 H K :=
 lp1 (M := ze7) zFo t18 (by kernel_rfl) Inv n h0 round
theorem zFq {t0 : AV} {H : zaa} {K : Kt} (h : HSc H → zux t0 H K) : ACalls tP zmp [t0] H K :=
 zau (M := ze7) Try.func47 (c := zgW) (by kernel_rfl) (fun hs => Eq.mpr (by kernel_rfl) (h hs))
def zkv : Nat → List Bool
 | 6 => rl false [0,2,6,1,18,3,29]
 | _ => []
noncomputable def zpi : Code := Try.f67.body.getD .skip
noncomputable def zHD : List ResultVar := Try.f67.results.toList
def zg6 (t0 t1 t8 t27 t28 t29 : AV) : List AV := t0 :: t1 :: ux 6 (t8 :: ux 18 (t27 :: t28 :: t29 :: ux 29 []))
def zHB : List Bool := zkv 6
noncomputable def zHz : Code := zao [1, 1, 1, 1, 0, 1, 0, 0] zpi
def zHy (K : Kt) : AExit → List AV → zaa → Prop := zap tP zkv [1, 1, 1, 1, 0, 1, 0] zpi (zat tP zHD K)
def zvm (t0 t1 t8 t27 t28 t29 : AV) (H : zaa) (K : Kt) : Prop := ALoop tP zHz (zHy K) (zg6 t0 t1 t8 t27 t28 t29) H
def zph (t0 t1 t8 t27 t28 t29 : AV) (H : zaa) (K : Kt) (Kb6 : Lt) : Prop :=
 zad .lss false t29 t28 fun t30 =>
 zag t30
 (zaj 3 t27 t29 fun t32 =>
 zae true 3 t32 H fun t33 =>
 zaA [(.int .i64 0), (.int .i64 0), .snil] H fun t10 H =>
 zar 3 t10 t33 H fun H =>
 zac H (fun K' => K' t0 H) fun t34 =>
 zac H (fun K' => K' t1 H) fun t35 =>
 zac H (fun K' => zad .add false t35 (.int .i64 1) (K' · H)) fun t36 =>
 zac H (fun K' => zaY 1 3 t34 none (some t36) (K' · H)) fun t37 =>
 zac H (fun K' => zai true 3 t10 H (K' · H)) fun t38 =>
 zac H (fun K' => K' t0 H) fun t39 =>
 zac H (fun K' => K' t1 H) fun t40 =>
 zac H (fun K' => zaj 3 t39 t40 (K' · H)) fun t41 =>
 zac H (fun K' => zaf 1 t41 (K' · H)) fun t42 =>
 zac H (fun K' => zai false 1 t42 H (K' · H)) fun t43 =>
 zaw H (fun H K' => ACalls tP zfD [t37, t38, t43] H K') fun t44 =>
 zac H (fun K' => aUn .not t44 (K' · H)) fun t45 =>
 zac H (fun K' => K' t45 H) fun t46 =>
 zab t46 false H (fun K' => zac H (fun K'' => K'' t8 H) (K' · H)) fun t47 H =>
 zab t46 false H (fun K' => zac H (fun K'' => K'' t29 H) (K' · H)) fun t48 H =>
 zab t46 false H (fun K' => zac H (fun K'' => zaj 1 t47 t48 (K'' · H)) (K' · H)) fun t49 H =>
 zab t46 false H (fun K' => zac H (fun K'' => zai false 1 t49 H (K'' · H)) (K' · H)) fun t50 H =>
 zab t46 false H (fun K' => zac H (fun K'' => aUn .not t50 (K'' · H)) (K' · H)) fun t51 H =>
 zab t46 false H (fun K' => zac H (fun K'' => K'' t51 H) (K' · H)) fun t52 H =>
 zab t52 true H (fun K' => zac H (fun K'' => zai true 3 t10 H (K'' · H)) (K' · H)) fun t53 H =>
 zab t52 true H (fun K' => zac H (fun K'' => K'' t1 H) (K' · H)) fun t54 H =>
 zab t52 true H (fun K' => zaw H (fun H K'' => ACalls tP zhX [t53, t54] H K'') (K' · H)) fun t55 H =>
 zab t46 false H (fun K' => zac H (fun K'' => zah t52 t55 (.bool false) (K'' · H)) (K' · H)) fun t56 H =>
 zac H (fun K' => zah t46 (.bool true) t56 (K' · H)) fun t57 =>
 zag t57
 (K (.bool false) H)
 (zad .add false t29 (.int .i64 1) fun t58 =>
 Kb6 (zg6 t0 t1 t8 t27 t28 t58) H))
 (K (.bool true) H)
def zvl (t0 t1 t2 : AV) (H : zaa) (K : Kt) : Prop :=
 zaj 3 t0 t1 fun t13 =>
 zaf 2 t13 fun t14 =>
 zae false 1 t14 H fun t15 =>
 zaj 2 t15 t2 fun t17 =>
 zaf 1 t17 fun t18 =>
 zae false 1 t18 H fun t19 =>
 zak 1 t19 fun t21 =>
 zad .gtr false t21 (.int .i64 6) fun t22 =>
 zag t22
 (K (.bool false) H)
 (ACalls tP zmz [t0, t1, t2] H fun t26 H =>
 zak 1 t19 fun t28 =>
 zvm t0 t1 t26 t19 t28 (.int .i64 0) H K)
theorem zHA {t0 t1 t8 t27 t28 t29 : AV} {H : zaa} {K : Kt} (Inv : Nat → AV → zaa → Prop) (n : Nat) (h0 : HSc H → Inv n t29 H)
  (round : Rd1 (fun t29 => zg6 t0 t1 t8 t27 t28 t29) (fun t29 => fun H Kb6 => zph t0 t1 t8 t27 t28 t29 H K Kb6) H Inv) : zvm t0 t1 t8 t27 t28 t29 H K :=
 lp1 (M := zkv) zHB t29 (by kernel_rfl) Inv n h0 round
theorem zHC {t0 t1 t2 : AV} {H : zaa} {K : Kt} (h : HSc H → zvl t0 t1 t2 H K) : ACalls tP zmu [t0, t1, t2] H K :=
 zau (M := zkv) Try.func67 (c := zpi) (by kernel_rfl) (fun hs => Eq.mpr (by kernel_rfl) (h hs))
def zHI (_ : Nat) : List Bool := []
noncomputable def zHJ : Code := Try.f69.body.getD .skip
def zvo (t0 t1 : AV) (H : zaa) (K : Kt) : Prop :=
 zaF t0 H fun t2 H =>
 zaf 0 t1 fun t4 =>
 zae false 1 t4 H fun t5 =>
 zae true 3 t2 H fun t6 =>
 ACalls tP zfD [t5, t6, (.int .i64 0)] H fun t7 H =>
 aUn .not t7 fun t8 =>
 K t8 H
theorem zHK {t0 t1 : AV} {H : zaa} {K : Kt} (h : HSc H → zvo t0 t1 H K) : ACalls tP zmv [t0, t1] H K :=
 zau (M := zHI) Try.func69 (c := zHJ) (by kernel_rfl) (fun hs => Eq.mpr (by kernel_rfl) (h hs))
def zH5 (_ : Nat) : List Bool := []
noncomputable def zH6 : Code := Try.f72.body.getD .skip
def zpp (t0 t1 t2 : AV) (H : zaa) (K : Kt) : Prop :=
 zae false 1 t1 H fun t5 =>
 zaj 1 t5 t0 fun t7 =>
 zae false 1 t7 H fun t8 =>
 zag t8
 (K (.bool false) H)
 (zae false 1 t1 H fun t9 =>
 zaj 1 t9 t0 fun t11 =>
 zar 1 t11 (.bool true) H fun H =>
 zae false 1 t2 H fun t12 =>
 zad .add false t12 (.int .i64 1) fun t13 =>
 zar 1 t2 t13 H fun H =>
 K (.bool true) H)
theorem zH7 {t0 t1 t2 : AV} {H : zaa} {K : Kt} (h : HSc H → zpp t0 t1 t2 H K) : ACalls tP zhT [t0, t1, t2] H K :=
 zau (M := zH5) Try.func72 (c := zH6) (by kernel_rfl) (fun hs => Eq.mpr (by kernel_rfl) (h hs))
def zkE : Nat → List Bool
 | 2 => rl false [1,2,4,3,23]
 | _ => []
noncomputable def zpq : Code := Try.f73.body.getD .skip
noncomputable def zId : List ResultVar := Try.f73.results.toList
def zkF (t1 t2 t7 t8 t9 : AV) : List AV := ux 1 (t1 :: t2 :: ux 4 (t7 :: t8 :: t9 :: ux 23 []))
def zIb : List Bool := zkE 2
noncomputable def zH9 : Code := zao [1, 0, 1, 0, 0] zpq
def zH8 (K : Kt) : AExit → List AV → zaa → Prop := zap tP zkE [1, 0, 1, 0] zpq (zat tP zId K)
def zvy (t1 t2 t7 t8 t9 : AV) (H : zaa) (K : Kt) : Prop := ALoop tP zH9 (zH8 K) (zkF t1 t2 t7 t8 t9) H
def zfY (t1 t2 t7 t8 t9 : AV) (H : zaa) (K : Kt) (Kb2 : Lt) : Prop :=
 zad .lss false t9 t8 fun t10 =>
 zag t10
 (zaj 1 t7 t9 fun t11 =>
 zae false 1 t11 H fun t12 =>
 zad .lss false t12 (.int .i64 0) fun t14 =>
 zab t14 false H (fun K' => K' t12 H) fun t16 H =>
 zab t14 false H (fun K' => zae false 1 t1 H (K' · H)) fun t17 H =>
 zab t14 false H (fun K' => zak 1 t17 (K' · H)) fun t18 H =>
 zab t14 false H (fun K' => zad .geq false t16 t18 (K' · H)) fun t19 H =>
 zah t14 (.bool true) t19 fun t20 =>
 zab t20 false H (fun K' => zae false 1 t1 H (K' · H)) fun t22 H =>
 zab t20 false H (fun K' => K' t12 H) fun t23 H =>
 zab t20 false H (fun K' => zaj 1 t22 t23 (K' · H)) fun t24 H =>
 zab t20 false H (fun K' => zae false 1 t24 H (K' · H)) fun t25 H =>
 zah t20 (.bool true) t25 fun t26 =>
 zag t26
 (K (.bool false) H)
 (zae false 1 t1 H fun t27 =>
 zaj 1 t27 t12 fun t29 =>
 zar 1 t29 (.bool true) H fun H =>
 zae false 1 t2 H fun t30 =>
 zad .add false t30 (.int .i64 1) fun t31 =>
 zar 1 t2 t31 H fun H =>
 zad .add false t9 (.int .i64 1) fun t32 =>
 Kb2 (zkF t1 t2 t7 t8 t32) H))
 (K (.bool true) H)
def zvx (t0 t1 t2 : AV) (H : zaa) (K : Kt) : Prop :=
 zak 1 t0 fun t8 =>
 zvy t1 t2 t0 t8 (.int .i64 0) H K
theorem zIa {t1 t2 t7 t8 t9 : AV} {H : zaa} {K : Kt} (Inv : Nat → AV → zaa → Prop) (n : Nat) (h0 : HSc H → Inv n t9 H)
  (round : Rd1 (fun t9 => zkF t1 t2 t7 t8 t9) (fun t9 => fun H Kb2 => zfY t1 t2 t7 t8 t9 H K Kb2) H Inv) : zvy t1 t2 t7 t8 t9 H K :=
 lp1 (M := zkE) zIb t9 (by kernel_rfl) Inv n h0 round
theorem zIc {t0 t1 t2 : AV} {H : zaa} {K : Kt} (h : HSc H → zvx t0 t1 t2 H K) : ACalls tP zhU [t0, t1, t2] H K :=
 zau (M := zkE) Try.func73 (c := zpq) (by kernel_rfl) (fun hs => Eq.mpr (by kernel_rfl) (h hs))
def zkG : Nat → List Bool
 | 1 => rl false [1,2,4,3,8]
 | _ => []
noncomputable def zps : Code := Try.f74.body.getD .skip
noncomputable def zIj : List ResultVar := Try.f74.results.toList
def zkH (t1 t2 t7 t8 t9 : AV) : List AV := ux 1 (t1 :: t2 :: ux 4 (t7 :: t8 :: t9 :: ux 8 []))
def zIh : List Bool := zkG 1
noncomputable def zIf : Code := zao [1, 0, 0] zps
def zIe (K : Kt) : AExit → List AV → zaa → Prop := zap tP zkG [1, 0] zps (zat tP zIj K)
def zvA (t1 t2 t7 t8 t9 : AV) (H : zaa) (K : Kt) : Prop := ALoop tP zIf (zIe K) (zkH t1 t2 t7 t8 t9) H
def zpr (t1 t2 t7 t8 t9 : AV) (H : zaa) (K : Kt) (Kb1 : Lt) : Prop :=
 zad .lss false t9 t8 fun t10 =>
 zag t10
 (zaj 1 t7 t9 fun t11 =>
 zae false 1 t11 H fun t12 =>
 zae false 1 t2 H fun t13 =>
 zaj 1 t13 t12 fun t16 =>
 zar 1 t16 t1 H fun H =>
 zad .add false t9 (.int .i64 1) fun t17 =>
 Kb1 (zkH t1 t2 t7 t8 t17) H)
 (zaW [] (K · H))
def zvz (t0 t1 t2 : AV) (H : zaa) (K : Kt) : Prop :=
 zak 1 t0 fun t8 =>
 zvA t1 t2 t0 t8 (.int .i64 0) H K
theorem zIg {t1 t2 t7 t8 t9 : AV} {H : zaa} {K : Kt} (Inv : Nat → AV → zaa → Prop) (n : Nat) (h0 : HSc H → Inv n t9 H)
  (round : Rd1 (fun t9 => zkH t1 t2 t7 t8 t9) (fun t9 => fun H Kb1 => zpr t1 t2 t7 t8 t9 H K Kb1) H Inv) : zvA t1 t2 t7 t8 t9 H K :=
 lp1 (M := zkG) zIh t9 (by kernel_rfl) Inv n h0 round
theorem zIi {t0 t1 t2 : AV} {H : zaa} {K : Kt} (h : HSc H → zvz t0 t1 t2 H K) : ACalls tP zek [t0, t1, t2] H K :=
 zau (M := zkG) Try.func74 (c := zps) (by kernel_rfl) (fun hs => Eq.mpr (by kernel_rfl) (h hs))
def zfc : Nat → List Bool
 | 3 => rl false [2,3,2,1,10,3,46]
 | 9 => rl false [3,2,2,1,33,3,23]
 | 200011 => rl false [0,1]
 | 200014 => rl false [0,1]
 | _ => []
noncomputable def zg9 : Code := Try.f75.body.getD .skip
noncomputable def zvE : List ResultVar := Try.f75.results.toList
def zkI (t2 t3 t4 t7 t18 t19 t20 : AV) : List AV := ux 2 (t2 :: t3 :: t4 :: ux 2 (t7 :: ux 10 (t18 :: t19 :: t20 :: ux 46 [])))
def zIq : List Bool := zfc 3
noncomputable def zIm : Code := zao [1, 1, 0, 1, 0, 0] zg9
def zIk (K : Kt) : AExit → List AV → zaa → Prop := zap tP zfc [1, 1, 0, 1, 0] zg9 (zat tP zvE K)
def zvC (t2 t3 t4 t7 t18 t19 t20 : AV) (H : zaa) (K : Kt) : Prop := ALoop tP zIm (zIk K) (zkI t2 t3 t4 t7 t18 t19 t20) H
def zkJ (t3 t4 t7 t41 t42 t43 : AV) : List AV := ux 3 (t3 :: t4 :: ux 2 (t7 :: ux 33 (t41 :: t42 :: t43 :: ux 23 [])))
def zIr : List Bool := zfc 9
noncomputable def zIn : Code := zao [1, 1, 1, 0, 1, 0, 0] zg9
def zIl (K : Kt) : AExit → List AV → zaa → Prop := zap tP zfc [1, 1, 1, 0, 1, 0] zg9 (zat tP zvE K)
def zvD (t3 t4 t7 t41 t42 t43 : AV) (H : zaa) (K : Kt) : Prop := ALoop tP zIn (zIl K) (zkJ t3 t4 t7 t41 t42 t43) H
def zpt (t3 t4 t7 t41 t42 t43 : AV) (H : zaa) (K : Kt) (Kb9 : Lt) : Prop :=
 zad .lss false t43 t42 fun t44 =>
 zag t44
 (zaj 1 t41 t43 fun t46 =>
 zae false 1 t46 H fun t47 =>
 zac H (fun K' => zai false 1 t3 H (K' · H)) fun t48 =>
 zac H (fun K' => zaf 3 t7 (K' · H)) fun t49 =>
 zac H (fun K' => zai false 1 t49 H (K' · H)) fun t50 =>
 zac H (fun K' => K' t43 H) fun t51 =>
 zac H (fun K' => zaj 1 t50 t51 (K' · H)) fun t52 =>
 zac H (fun K' => zai false 1 t52 H (K' · H)) fun t53 =>
 zbt .w false H (fun K' => aCallV tP t48 [t53, (.bool true)] H K') fun t54 H =>
 zae false 1 t4 H fun t55 =>
 aCallV tP t55 [t47] H fun t57 H =>
 aUn .not t57 fun t58 =>
 zag t58
 (K (.bool false) H)
 (zac H (fun K' => zai false 1 t3 H (K' · H)) fun t59 =>
 zac H (fun K' => zaf 3 t7 (K' · H)) fun t60 =>
 zac H (fun K' => zai false 1 t60 H (K' · H)) fun t61 =>
 zac H (fun K' => K' t43 H) fun t62 =>
 zac H (fun K' => zaj 1 t61 t62 (K' · H)) fun t63 =>
 zac H (fun K' => zai false 1 t63 H (K' · H)) fun t64 =>
 zbt .w false H (fun K' => aCallV tP t59 [t64, (.bool false)] H K') fun t65 H =>
 zad .add false t43 (.int .i64 1) fun t66 =>
 Kb9 (zkJ t3 t4 t7 t41 t42 t66) H))
 (K (.bool true) H)
def zfZ (t2 t3 t4 t7 t18 t19 t20 : AV) (H : zaa) (K : Kt) (Kb3 : Lt) : Prop :=
 zad .lss false t20 t19 fun t21 =>
 zag t21
 (zaj 1 t18 t20 fun t22 =>
 zae false 1 t22 H fun t23 =>
 zad .lss false t23 (.int .i64 0) fun t25 =>
 zab t25 false H (fun K' => K' t23 H) fun t27 H =>
 zab t25 false H (fun K' => zae false 1 t2 H (K' · H)) fun t28 H =>
 zab t25 false H (fun K' => zak 1 t28 (K' · H)) fun t29 H =>
 zab t25 false H (fun K' => zad .geq false t27 t29 (K' · H)) fun t30 H =>
 zah t25 (.bool true) t30 fun t31 =>
 zab t31 false H (fun K' => zae false 1 t2 H (K' · H)) fun t33 H =>
 zab t31 false H (fun K' => K' t23 H) fun t34 H =>
 zab t31 false H (fun K' => zaj 1 t33 t34 (K' · H)) fun t35 H =>
 zab t31 false H (fun K' => zae false 1 t35 H (K' · H)) fun t36 H =>
 zab t31 false H (fun K' => aUn .not t36 (K' · H)) fun t37 H =>
 zah t31 (.bool true) t37 fun t38 =>
 zag t38
 (K (.bool false) H)
 (zad .add false t20 (.int .i64 1) fun t39 =>
 Kb3 (zkI t2 t3 t4 t7 t18 t19 t39) H))
 (zaf 4 t7 fun t40 =>
 zae false 1 t40 H fun t41 =>
 zak 1 t41 fun t42 =>
 zvD t3 t4 t7 t41 t42 (.int .i64 0) H K)
def zvB (t0 t1 t2 t3 t4 : AV) (H : zaa) (K : Kt) : Prop :=
 zaf 3 t1 fun t12 =>
 zae false 1 t12 H fun t13 =>
 zaj 8 t13 t0 fun t15 =>
 zae true 8 t15 H fun t16 =>
 zaA [(.int .i64 0), (.int .i64 0), .snil, .snil, .snil, (.int .i64 0), (.int .i64 0), .snil] H fun t7 H =>
 zar 8 t7 t16 H fun H =>
 zaf 2 t7 fun t17 =>
 zae false 1 t17 H fun t18 =>
 zak 1 t18 fun t19 =>
 zvC t2 t3 t4 t7 t18 t19 (.int .i64 0) H K
theorem zIp {t3 t4 t7 t41 t42 t43 : AV} {H : zaa} {K : Kt} (Inv : Nat → AV → zaa → Prop) (n : Nat) (h0 : HSc H → Inv n t43 H)
  (round : Rd1 (fun t43 => zkJ t3 t4 t7 t41 t42 t43) (fun t43 => fun H Kb9 => zpt t3 t4 t7 t41 t42 t43 H K Kb9) H Inv) : zvD t3 t4 t7 t41 t42 t43 H K :=
 lp1 (M := zfc) zIr t43 (by kernel_rfl) Inv n h0 round
theorem zIo {t2 t3 t4 t7 t18 t19 t20 : AV} {H : zaa} {K : Kt} (Inv : Nat → AV → zaa → Prop) (n : Nat) (h0 : HSc H → Inv n t20 H)
  (round : Rd1 (fun t20 => zkI t2 t3 t4 t7 t18 t19 t20) (fun t20 => fun H Kb3 => zfZ t2 t3 t4 t7 t18 t19 t20 H K Kb3) H Inv) : zvC t2 t3 t4 t7 t18 t19 t20 H K :=
 lp1 (M := zfc) zIq t20 (by kernel_rfl) Inv n h0 round
theorem zIs {t0 t1 t2 t3 t4 : AV} {H : zaa} {K : Kt} (h : HSc H → zvB t0 t1 t2 t3 t4 H K) : ACalls tP zel [t0, t1, t2, t3, t4] H K :=
 zau (M := zfc) Try.func75 (c := zg9) (by kernel_rfl) (fun hs => Eq.mpr (by kernel_rfl) (h hs))
def zJZ (_ : Nat) : List Bool := []
noncomputable def zJ0 : Code := Try.f91.body.getD .skip
def zk7 (t0 t1 t2 : AV) (H : zaa) (K : Kt) : Prop :=
 zaF t0 H fun t3 H =>
 zad .lss false t1 (.int .i64 0) fun t8 =>
 zab t8 false H (fun K' => zaf 2 t3 (K' · H)) fun t10 H =>
 zab t8 false H (fun K' => zae false 1 t10 H (K' · H)) fun t11 H =>
 zab t8 false H (fun K' => zak 1 t11 (K' · H)) fun t12 H =>
 zab t8 false H (fun K' => K' t1 H) fun t13 H =>
 zab t8 false H (fun K' => zad .eql false t12 t13 (K' · H)) fun t14 H =>
 zah t8 (.bool true) t14 fun t15 =>
 zab t15 true H (fun K' => zaf 4 t3 (K' · H)) fun t17 H =>
 zab t15 true H (fun K' => zae false 1 t17 H (K' · H)) fun t18 H =>
 zab t15 true H (fun K' => zak 1 t18 (K' · H)) fun t19 H =>
 zab t15 true H (fun K' => K' t2 H) fun t20 H =>
 zab t15 true H (fun K' => zad .eql false t19 t20 (K' · H)) fun t21 H =>
 zah t15 t21 (.bool false) fun t22 =>
 K t22 H
theorem zJ1 {t0 t1 t2 : AV} {H : zaa} {K : Kt} (h : HSc H → zk7 t0 t1 t2 H K) : ACalls tP zcq [t0, t1, t2] H K :=
 zau (M := zJZ) Try.func91 (c := zJ0) (by kernel_rfl) (fun hs => Eq.mpr (by kernel_rfl) (h hs))
def zJ2 (_ : Nat) : List Bool := []
noncomputable def zJ3 : Code := Try.f92.body.getD .skip
def zwb (t0 : AV) (H : zaa) (K : Kt) : Prop :=
 zaA [(.int .i64 0), (.int .i64 0), .snil] H fun t2 H =>
 zaI [(.int .i64 0), (.int .i64 0), .snil] [(0, 1), (1, 1), (2, 1)] [(0, t0)] fun t4 =>
 zar 3 t2 t4 H fun H =>
 zae true 3 t2 H fun r0 =>
 K r0 H
theorem zJ4 {t0 : AV} {H : zaa} {K : Kt} (h : HSc H → zwb t0 H K) : ACalls tP zcr [t0] H K :=
 zau (M := zJ2) Try.func92 (c := zJ3) (by kernel_rfl) (fun hs => Eq.mpr (by kernel_rfl) (h hs))
def zJ5 (_ : Nat) : List Bool := []
noncomputable def zJ6 : Code := Try.f93.body.getD .skip
def zpZ (t0 t1 : AV) (H : zaa) (K : Kt) : Prop :=
 aUn .neg t1 fun t6 =>
 zad .leq false t6 t0 fun t8 =>
 zab t8 true H (fun K' => K' t0 H) fun t10 H =>
 zab t8 true H (fun K' => K' t1 H) fun t11 H =>
 zab t8 true H (fun K' => zad .leq false t10 t11 (K' · H)) fun t12 H =>
 zah t8 t12 (.bool false) fun t13 =>
 K t13 H
theorem zJ7 {t0 t1 : AV} {H : zaa} {K : Kt} (h : HSc H → zpZ t0 t1 H K) : ACalls tP zh0 [t0, t1] H K :=
 zau (M := zJ5) Try.func93 (c := zJ6) (by kernel_rfl) (fun hs => Eq.mpr (by kernel_rfl) (h hs))
def zJ8 (_ : Nat) : List Bool := []
noncomputable def zJ9 : Code := Try.f94.body.getD .skip
def zwc (t0 t1 t2 : AV) (H : zaa) (K : Kt) : Prop :=
 ACalls tP zdU [t0, t1] H fun t9 H =>
 ACalls tP zhZ [t9, t2, (.fn zbF [])] H fun t11 H =>
 K t11 H
theorem zKa {t0 t1 t2 : AV} {H : zaa} {K : Kt} (h : HSc H → zwc t0 t1 t2 H K) : ACalls tP zca [t0, t1, t2] H K :=
 zau (M := zJ8) Try.func94 (c := zJ9) (by kernel_rfl) (fun hs => Eq.mpr (by kernel_rfl) (h hs))
def zKb (_ : Nat) : List Bool := []
noncomputable def zKc : Code := Try.f95.body.getD .skip
def zwd (t0 t1 : AV) (H : zaa) (K : Kt) : Prop :=
 zaA [(.int .i64 0), (.int .i64 0), .snil] H fun t4 H =>
 zaI [(.int .i64 0), (.int .i64 0), .snil] [(0, 1), (1, 1), (2, 1)] [(0, t0), (2, t1)] fun t7 =>
 zar 3 t4 t7 H fun H =>
 zae true 3 t4 H fun r0 =>
 K r0 H
theorem zKd {t0 t1 : AV} {H : zaa} {K : Kt} (h : HSc H → zwd t0 t1 H K) : ACalls tP zdT [t0, t1] H K :=
 zau (M := zKb) Try.func95 (c := zKc) (by kernel_rfl) (fun hs => Eq.mpr (by kernel_rfl) (h hs))
def zk8 : Nat → List Bool
 | 3 => rl false [0,1,4,1,2,3,16]
 | _ => []
noncomputable def zp1 : Code := Try.f96.body.getD .skip
noncomputable def zKj : List ResultVar := Try.f96.results.toList
def zk9 (t0 t5 t8 t9 t10 : AV) : List AV := t0 :: ux 4 (t5 :: ux 2 (t8 :: t9 :: t10 :: ux 16 []))
def zKh : List Bool := zk8 3
noncomputable def zKf : Code := zao [1, 1, 0, 1, 0, 0] zp1
def zKe (K : Kt) : AExit → List AV → zaa → Prop := zap tP zk8 [1, 1, 0, 1, 0] zp1 (zat tP zKj K)
def zwf (t0 t5 t8 t9 t10 : AV) (H : zaa) (K : Kt) : Prop := ALoop tP zKf (zKe K) (zk9 t0 t5 t8 t9 t10) H
def zp0 (t0 t5 t8 t9 t10 : AV) (H : zaa) (K : Kt) (Kb3 : Lt) : Prop :=
 zad .lss false t10 t9 fun t11 =>
 zag t11
 (zaj 1 t8 t10 fun t12 =>
 zae false 1 t12 H fun t13 =>
 za0 t0 fun t16 =>
 zaf 0 t16 fun t17 =>
 zaf 2 t17 fun t18 =>
 zae false 1 t18 H fun t19 =>
 zaj 3 t19 t13 fun t21 =>
 zae true 3 t21 H fun t22 =>
 zay 3 [(.int .i64 0), (.int .i64 0), .snil] 1 [(0, t22)] fun t23 =>
 zaH zaB 3 40 t5 t23 H fun t24 H =>
 zad .add false t10 (.int .i64 1) fun t25 =>
 Kb3 (zk9 t0 t24 t8 t9 t25) H)
 (K t5 H)
def zwe (t0 t1 : AV) (H : zaa) (K : Kt) : Prop :=
 zak 1 t1 fun t9 =>
 zwf t0 .snil t1 t9 (.int .i64 0) H K
theorem zKg {t0 t5 t8 t9 t10 : AV} {H : zaa} {K : Kt} (Inv : Nat → AV → AV → zaa → Prop) (n : Nat) (h0 : HSc H → Inv n t5 t10 H)
  (round : Rd2 (fun t5 => fun t10 => zk9 t0 t5 t8 t9 t10) (fun t5 => fun t10 => fun H Kb3 => zp0 t0 t5 t8 t9 t10 H K Kb3) H Inv) : zwf t0 t5 t8 t9 t10 H K :=
 lp2 (M := zk8) zKh t5 t10 (by kernel_rfl) Inv n h0 round
theorem zKi {t0 t1 : AV} {H : zaa} {K : Kt} (h : HSc H → zwe t0 t1 H K) : ACalls tP zdU [t0, t1] H K :=
 zau (M := zk8) Try.func96 (c := zp1) (by kernel_rfl) (fun hs => Eq.mpr (by kernel_rfl) (h hs))
def zAZ (_ : Nat) : List Bool := []
noncomputable def zA0 : Code := Try.f106.body.getD .skip
def zs2 (t0 t1 : AV) (H : zaa) (K : Kt) : Prop :=
 zaF t0 H fun t2 H =>
 zaf 3 t2 fun t5 =>
 zae false 1 t5 H fun t6 =>
 ACalls tP zrD [t6, t1, (.fn zmd [])] H fun t8 H =>
 K t8 H
theorem zA1 {t0 t1 : AV} {H : zaa} {K : Kt} (h : HSc H → zs2 t0 t1 H K) : ACalls tP zgs [t0, t1] H K :=
 zau (M := zAZ) Try.func106 (c := zA0) (by kernel_rfl) (fun hs => Eq.mpr (by kernel_rfl) (h hs))
def zA2 (_ : Nat) : List Bool := []
noncomputable def zA3 : Code := Try.f107.body.getD .skip
def zs3 (t0 t1 t2 : AV) (H : zaa) (K : Kt) : Prop :=
 zaF t1 H fun t4 H =>
 zaA [(.int .i64 0), (.int .i64 0), .snil] H fun t6 H =>
 zac H (fun K' => K' t0 H) fun t7 =>
 zac H (fun K' => za0 t7 (K' · H)) fun t8 =>
 zac H (fun K' => zaf 0 t8 (K' · H)) fun t9 =>
 zac H (fun K' => zaf 3 t9 (K' · H)) fun t10 =>
 zac H (fun K' => zai false 1 t10 H (K' · H)) fun t11 =>
 zac H (fun K' => zaf 4 t4 (K' · H)) fun t12 =>
 zac H (fun K' => zai false 1 t12 H (K' · H)) fun t13 =>
 zac H (fun K' => K' t2 H) fun t14 =>
 zac H (fun K' => zaj 1 t13 t14 (K' · H)) fun t15 =>
 zac H (fun K' => zai false 1 t15 H (K' · H)) fun t16 =>
 zac H (fun K' => zaj 8 t11 t16 (K' · H)) fun t17 =>
 zac H (fun K' => zaf 5 t17 (K' · H)) fun t18 =>
 zac H (fun K' => zai true 3 t18 H (K' · H)) fun t19 =>
 zar 3 t6 t19 H fun H =>
 zae true 3 t6 H fun r0 =>
 K r0 H
theorem zA4 {t0 t1 t2 : AV} {H : zaa} {K : Kt} (h : HSc H → zs3 t0 t1 t2 H K) : ACalls tP zhG [t0, t1, t2] H K :=
 zau (M := zA2) Try.func107 (c := zA3) (by kernel_rfl) (fun hs => Eq.mpr (by kernel_rfl) (h hs))
def ziA : Nat → List Bool
 | 2 => rl false [0,1,3,1,2,1,16]
 | _ => []
noncomputable def znx : Code := Try.f108.body.getD .skip
noncomputable def zBa : List ResultVar := Try.f108.results.toList
def ziB (t0 t4 t7 : AV) : List AV := t0 :: ux 3 (t4 :: ux 2 (t7 :: ux 16 []))
def zA8 : List Bool := ziA 2
noncomputable def zA6 : Code := zao [1, 0, 1, 0, 0] znx
def zA5 (K : Kt) : AExit → List AV → zaa → Prop := zap tP ziA [1, 0, 1, 0] znx (zat tP zBa K)
def zs5 (t0 t4 t7 : AV) (H : zaa) (K : Kt) : Prop := ALoop tP zA6 (zA5 K) (ziB t0 t4 t7) H
def znw (t0 t4 t7 : AV) (H : zaa) (K : Kt) (Kb2 : Lt) : Prop :=
 zaf 4 t4 fun t10 =>
 zae false 1 t10 H fun t11 =>
 zak 1 t11 fun t12 =>
 zad .lss false t7 t12 fun t13 =>
 zag t13
 (zac H (fun K' => K' t0 H) fun t16 =>
 zac H (fun K' => zai true 8 t4 H (K' · H)) fun t17 =>
 zac H (fun K' => K' t7 H) fun t18 =>
 zaw H (fun H K' => ACalls tP zhG [t16, t17, t18] H K') fun t19 =>
 zac H (fun K' => zaf 5 t4 (K' · H)) fun t20 =>
 zac H (fun K' => zai true 3 t20 H (K' · H)) fun t21 =>
 zaw H (fun H K' => ACalls tP zbF [t19, t21] H K') fun t22 =>
 zac H (fun K' => aUn .not t22 (K' · H)) fun t23 =>
 zag t23
 (K (.bool false) H)
 (zad .add false t7 (.int .i64 1) fun t15 =>
 Kb2 (ziB t0 t4 t15) H))
 (K (.bool true) H)
def zs4 (t0 t1 t2 : AV) (H : zaa) (K : Kt) : Prop :=
 zaF t1 H fun t4 H =>
 zs5 t0 t4 t2 H K
theorem zA7 {t0 t4 t7 : AV} {H : zaa} {K : Kt} (Inv : Nat → AV → zaa → Prop) (n : Nat) (h0 : HSc H → Inv n t7 H)
  (round : Rd1 (fun t7 => ziB t0 t4 t7) (fun t7 => fun H Kb2 => znw t0 t4 t7 H K Kb2) H Inv) : zs5 t0 t4 t7 H K :=
 lp1 (M := ziA) zA8 t7 (by kernel_rfl) Inv n h0 round
theorem zA9 {t0 t1 t2 : AV} {H : zaa} {K : Kt} (h : HSc H → zs4 t0 t1 t2 H K) : ACalls tP zdy [t0, t1, t2] H K :=
 zau (M := ziA) Try.func108 (c := znx) (by kernel_rfl) (fun hs => Eq.mpr (by kernel_rfl) (h hs))
def zi1 : Nat → List Bool
 | 4 => rl false [1,2,12,3,14]
 | _ => []
noncomputable def zn1 : Code := Try.f127.body.getD .skip
noncomputable def zCR : List ResultVar := Try.f127.results.toList
def zi2 (t1 t2 t15 t16 t17 : AV) : List AV := ux 1 (t1 :: t2 :: ux 12 (t15 :: t16 :: t17 :: ux 14 []))
def zCP : List Bool := zi1 4
noncomputable def zCN : Code := zao [1, 1, 0, 1, 0, 0] zn1
def zCM (K : Kt) : AExit → List AV → zaa → Prop := zap tP zi1 [1, 1, 0, 1, 0] zn1 (zat tP zCR K)
def ztx (t1 t2 t15 t16 t17 : AV) (H : zaa) (K : Kt) : Prop := ALoop tP zCN (zCM K) (zi2 t1 t2 t15 t16 t17) H
def zn0 (t1 t2 t15 t16 t17 : AV) (H : zaa) (K : Kt) (Kb4 : Lt) : Prop :=
 zad .lss false t17 t16 fun t18 =>
 zag t18
 (zaj 1 t15 t17 fun t20 =>
 zae false 1 t20 H fun t21 =>
 zaj 1 t1 t17 fun t24 =>
 zae false 1 t24 H fun t25 =>
 aCallV tP t2 [t21, t25] H fun t29 H =>
 aUn .not t29 fun t30 =>
 zag t30
 (K (.bool false) H)
 (zad .add false t17 (.int .i64 1) fun t31 =>
 Kb4 (zi2 t1 t2 t15 t16 t31) H))
 (K (.bool true) H)
def znZ (t0 t1 t2 : AV) (H : zaa) (K : Kt) : Prop :=
 zak 1 t0 fun t11 =>
 zak 1 t1 fun t13 =>
 zad .neq false t11 t13 fun t14 =>
 zag t14
 (K (.bool false) H)
 (zak 1 t0 fun t16 =>
 ztx t1 t2 t0 t16 (.int .i64 0) H K)
theorem zCO {t1 t2 t15 t16 t17 : AV} {H : zaa} {K : Kt} (Inv : Nat → AV → zaa → Prop) (n : Nat) (h0 : HSc H → Inv n t17 H)
  (round : Rd1 (fun t17 => zi2 t1 t2 t15 t16 t17) (fun t17 => fun H Kb4 => zn0 t1 t2 t15 t16 t17 H K Kb4) H Inv) : ztx t1 t2 t15 t16 t17 H K :=
 lp1 (M := zi1) zCP t17 (by kernel_rfl) Inv n h0 round
theorem zCQ {t0 t1 t2 : AV} {H : zaa} {K : Kt} (h : HSc H → znZ t0 t1 t2 H K) : ACalls tP zrD [t0, t1, t2] H K :=
 zau (M := zi1) Try.func127 (c := zn1) (by kernel_rfl) (fun hs => Eq.mpr (by kernel_rfl) (h hs))
def zCS (_ : Nat) : List Bool := []
noncomputable def zCT : Code := Try.f128.body.getD .skip
def zty (t0 t1 : AV) (H : zaa) (K : Kt) : Prop :=
 zak 1 t0 fun t6 =>
 zad .eql false t6 t1 fun t8 =>
 K t8 H
theorem zCU {t0 t1 : AV} {H : zaa} {K : Kt} (h : HSc H → zty t0 t1 H K) : ACalls tP zmd [t0, t1] H K :=
 zau (M := zCS) Try.func128 (c := zCT) (by kernel_rfl) (fun hs => Eq.mpr (by kernel_rfl) (h hs))
def zCe (_ : Nat) : List Bool := []
noncomputable def zCg : Code := Try.f13.body.getD .skip
def ztf (t0 : AV) (H : zaa) (K : Kt) : Prop :=
 zaF t0 H fun t1 H =>
 zaf 0 t1 fun t3 =>
 zae false 1 t3 H fun t4 =>
 ACalls tP zmj [t4] H fun t5 H =>
 zab t5 true H (fun K' => zae true 4 t1 H (K' · H)) fun t7 H =>
 zab t5 true H (fun K' => ACalls tP zmk [t7] H K') fun t8 H =>
 zah t5 t8 (.bool false) fun t9 =>
 zab t9 true H (fun K' => zae true 4 t1 H (K' · H)) fun t11 H =>
 zab t9 true H (fun K' => ACalls tP zml [t11] H K') fun t12 H =>
 zah t9 t12 (.bool false) fun t13 =>
 zab t13 true H (fun K' => zae true 4 t1 H (K' · H)) fun t15 H =>
 zab t13 true H (fun K' => ACalls tP zmm [t15] H K') fun t16 H =>
 zah t13 t16 (.bool false) fun t17 =>
 zab t17 true H (fun K' => zae true 4 t1 H (K' · H)) fun t19 H =>
 zab t17 true H (fun K' => ACalls tP zmn [t19] H K') fun t20 H =>
 zah t17 t20 (.bool false) fun t21 =>
 zab t21 true H (fun K' => zae true 4 t1 H (K' · H)) fun t23 H =>
 zab t21 true H (fun K' => ACalls tP zmo [t23] H K') fun t24 H =>
 zah t21 t24 (.bool false) fun t25 =>
 zab t25 true H (fun K' => zae true 4 t1 H (K' · H)) fun t27 H =>
 zab t25 true H (fun K' => ACalls tP zmp [t27] H K') fun t28 H =>
 zah t25 t28 (.bool false) fun t29 =>
 K t29 H
theorem zCh {t0 : AV} {H : zaa} {K : Kt} (h : HSc H → ztf t0 H K) : ACalls tP zfy [t0] H K :=
 zau (M := zCe) Try.func13 (c := zCg) (by kernel_rfl) (fun hs => Eq.mpr (by kernel_rfl) (h hs))
end Go.Proofs.Ytkdmpbhbmmhijaa
namespace Go.Proofs.Ytkdmpbhbmmhijaa
open Go Go.Abs
set_option maxRecDepth 8000
def zdO (data : List Dat) (d : Nat) (vars : Int) (t : VT) : Bool := zav (data.take (d + 1)) vars t && (zce d vars t || !zcg d t)
theorem zHE (data : List Dat) (d : Nat) (c : Nat) (hd : d < data.length) (hc : c < (data[d]).cons.length) (hl : data.length ≤ 1000000) (hcl : (data[d]).cons.length ≤ 1000000) (hal : ((data[d]).cons[c]).args.length ≤ 1000000)
  (hb : ∀ x ∈ ((data[d]).cons[c]).args, x.nodes ≤ 1000000) (H : zaa) (K : AV → zaa → Prop)
  (hK : K (.bool (decide (((data[d]).cons[c]).args.length ≤ 6) && ((data[d]).cons[c]).args.all (zdO data d (data[d]).vars))) H) :
  ACalls tP zmu [.sl (data.map Dat.cs) .none, .int .i64 d, .int .i64 c] H K := by
 refine ACalls.out (zHC fun hs => ?_)
 have e1 : (data.map Dat.cs)[d]? = some (data[d]).cs := by simp [hd]
 have e2 : ((data[d]).cons.map Con.cs)[c]? = some ((data[d]).cons[c]).cs := by simp [hc]
 have hrec := zJu data d c hd hc hl hcl hal hb
 generalize hD : data[d] = D at *
 generalize hA : D.cons[c] = C at *
 have hO : ∀ J, Out H.length K (.bool (decide (C.args.length ≤ 6) && C.args.all (zdO data d D.vars))) (H ++ J) := fun J => Out.bool rfl (Nat.le_refl _) hs hK
 simp [zvl, e1, e2, Dat.cs, Con.cs, hd, hD, hc, hA]
 by_cases h6 : C.args.length ≤ 6
 ·have h6' : ¬ (6 : Int) < C.args.length := by omega
  have h6'' : ¬ 6 < C.args.length := by omega
  simp [h6', h6'']
  refine hrec _ _ ?_
  simp [h6] at hO
  refine zHA (Inv := fun q t29 H' => ∃ i : Nat, i ≤ C.args.length ∧ q = C.args.length - i ∧ t29 = .int .i64 i ∧ (C.args.drop i).all (zdO data d D.vars) = C.args.all (zdO data d D.vars) ∧ H = H') C.args.length ?_ ?_
  ·intro _; exact ⟨0, by omega, by omega, rfl, by simp, rfl⟩
  ·rintro q t29 H' ⟨i, hi, rfl, rfl, ho, rfl⟩ hsc hlen hsF Kb hKb
   by_cases hlt : i < C.args.length
   ·rw [List.drop_eq_getElem_cons hlt, List.all_cons] at ho
    have hnb := hb _ (List.getElem_mem hlt)
    obtain ⟨x1, x2, x3, hvx, hx1, hx2, hx3⟩ := zcL C.args[i]
    simp [zph, hlt, hvx, e1, hd, hD, Dat.cs]
    refine ⟨⟨hx1, hx2, hx3⟩, ?_⟩
    rw [zaq (by omega) (by omega), show ((d : Int) + 1).toNat = d + 1 by omega, ← List.map_take]
    refine ⟨by omega, by omega, ?_⟩
    rw [← hvx]
    refine zax (.bool (zav (data.take (d + 1)) D.vars C.args[i])) (fun J => zkw (data.take (d + 1)) D.vars _ (by omega) _ _ ⟨rfl, rfl⟩) ?_
    have hao : zdO data d D.vars C.args[i] = (zav (data.take (d + 1)) D.vars C.args[i] && (zce d D.vars C.args[i] || !zcg d C.args[i])) := rfl
    rw [hao] at ho
    cases hv : zav (data.take (d + 1)) D.vars C.args[i] with
    | false =>
     rw [hv] at ho
     simp only [Bool.false_and] at ho
     rw [← ho] at hO
     simp; exact hO _
    | true =>
    rw [hv] at ho
    cases hsf : zce d D.vars C.args[i] with
    | true =>
     rw [hsf] at ho
     simp [hlt, hsf]
     rw [zaq (by omega) (by omega)]
     refine hKb _ _ ⟨C.args.length - (i + 1), by omega, Back.same (by simp) hs ?_ ⟨_, rfl, i + 1, by omega, rfl, by simp, by simpa using ho, rfl⟩⟩
     simp [zg6, AV.sc, AV.scV, AV.scA, AV.scB]
    | false =>
     rw [hsf] at ho
     simp [hlt, hsf]
     refine zax (.bool (zcg d C.args[i])) (fun J => zJy d _ _ (Nat.le_refl _) (by omega) _ _ ⟨rfl, rfl⟩) ?_
     cases hm : zcg d C.args[i] with
     | true =>
      rw [hm] at ho
      simp only [Bool.not_true, Bool.or_false, Bool.and_false, Bool.false_and] at ho
      rw [← ho] at hO
      simp; exact hO _
     | false =>
      rw [hm] at ho
      simp
      rw [zaq (by omega) (by omega)]
      refine hKb _ _ ⟨C.args.length - (i + 1), by omega, Back.same (by simp) hs ?_ ⟨_, rfl, i + 1, by omega, rfl, by simp, by simpa using ho, rfl⟩⟩
      simp [zg6, AV.sc, AV.scV, AV.scA, AV.scB]
   ·obtain rfl : i = C.args.length := by omega
    rw [List.drop_length, List.all_nil] at ho
    rw [← ho] at hO
    simp [zph]
    simpa using hO []
 ·have h6' : (6 : Int) < C.args.length := by omega
  have h6'' : 6 < C.args.length := by omega
  simp [h6', h6'']
  simp [h6] at hO
  simpa using hO []
def zbi (l : List (List UInt8)) : List (List UInt8 × AV) := l.map fun s => (s, .bool true)
theorem zdB (s : List UInt8) : ∀ l : List (List UInt8), (zb4 (zbi l) s).getD (.bool false) = .bool (decide (s ∈ l))
 | [] => by simp [zbi, zb4]
 | a :: l => by
  have := zdB s l
  cases h : a == s with
  | true =>
   have h' : a = s := by simpa using h
   simp [zbi, zb4, h, h']
  | false =>
   have h' : a ≠ s := by simpa using h
   have h'' : s ≠ a := fun e => h' e.symm
   simp only [zbi, List.map_cons, zb4, h] at this ⊢
   rw [this]; simp [h'']
theorem zmX (s : List UInt8) : ∀ l : List (List UInt8), s ∉ l → zcz (zbi l) s (.bool true) = zbi (l ++ [s])
 | [], _ => rfl
 | a :: l, h => by
  have h1 : (a == s) = false := by simp at h; simpa using fun e => h.1 e.symm
  have := zmX s l (by simp at h; exact h.2)
  simp only [zbi, List.map_cons, zcz, h1, List.cons_append] at this ⊢
  rw [this]
theorem zsc (m : Nat) (l : List (List UInt8)) : (AB.map (zbi l)).sc m = true := by simp [AB.sc, zbi, AV.scV]
def zbn (data : List Dat) : List (List UInt8) := data.map Dat.name
def zaO (data : List Dat) : List (List UInt8) := data.flatMap fun D => D.cons.map Con.name
def zdd (data : List Dat) (d : Nat) (vars : Int) (c : Con) : Bool := zcK c.name && (decide (c.args.length ≤ 6) && c.args.all (zdO data d vars))
def zcO (data : List Dat) (d : Nat) (D : Dat) : Bool := zcK D.name && decide (0 ≤ D.vars) && decide (D.vars ≤ 6) && decide (1 ≤ D.cons.length) && decide (D.cons.length ≤ 8) && D.cons.all (zdd data d D.vars)
def zc4 (data : List Dat) : List Dat → Nat → Bool
 | [], _ => true
 | D :: l, d => zcO data d D && zc4 data l (d + 1)
def zcl (data : List Dat) : Bool := decide (data.length ≤ 12) && zc4 data data 0 && !zb0 (zbn data) && !zb0 (zaO data)
theorem zr3 {A R : List (List UInt8)} {s : List UInt8} (h : s ∈ A) : zb0 (A ++ s :: R) = true := by
 simp only [zb0, Bool.not_eq_true', decide_eq_false_iff_not, List.nodup_append]
 rintro ⟨_, _, h3⟩
 exact h3 s h s (by simp) rfl
theorem zh8 {l : List (List UInt8)} (h : l.Nodup) : zb0 l = false := by simp [zb0, h]
theorem zrK {A : List (List UInt8)} {s : List UInt8} (h : A.Nodup) (hs : s ∉ A) : (A ++ [s]).Nodup := by
 rw [List.nodup_append]
 refine ⟨h, by simp, ?_⟩
 intro a ha b hb
 simp at hb; subst hb
 exact fun e => hs (e ▸ ha)
def zqk (data : List Dat) : Prop := ∀ D ∈ data, D.cons.length ≤ 1000000 ∧ ∀ c ∈ D.cons, c.args.length ≤ 1000000 ∧ ∀ x ∈ c.args, x.nodes ≤ 1000000
theorem zED (data : List Dat) (hB : zqk data) (hl : data.length ≤ 1000000) (H : zaa) (K : AV → zaa → Prop) (hK : K (.bool (zcl data)) H) : ACalls tP zmj [.sl (data.map Dat.cs) .none] H K := by
 refine ACalls.out (zEB fun hs => ?_)
 have hO : ∀ J, Out H.length K (.bool (zcl data)) (H ++ J) := fun J => Out.bool rfl (Nat.le_refl _) hs hK
 by_cases h12 : data.length ≤ 12
 ·have h12' : ¬ (12 : Int) < data.length := by omega
  have h12'' : ¬ 12 < data.length := by omega
  have hD0 : zc4 data data 0 = false → ∀ J, Out H.length K (.bool false) (H ++ J) := fun h J => by
   have := hO J; rwa [show zcl data = false by simp [zcl, h]] at this
  have hD1 : zb0 (zbn data) = true → ∀ J, Out H.length K (.bool false) (H ++ J) := fun h J => by
   have := hO J; rwa [show zcl data = false by simp [zcl, h]] at this
  have hD2 : zb0 (zaO data) = true → ∀ J, Out H.length K (.bool false) (H ++ J) := fun h J => by
   have := hO J; rwa [show zcl data = false by simp [zcl, h]] at this
  simp [zou, h12', h12'']
  refine zEz (Inv := fun q t15 H' => ∃ i : Nat, i ≤ data.length ∧ q = data.length - i ∧ t15 = .int .i64 i ∧ zc4 data (data.drop i) i = zc4 data data 0 ∧ (zbn (data.take i)).Nodup ∧ (zaO (data.take i)).Nodup ∧ H' = H ++ [.map (zbi (zbn (data.take i))), .map (zbi (zaO (data.take i)))]) data.length ?_ ?_
  ·intro _; exact ⟨0, by omega, by omega, rfl, by simp, by simp [zbn], by simp [zaO], by simp [zbn, zaO, zbi]⟩
  ·rintro q t15 H' ⟨i, hi, rfl, rfl, ho, hdn, hcn, rfl⟩ hsc hlen hsF Kb hKb
   by_cases hlt : i < data.length
   ·have e1 : (data.map Dat.cs)[i]? = some (data[i]).cs := by simp [hlt]
    obtain ⟨hB1, hB2⟩ := hB _ (List.getElem_mem hlt)
    have hargs := fun c hc => zHE data i c hlt hc hl hB1 (hB2 _ (List.getElem_mem hc)).1 (hB2 _ (List.getElem_mem hc)).2
    rw [List.drop_eq_getElem_cons hlt, zc4] at ho
    have htk : data.take (i + 1) = data.take i ++ [data[i]] := by rw [List.take_append_getElem hlt]
    have hsplit : data = data.take i ++ data[i] :: data.drop (i + 1) := by rw [List.getElem_cons_drop, List.take_append_drop]
    generalize hD : data[i] = D at *
    have hbad : zcO data i D = false → zc4 data data 0 = false := fun h => by rw [← ho, h, Bool.false_and]
    have hno : ∀ J, zcO data i D = false → Out H.length K (.bool false) (H ++ [.map (zbi (zbn (data.take i))), .map (zbi (zaO (data.take i)))] ++ J) := fun J h => by
     rw [List.append_assoc]; exact hD0 (hbad h) _
    simp [zow, hlt, e1, hD, Dat.cs]
    refine zvk _ _ _ ?_
    cases hu : zcK D.name with
    | false => simp; exact hD0 (hbad (by simp [zcO, hu])) _
    | true =>
    by_cases hmem : D.name ∈ zbn (data.take i)
    ·simp [hlt, e1, hD, Dat.cs, zdB, hmem]
     refine hD1 ?_ _
     rw [hsplit]; simp only [zbn, List.map_append, List.map_cons]
     exact zr3 hmem
    by_cases hv0 : D.vars < 0
    ·simp [hlt, e1, hD, Dat.cs, zdB, hmem, hv0]
     exact hD0 (hbad (by simp [zcO, show ¬ 0 ≤ D.vars by omega])) _
    by_cases hv6 : 6 < D.vars
    ·simp [hlt, e1, hD, Dat.cs, zdB, hmem, hv0, hv6]
     exact hD0 (hbad (by simp [zcO, show ¬ D.vars ≤ 6 by omega])) _
    simp [hlt, e1, hD, Dat.cs, zdB, hmem, hv0, hv6, zmX _ _ hmem]
    by_cases hc1 : D.cons.length < 1
    ·have hc1' : (D.cons.length : Int) < 1 := by omega
     simp [hc1']
     exact hD0 (hbad (by simp [zcO, show ¬ 1 ≤ D.cons.length by omega])) _
    have hc1' : ¬ (D.cons.length : Int) < 1 := by omega
    by_cases hc8 : 8 < D.cons.length
    ·have hc8' : (8 : Int) < D.cons.length := by omega
     simp [hlt, e1, hD, Dat.cs, hc1', hc8', hc8]
     exact hD0 (hbad (by simp [zcO, show ¬ D.cons.length ≤ 8 by omega])) _
    have hc8' : ¬ (8 : Int) < D.cons.length := by omega
    have hdat : zcO data i D = D.cons.all (zdd data i D.vars) := by
     simp [zcO, hu, show 0 ≤ D.vars by omega, show D.vars ≤ 6 by omega, show 1 ≤ D.cons.length by omega, show D.cons.length ≤ 8 by omega]
    simp [hlt, e1, hD, Dat.cs, hc1', hc8', hc8]
    have hdn' : (zbn (data.take (i + 1))).Nodup := by
     rw [htk]; simp only [zbn, List.map_append, List.map_cons, List.map_nil]; exact zrK hdn hmem
    have hde : zbn (data.take i) ++ [D.name] = zbn (data.take (i + 1)) := by rw [htk]; simp [zbn]
    rw [hde]
    refine zEy (Inv := fun q t78 H' => ∃ j : Nat, j ≤ D.cons.length ∧ q = D.cons.length - j ∧ t78 = .int .i64 j ∧ (D.cons.drop j).all (zdd data i D.vars) = D.cons.all (zdd data i D.vars) ∧ (zaO (data.take i) ++ (D.cons.take j).map Con.name).Nodup ∧ H' = H ++ [.map (zbi (zbn (data.take (i + 1)))), .map (zbi (zaO (data.take i) ++ (D.cons.take j).map Con.name))]) D.cons.length ?_ ?_
    ·intro _; exact ⟨0, by omega, by omega, rfl, by simp, by simpa using hcn, by simp⟩
    ·rintro q t78 H' ⟨j, hj, rfl, rfl, hoc, hcj, rfl⟩ hsc1 hlen1 hsF1 Kb1 hKb1
     have hscH : ∀ A B, HSc (H ++ [.map (zbi A), .map (zbi B)]) := fun A B => hs.append (by simp [zsc])
     by_cases hjl : j < D.cons.length
     ·have e2 : (D.cons.map Con.cs)[j]? = some (D.cons[j]).cs := by simp [hjl]
      have hargs' := hargs j hjl
      rw [List.drop_eq_getElem_cons hjl, List.all_cons] at hoc
      have htj : zaO (data.take i) ++ (D.cons.take (j + 1)).map Con.name = (zaO (data.take i) ++ (D.cons.take j).map Con.name) ++ [(D.cons[j]).name] := by
       rw [← List.take_append_getElem hjl, List.map_append, List.append_assoc]; rfl
      have hcs : zaO data = (zaO (data.take i) ++ (D.cons.take j).map Con.name) ++ (D.cons[j]).name :: ((D.cons.drop (j + 1)).map Con.name ++ zaO (data.drop (i + 1))) := by
       have h1 : D.cons.map Con.name = (D.cons.take j).map Con.name ++ (D.cons[j]).name :: (D.cons.drop (j + 1)).map Con.name := by
        rw [← List.map_cons (f := Con.name), List.getElem_cons_drop, ← List.map_append, List.take_append_drop]
       conv => lhs; rw [hsplit]
       simp only [zaO, List.flatMap_append, List.flatMap_cons, List.append_assoc, h1, List.cons_append]
      generalize hC : D.cons[j] = C at *
      have hbad' : zdd data i D.vars C = false → zc4 data data 0 = false := fun h => hbad (by rw [hdat, ← hoc, h, Bool.false_and])
      generalize hA : zaO (data.take i) ++ (D.cons.take j).map Con.name = A at *
      simp only [zov]
      simp [hjl, hC, Con.cs, Nat.add_assoc]
      refine zvk _ _ _ ?_
      cases hu2 : zcK C.name with
      | false => simp; exact hD0 (hbad' (by simp [zdd, hu2])) _
      | true =>
      by_cases hm2 : C.name ∈ A
      ·simp [zdB, hm2]
       exact hD2 (by rw [hcs]; exact zr3 hm2) _
      ·simp [zdB, hm2]
       refine hargs' _ _ ?_
       have hce : zdd data i D.vars C = (decide (C.args.length ≤ 6) && C.args.all (zdO data i D.vars)) := by simp [zdd, hu2]
       rw [← hce]
       cases hco : zdd data i D.vars C with
       | false => simp; exact hD0 (hbad' hco) _
       | true =>
        rw [hco, Bool.true_and] at hoc
        simp [zmX _ _ hm2]
        rw [zaq (by omega) (by omega)]
        refine hKb1 _ _ ⟨D.cons.length - (j + 1), by omega, Back.at (J := [.cells [.str C.name, .sl (VT.css C.args) .none]]) (H2 := H ++ [.map (zbi (zbn (data.take (i + 1)))), .map (zbi (A ++ [C.name]))]) (by simp) (by simp) (hscH _ _) ?_ ⟨_, rfl, j + 1, by omega, rfl, by simp, hoc, ?_, ?_⟩⟩
        ·simp [zjD, AV.sc, AV.scV, AV.scA, AV.scB]
        ·rw [htj]; exact zrK hcj hm2
        ·rw [htj]
     ·obtain rfl : j = D.cons.length := by omega
      rw [List.drop_length, List.all_nil] at hoc
      rw [List.take_length] at *
      simp [zov]
      rw [zaq (by omega) (by omega)]
      have hce : zaO (data.take i) ++ D.cons.map Con.name = zaO (data.take (i + 1)) := by rw [htk]; simp [zaO]
      rw [hce] at hcj ⊢
      refine hKb _ _ ⟨data.length - (i + 1), by omega, Back.at (J := []) (by simp) (by simp) (hscH _ _) ?_ ⟨_, rfl, i + 1, by omega, rfl, by simp, ?_, hdn', hcj, rfl⟩⟩
      ·simp [zjE, AV.sc, AV.scV, AV.scA, AV.scB]
      ·rw [← ho, hdat, ← hoc, Bool.true_and]
   ·obtain rfl : i = data.length := by omega
    rw [List.drop_length, zc4] at ho
    rw [List.take_length] at *
    simp [zow]
    have := hO [.map (zbi (zbn data)), .map (zbi (zaO data))]
    rwa [show zcl data = true by simp [zcl, h12, ← ho, zh8 hdn, zh8 hcn]] at this
 ·have h12' : (12 : Int) < data.length := by omega
  have h12'' : 12 < data.length := by omega
  rw [show zcl data = false by simp [zcl, h12]] at hO
  simp [zou, h12', h12'']
  simpa using hO []
end Go.Proofs.Ytkdmpbhbmmhijaa
