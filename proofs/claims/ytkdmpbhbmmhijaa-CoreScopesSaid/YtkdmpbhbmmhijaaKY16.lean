import Derived.Test.YtkdmpbhbmmhijaaKNum
import Derived.Test.YtkdmpbhbmmhijaaProg
import Derived.KernelRfl
import Derived.Test.YtkdmpbhbmmhijaaKY14
set_option linter.unusedSimpArgs false
set_option linter.unusedVariables false
namespace Go.Proofs.Ytkdmpbhbmmhijaa
open Go Go.Abs
set_option maxRecDepth 100000
def zfv : Nat → List Bool
 | 5 => rl false [0,1,2,2,9,2,89]
 | 13 => rl false [0,1,2,3,8,2,60,3,26]
 | _ => []
noncomputable def zpE : Code := Try.f41.body.getD .skip
noncomputable def zGX : List ResultVar := Try.f41.results.toList
def zkq (t0 t3 t4 t14 t15 : AV) : List AV := t0 :: ux 2 (t3 :: t4 :: ux 9 (t14 :: t15 :: ux 89 []))
def zvJ : List Bool := zfv 5
noncomputable def zpF : Code := zao [1, 1, 1, 0, 1, 0, 0] zpE
def zvG (K : Kt) : AExit → List AV → zaa → Prop := zap tP zfv [1, 1, 1, 0, 1, 0] zpE (zas tP zGX K)
def zvI (t0 t3 t4 t14 t15 : AV) (H : zaa) (K : Kt) : Prop := ALoop tP zpF (zvG K) (zkq t0 t3 t4 t14 t15) H
def zkp (t0 t3 t4 t5 t14 t15 t76 t77 t78 : AV) : List AV := t0 :: ux 2 (t3 :: t4 :: t5 :: ux 8 (t14 :: t15 :: ux 60 (t76 :: t77 :: t78 :: ux 26 [])))
def zGV : List Bool := zfv 13
noncomputable def zGS : Code := zao [1, 1, 0, 0, 1, 1, 1, 1, 1, 0, 0] zpF
def zGR (K : Kt) (Kb5 : Lt) : AExit → List AV → zaa → Prop := zap tP zfv [1, 1, 0, 0, 1, 1, 1, 1, 1, 0] zpF (zbx zvJ Kb5 (zvG K))
def zvH (t0 t3 t4 t5 t14 t15 t76 t77 t78 : AV) (H : zaa) (K : Kt) (Kb5 : Lt) : Prop := ALoop tP zGS (zGR K Kb5) (zkp t0 t3 t4 t5 t14 t15 t76 t77 t78) H
def zpC (t0 t3 t4 t5 t14 t15 t76 t77 t78 : AV) (H : zaa) (K : Kt) (Kb5 : Lt) (Kb13 : Lt) : Prop :=
 zad .lss false t78 t77 fun t79 =>
 zag t79
 (zaj 2 t76 t78 fun t81 =>
 zae true 2 t81 H fun t82 =>
 zaA [(.str []), .snil] H fun t7 H =>
 zar 2 t7 t82 H fun H =>
 zaf 0 t7 fun t83 =>
 zae false 1 t83 H fun t84 =>
 ACalls tP zio [t84] H fun t85 H =>
 aUn .not t85 fun t86 =>
 zab t86 false H (fun K' => K' t4 H) fun t88 H =>
 zab t86 false H (fun K' => zaf 0 t7 (K' · H)) fun t89 H =>
 zab t86 false H (fun K' => zae false 1 t89 H (K' · H)) fun t90 H =>
 zab t86 false H (fun K' => zdy (.bool false) false t88 t90 H (K' · H)) fun t91 H =>
 zah t86 (.bool true) t91 fun t92 =>
 zab t92 false H (fun K' => K' t0 H) fun t94 H =>
 zab t92 false H (fun K' => K' t5 H) fun t95 H =>
 zab t92 false H (fun K' => K' t78 H) fun t96 H =>
 zab t92 false H (fun K' => ACalls tP zni [t94, t95, t96] H K') fun t97 H =>
 zab t92 false H (fun K' => aUn .not t97 (K' · H)) fun t98 H =>
 zah t92 (.bool true) t98 fun t99 =>
 zag t99
 (K (.bool false) H)
 (zaf 0 t7 fun t101 =>
 zae false 1 t101 H fun t102 =>
 zcP t4 t102 (.bool true) H fun H =>
 zad .add false t78 (.int .i64 1) fun t103 =>
 Kb13 (zkp t0 t3 t4 t5 t14 t15 t76 t77 t103) H))
 (zad .add false t15 (.int .i64 1) fun t104 =>
 Kb5 (zkq t0 t3 t4 t14 t104) H)
def zpD (t0 t3 t4 t14 t15 : AV) (H : zaa) (K : Kt) (Kb5 : Lt) : Prop :=
 zad .lss false t15 t14 fun t16 =>
 zag t16
 (zaj 3 t0 t15 fun t20 =>
 zaf 0 t20 fun t21 =>
 zae false 1 t21 H fun t22 =>
 ACalls tP zio [t22] H fun t23 H =>
 aUn .not t23 fun t24 =>
 zab t24 false H (fun K' => K' t3 H) fun t26 H =>
 zab t24 false H (fun K' => K' t0 H) fun t27 H =>
 zab t24 false H (fun K' => K' t15 H) fun t28 H =>
 zab t24 false H (fun K' => zaj 3 t27 t28 (K' · H)) fun t29 H =>
 zab t24 false H (fun K' => zaf 0 t29 (K' · H)) fun t30 H =>
 zab t24 false H (fun K' => zae false 1 t30 H (K' · H)) fun t31 H =>
 zab t24 false H (fun K' => zdy (.bool false) false t26 t31 H (K' · H)) fun t32 H =>
 zah t24 (.bool true) t32 fun t33 =>
 zab t33 false H (fun K' => K' t0 H) fun t35 H =>
 zab t33 false H (fun K' => K' t15 H) fun t36 H =>
 zab t33 false H (fun K' => zaj 3 t35 t36 (K' · H)) fun t37 H =>
 zab t33 false H (fun K' => zaf 1 t37 (K' · H)) fun t38 H =>
 zab t33 false H (fun K' => zae false 1 t38 H (K' · H)) fun t39 H =>
 zab t33 false H (fun K' => zad .lss false t39 (.int .i64 0) (K' · H)) fun t40 H =>
 zah t33 (.bool true) t40 fun t41 =>
 zab t41 false H (fun K' => K' t0 H) fun t43 H =>
 zab t41 false H (fun K' => K' t15 H) fun t44 H =>
 zab t41 false H (fun K' => zaj 3 t43 t44 (K' · H)) fun t45 H =>
 zab t41 false H (fun K' => zaf 1 t45 (K' · H)) fun t46 H =>
 zab t41 false H (fun K' => zae false 1 t46 H (K' · H)) fun t47 H =>
 zab t41 false H (fun K' => zad .gtr false t47 (.int .i64 6) (K' · H)) fun t48 H =>
 zah t41 (.bool true) t48 fun t49 =>
 zag t49
 (K (.bool false) H)
 (zaj 3 t0 t15 fun t53 =>
 zaf 0 t53 fun t54 =>
 zae false 1 t54 H fun t55 =>
 zcP t3 t55 (.bool true) H fun H =>
 zaj 3 t0 t15 fun t58 =>
 zaf 2 t58 fun t59 =>
 zae false 1 t59 H fun t60 =>
 zak 1 t60 fun t61 =>
 zad .lss false t61 (.int .i64 1) fun t62 =>
 zab t62 false H (fun K' => K' t0 H) fun t64 H =>
 zab t62 false H (fun K' => K' t15 H) fun t65 H =>
 zab t62 false H (fun K' => zaj 3 t64 t65 (K' · H)) fun t66 H =>
 zab t62 false H (fun K' => zaf 2 t66 (K' · H)) fun t67 H =>
 zab t62 false H (fun K' => zae false 1 t67 H (K' · H)) fun t68 H =>
 zab t62 false H (fun K' => zak 1 t68 (K' · H)) fun t69 H =>
 zab t62 false H (fun K' => zad .gtr false t69 (.int .i64 8) (K' · H)) fun t70 H =>
 zah t62 (.bool true) t70 fun t71 =>
 zag t71
 (K (.bool false) H)
 (zaj 3 t0 t15 fun t74 =>
 zaf 2 t74 fun t75 =>
 zae false 1 t75 H fun t76 =>
 zak 1 t76 fun t77 =>
 zvH t0 t3 t4 t15 t14 t15 t76 t77 (.int .i64 0) H K Kb5)))
 (K (.bool true) H)
def zpB (t0 : AV) (H : zaa) (K : Kt) : Prop :=
 zak 1 t0 fun t9 =>
 zad .gtr false t9 (.int .i64 12) fun t10 =>
 zag t10
 (K (.bool false) H)
 (zew H fun t11 H =>
 zew H fun t12 H =>
 zak 1 t0 fun t14 =>
 zvI t0 t11 t12 t14 (.int .i64 0) H K)
theorem zGT {t0 t3 t4 t5 t14 t15 t76 t77 t78 : AV} {H : zaa} {K : Kt} {Kb5 : Lt} (Inv : Nat → AV → zaa → Prop) (n : Nat) (h0 : HSc H → Inv n t78 H)
  (round : Rd1 (fun t78 => zkp t0 t3 t4 t5 t14 t15 t76 t77 t78) (fun t78 => fun H Kb13 => zpC t0 t3 t4 t5 t14 t15 t76 t77 t78 H K Kb5 Kb13) H Inv) : zvH t0 t3 t4 t5 t14 t15 t76 t77 t78 H K Kb5 :=
 lp1 (M := zfv) zGV t78 (by kernel_rfl) Inv n h0 round
theorem zGU {t0 t3 t4 t14 t15 : AV} {H : zaa} {K : Kt} (Inv : Nat → AV → zaa → Prop) (n : Nat) (h0 : HSc H → Inv n t15 H)
  (round : Rd1 (fun t15 => zkq t0 t3 t4 t14 t15) (fun t15 => fun H Kb5 => zpD t0 t3 t4 t14 t15 H K Kb5) H Inv) : zvI t0 t3 t4 t14 t15 H K :=
 lp1 (M := zfv) zvJ t15 (by kernel_rfl) Inv n h0 round
theorem zGW {t0 : AV} {H : zaa} {K : Kt} (h : HSc H → zpB t0 H K) : ACalls tP zm9 [t0] H K :=
 zav (M := zfv) Try.func41 (c := zpE) (by kernel_rfl) (fun hs => Eq.mpr (by kernel_rfl) (h hs))
def zGZ (_ : Nat) : List Bool := []
noncomputable def zG0 : Code := Try.f42.body.getD .skip
def zvK (t0 : AV) (H : zaa) (K : Kt) : Prop :=
 zaD t0 H fun t1 H =>
 zaf 2 t1 fun t3 =>
 zae false 1 t3 H fun t4 =>
 zak 1 t4 fun t5 =>
 zad .leq false t5 (.int .i64 3000) fun t6 =>
 zab t6 true H (fun K' => zaf 2 t1 (K' · H)) fun t8 H =>
 zab t6 true H (fun K' => zae false 1 t8 H (K' · H)) fun t9 H =>
 zab t6 true H (fun K' => zcz znj [t1] (K' · H)) fun t10 H =>
 zab t6 true H (fun K' => ACalls tP zfg [t9, t10] H K') fun t11 H =>
 zab t6 true H (fun K' => aUn .not t11 (K' · H)) fun t12 H =>
 zah t6 t12 (.bool false) fun t13 =>
 K t13 H
theorem zG1 {t0 : AV} {H : zaa} {K : Kt} (h : HSc H → zvK t0 H K) : ACalls tP zna [t0] H K :=
 zav (M := zGZ) Try.func42 (c := zG0) (by kernel_rfl) (fun hs => Eq.mpr (by kernel_rfl) (h hs))
def zkr : Nat → List Bool
 | 6 => rl false [1,1,1,2,14,3,59]
 | _ => []
noncomputable def zpG : Code := Try.f43.body.getD .skip
noncomputable def zG8 : List ResultVar := Try.f43.results.toList
def zks (t1 t3 t4 t19 t20 t21 : AV) : List AV := ux 1 (t1 :: ux 1 (t3 :: t4 :: ux 14 (t19 :: t20 :: t21 :: ux 59 [])))
def zG6 : List Bool := zkr 6
noncomputable def zG4 : Code := zao [1, 1, 1, 1, 0, 1, 0, 0] zpG
def zG3 (K : Kt) : AExit → List AV → zaa → Prop := zap tP zkr [1, 1, 1, 1, 0, 1, 0] zpG (zas tP zG8 K)
def zvM (t1 t3 t4 t19 t20 t21 : AV) (H : zaa) (K : Kt) : Prop := ALoop tP zG4 (zG3 K) (zks t1 t3 t4 t19 t20 t21) H
def zhl (t1 t3 t4 t6 t19 t20 t21 : AV) (H : zaa) (K : Kt) (Kb6 : Lt) : Prop :=
 zaf 0 t6 fun t42 =>
 zae false 1 t42 H fun t43 =>
 zcP t3 t43 (.bool true) H fun H =>
 zaf 1 t6 fun t44 =>
 zae false 1 t44 H fun t45 =>
 zak 1 t45 fun t46 =>
 zad .gtr false t46 (.int .i64 6) fun t47 =>
 zab t47 false H (fun K' => zaf 0 t1 (K' · H)) fun t49 H =>
 zab t47 false H (fun K' => zae false 1 t49 H (K' · H)) fun t50 H =>
 zab t47 false H (fun K' => zaf 3 t6 (K' · H)) fun t51 H =>
 zab t47 false H (fun K' => zae true 3 t51 H (K' · H)) fun t52 H =>
 zab t47 false H (fun K' => ACalls tP zfZ [t50, t52, (.int .i64 0)] H K') fun t53 H =>
 zab t47 false H (fun K' => aUn .not t53 (K' · H)) fun t54 H =>
 zah t47 (.bool true) t54 fun t55 =>
 zag t55
 (K (.bool false) H)
 (zac H (fun K' => zaf 6 t6 (K' · H)) fun t56 =>
 zac H (fun K' => zai false 1 t56 H (K' · H)) fun t57 =>
 zac H (fun K' => zad .lss false t57 (.int .i64 0) (K' · H)) fun t58 =>
 zac H (fun K' => K' t58 H) fun t59 =>
 zab t59 false H (fun K' => zac H (fun K'' => zaf 6 t6 (K'' · H)) (K' · H)) fun t60 H =>
 zab t59 false H (fun K' => zac H (fun K'' => zai false 1 t60 H (K'' · H)) (K' · H)) fun t61 H =>
 zab t59 false H (fun K' => zac H (fun K'' => zaf 3 t1 (K'' · H)) (K' · H)) fun t62 H =>
 zab t59 false H (fun K' => zac H (fun K'' => zai false 1 t62 H (K'' · H)) (K' · H)) fun t63 H =>
 zab t59 false H (fun K' => zac H (fun K'' => zak 1 t63 (K'' · H)) (K' · H)) fun t64 H =>
 zab t59 false H (fun K' => zac H (fun K'' => zad .geq false t61 t64 (K'' · H)) (K' · H)) fun t65 H =>
 zac H (fun K' => zah t59 (.bool true) t65 (K' · H)) fun t66 =>
 zac H (fun K' => K' t66 H) fun t67 =>
 zab t67 false H (fun K' => zac H (fun K'' => zaf 3 t1 (K'' · H)) (K' · H)) fun t68 H =>
 zab t67 false H (fun K' => zac H (fun K'' => zai false 1 t68 H (K'' · H)) (K' · H)) fun t69 H =>
 zab t67 false H (fun K' => zac H (fun K'' => zaf 6 t6 (K'' · H)) (K' · H)) fun t70 H =>
 zab t67 false H (fun K' => zac H (fun K'' => zai false 1 t70 H (K'' · H)) (K' · H)) fun t71 H =>
 zab t67 false H (fun K' => zac H (fun K'' => zaj 8 t69 t71 (K'' · H)) (K' · H)) fun t72 H =>
 zab t67 false H (fun K' => zac H (fun K'' => zaf 5 t72 (K'' · H)) (K' · H)) fun t73 H =>
 zab t67 false H (fun K' => zac H (fun K'' => zai true 3 t73 H (K'' · H)) (K' · H)) fun t74 H =>
 zab t67 false H (fun K' => zac H (fun K'' => zaf 3 t6 (K'' · H)) (K' · H)) fun t75 H =>
 zab t67 false H (fun K' => zac H (fun K'' => zai true 3 t75 H (K'' · H)) (K' · H)) fun t76 H =>
 zab t67 false H (fun K' => zau H (fun H K'' => ACalls tP zbG [t74, t76] H K'') (K' · H)) fun t77 H =>
 zab t67 false H (fun K' => zac H (fun K'' => aUn .not t77 (K'' · H)) (K' · H)) fun t78 H =>
 zac H (fun K' => zah t67 (.bool true) t78 (K' · H)) fun t79 =>
 zag t79
 (K (.bool false) H)
 (zad .add false t21 (.int .i64 1) fun t80 =>
 Kb6 (zks t1 t3 t4 t19 t20 t80) H))
def zfw (t1 t3 t4 t19 t20 t21 : AV) (H : zaa) (K : Kt) (Kb6 : Lt) : Prop :=
 zad .lss false t21 t20 fun t22 =>
 zag t22
 (zaj 7 t19 t21 fun t23 =>
 zae true 7 t23 H fun t24 =>
 zaA [(.str []), .snil, .snil, (.int .i64 0), (.int .i64 0), .snil, (.int .i64 0)] H fun t6 H =>
 zar 7 t6 t24 H fun H =>
 zaf 0 t6 fun t25 =>
 zae false 1 t25 H fun t26 =>
 zad .eql false t26 (.str []) fun t27 =>
 zag t27
 (zhl t1 t3 (.bool true) t6 t19 t20 t21 H K Kb6)
 (zab t4 false H (fun K' => K' t3 H) fun t30 H =>
 zab t4 false H (fun K' => zaf 0 t6 (K' · H)) fun t31 H =>
 zab t4 false H (fun K' => zae false 1 t31 H (K' · H)) fun t32 H =>
 zab t4 false H (fun K' => zdy (.bool false) false t30 t32 H (K' · H)) fun t33 H =>
 zah t4 (.bool true) t33 fun t34 =>
 zab t34 false H (fun K' => zaf 2 t6 (K' · H)) fun t36 H =>
 zab t34 false H (fun K' => zae false 1 t36 H (K' · H)) fun t37 H =>
 zab t34 false H (fun K' => zak 1 t37 (K' · H)) fun t38 H =>
 zab t34 false H (fun K' => zad .gtr false t38 (.int .i64 0) (K' · H)) fun t39 H =>
 zah t34 (.bool true) t39 fun t40 =>
 zag t40
 (K (.bool false) H)
 (zhl t1 t3 t4 t6 t19 t20 t21 H K Kb6)))
 (K (.bool true) H)
def zvL (t0 : AV) (H : zaa) (K : Kt) : Prop :=
 zaD t0 H fun t1 H =>
 zaf 1 t1 fun t7 =>
 zae false 1 t7 H fun t8 =>
 zak 1 t8 fun t9 =>
 zad .gtr false t9 (.int .i64 64) fun t10 =>
 zab t10 false H (fun K' => zaf 3 t1 (K' · H)) fun t12 H =>
 zab t10 false H (fun K' => zae false 1 t12 H (K' · H)) fun t13 H =>
 zab t10 false H (fun K' => zak 1 t13 (K' · H)) fun t14 H =>
 zab t10 false H (fun K' => zad .gtr false t14 (.int .i64 3000) (K' · H)) fun t15 H =>
 zah t10 (.bool true) t15 fun t16 =>
 zag t16
 (K (.bool false) H)
 (zew H fun t17 H =>
 zaf 1 t1 fun t18 =>
 zae false 1 t18 H fun t19 =>
 zak 1 t19 fun t20 =>
 zvM t1 t17 (.bool false) t19 t20 (.int .i64 0) H K)
theorem zG5 {t1 t3 t4 t19 t20 t21 : AV} {H : zaa} {K : Kt} (Inv : Nat → AV → AV → zaa → Prop) (n : Nat) (h0 : HSc H → Inv n t4 t21 H)
  (round : Rd2 (fun t4 => fun t21 => zks t1 t3 t4 t19 t20 t21) (fun t4 => fun t21 => fun H Kb6 => zfw t1 t3 t4 t19 t20 t21 H K Kb6) H Inv) : zvM t1 t3 t4 t19 t20 t21 H K :=
 lp2 (M := zkr) zG6 t4 t21 (by kernel_rfl) Inv n h0 round
theorem zG7 {t0 : AV} {H : zaa} {K : Kt} (h : HSc H → zvL t0 H K) : ACalls tP znb [t0] H K :=
 zav (M := zkr) Try.func43 (c := zpG) (by kernel_rfl) (fun hs => Eq.mpr (by kernel_rfl) (h hs))
def zdY : Nat → List Bool
 | 5 => rl false [1,1,2,2,12,3,54]
 | 11 => rl false [1,1,2,2,25,3,41]
 | 16 => rl false [1,1,2,2,2,1,22,3,12,3,26]
 | _ => []
noncomputable def zhn : Code := Try.f44.body.getD .skip
noncomputable def zvT : List ResultVar := Try.f44.results.toList
def zkw (t1 t4 t5 t18 t19 t20 : AV) : List AV := ux 1 (t1 :: ux 2 (t4 :: t5 :: ux 12 (t18 :: t19 :: t20 :: ux 54 [])))
def zHi : List Bool := zdY 5
noncomputable def zHd : Code := zao [1, 1, 1, 1, 0, 1, 0, 0] zhn
def zHb (K : Kt) : AExit → List AV → zaa → Prop := zap tP zdY [1, 1, 1, 1, 0, 1, 0] zhn (zas tP zvT K)
def zvR (t1 t4 t5 t18 t19 t20 : AV) (H : zaa) (K : Kt) : Prop := ALoop tP zHd (zHb K) (zkw t1 t4 t5 t18 t19 t20) H
def zku (t1 t4 t5 t31 t32 t33 : AV) : List AV := ux 1 (t1 :: ux 2 (t4 :: t5 :: ux 25 (t31 :: t32 :: t33 :: ux 41 [])))
def zvS : List Bool := zdY 11
noncomputable def zpI : Code := zao [1, 1, 1, 1, 1, 0, 1, 0, 0] zhn
def zvO (K : Kt) : AExit → List AV → zaa → Prop := zap tP zdY [1, 1, 1, 1, 1, 0, 1, 0] zhn (zas tP zvT K)
def zvP (t1 t4 t5 t31 t32 t33 : AV) (H : zaa) (K : Kt) : Prop := ALoop tP zpI (zvO K) (zku t1 t4 t5 t31 t32 t33) H
def zkv (t1 t4 t5 t8 t31 t32 t33 t46 t47 t48 : AV) : List AV := ux 1 (t1 :: ux 2 (t4 :: t5 :: ux 2 (t8 :: ux 22 (t31 :: t32 :: t33 :: ux 12 (t46 :: t47 :: t48 :: ux 26 [])))))
def zHh : List Bool := zdY 16
noncomputable def zHc : Code := zao [1, 1, 0, 0, 1, 1, 1, 0, 0] zpI
def zHa (K : Kt) (Kb11 : Lt) : AExit → List AV → zaa → Prop := zap tP zdY [1, 1, 0, 0, 1, 1, 1, 0] zpI (zbx zvS Kb11 (zvO K))
def zvQ (t1 t4 t5 t8 t31 t32 t33 t46 t47 t48 : AV) (H : zaa) (K : Kt) (Kb11 : Lt) : Prop := ALoop tP zHc (zHa K Kb11) (zkv t1 t4 t5 t8 t31 t32 t33 t46 t47 t48) H
def zhm (t1 t4 t5 t8 t31 t32 t33 t46 t47 t48 : AV) (H : zaa) (K : Kt) (Kb11 : Lt) (Kb16 : Lt) : Prop :=
 zad .lss false t48 t47 fun t49 =>
 zag t49
 (zaj 1 t46 t48 fun t50 =>
 zae false 1 t50 H fun t51 =>
 zad .leq false t51 t8 fun t54 =>
 zab t54 false H (fun K' => K' t51 H) fun t56 H =>
 zab t54 false H (fun K' => zaf 3 t1 (K' · H)) fun t57 H =>
 zab t54 false H (fun K' => zae false 1 t57 H (K' · H)) fun t58 H =>
 zab t54 false H (fun K' => zak 1 t58 (K' · H)) fun t59 H =>
 zab t54 false H (fun K' => zad .geq false t56 t59 (K' · H)) fun t60 H =>
 zah t54 (.bool true) t60 fun t61 =>
 zab t61 false H (fun K' => K' t5 H) fun t63 H =>
 zab t61 false H (fun K' => K' t51 H) fun t64 H =>
 zab t61 false H (fun K' => aCallV tP t63 [t64] H K') fun t65 H =>
 zab t61 false H (fun K' => aUn .not t65 (K' · H)) fun t66 H =>
 zah t61 (.bool true) t66 fun t67 =>
 zag t67
 (K (.bool false) H)
 (zad .add false t48 (.int .i64 1) fun t68 =>
 Kb16 (zkv t1 t4 t5 t8 t31 t32 t33 t46 t47 t68) H))
 (zad .add false t33 (.int .i64 1) fun t69 =>
 Kb11 (zku t1 t4 t5 t31 t32 t69) H)
def zkt (t1 t4 t5 t31 t32 t33 : AV) (H : zaa) (K : Kt) (Kb11 : Lt) : Prop :=
 zad .lss false t33 t32 fun t34 =>
 zag t34
 (zaj 8 t31 t33 fun t36 =>
 zae true 8 t36 H fun t37 =>
 zaA [(.int .i64 0), (.int .i64 0), .snil, .snil, .snil, (.int .i64 0), (.int .i64 0), .snil] H fun t9 H =>
 zar 8 t9 t37 H fun H =>
 zaf 3 t9 fun t38 =>
 zae false 1 t38 H fun t39 =>
 zak 1 t39 fun t40 =>
 zaf 4 t9 fun t41 =>
 zae false 1 t41 H fun t42 =>
 zak 1 t42 fun t43 =>
 zad .neq false t40 t43 fun t44 =>
 zag t44
 (K (.bool false) H)
 (zaf 4 t9 fun t45 =>
 zae false 1 t45 H fun t46 =>
 zak 1 t46 fun t47 =>
 zvQ t1 t4 t5 t33 t31 t32 t33 t46 t47 (.int .i64 0) H K Kb11))
 (zae false 1 t4 H fun t70 =>
 zaf 3 t1 fun t71 =>
 zae false 1 t71 H fun t72 =>
 zak 1 t72 fun t73 =>
 zad .eql false t70 t73 fun t74 =>
 K t74 H)
def zpH (t1 t4 t5 t18 t19 t20 : AV) (H : zaa) (K : Kt) (Kb5 : Lt) : Prop :=
 zad .lss false t20 t19 fun t21 =>
 zag t21
 (zaj 7 t18 t20 fun t22 =>
 zae true 7 t22 H fun t23 =>
 zaA [(.str []), .snil, .snil, (.int .i64 0), (.int .i64 0), .snil, (.int .i64 0)] H fun t7 H =>
 zar 7 t7 t23 H fun H =>
 zaf 6 t7 fun t25 =>
 zae false 1 t25 H fun t26 =>
 aCallV tP t5 [t26] H fun t27 H =>
 aUn .not t27 fun t28 =>
 zag t28
 (K (.bool false) H)
 (zad .add false t20 (.int .i64 1) fun t29 =>
 Kb5 (zkw t1 t4 t5 t18 t19 t29) H))
 (zaf 3 t1 fun t30 =>
 zae false 1 t30 H fun t31 =>
 zak 1 t31 fun t32 =>
 zvP t1 t4 t5 t31 t32 (.int .i64 0) H K)
def zvN (t0 : AV) (H : zaa) (K : Kt) : Prop :=
 zaD t0 H fun t1 H =>
 zaf 3 t1 fun t12 =>
 zae false 1 t12 H fun t13 =>
 zak 1 t13 fun t14 =>
 zaY 1 [(.bool false)] t14 t14 H fun t15 H =>
 zaA [.snil] H fun t3 H =>
 zar 1 t3 t15 H fun H =>
 zaA [(.int .i64 0)] H fun t4 H =>
 zar 1 t4 (.int .i64 0) H fun H =>
 zcz zip [t3, t4] fun t16 =>
 zaf 1 t1 fun t17 =>
 zae false 1 t17 H fun t18 =>
 zak 1 t18 fun t19 =>
 zvR t1 t4 t16 t18 t19 (.int .i64 0) H K
theorem zHf {t1 t4 t5 t8 t31 t32 t33 t46 t47 t48 : AV} {H : zaa} {K : Kt} {Kb11 : Lt} (Inv : Nat → AV → zaa → Prop) (n : Nat) (h0 : HSc H → Inv n t48 H)
  (round : Rd1 (fun t48 => zkv t1 t4 t5 t8 t31 t32 t33 t46 t47 t48) (fun t48 => fun H Kb16 => zhm t1 t4 t5 t8 t31 t32 t33 t46 t47 t48 H K Kb11 Kb16) H Inv) : zvQ t1 t4 t5 t8 t31 t32 t33 t46 t47 t48 H K Kb11 :=
 lp1 (M := zdY) zHh t48 (by kernel_rfl) Inv n h0 round
theorem zHe {t1 t4 t5 t31 t32 t33 : AV} {H : zaa} {K : Kt} (Inv : Nat → AV → zaa → Prop) (n : Nat) (h0 : HSc H → Inv n t33 H)
  (round : Rd1 (fun t33 => zku t1 t4 t5 t31 t32 t33) (fun t33 => fun H Kb11 => zkt t1 t4 t5 t31 t32 t33 H K Kb11) H Inv) : zvP t1 t4 t5 t31 t32 t33 H K :=
 lp1 (M := zdY) zvS t33 (by kernel_rfl) Inv n h0 round
theorem zHg {t1 t4 t5 t18 t19 t20 : AV} {H : zaa} {K : Kt} (Inv : Nat → AV → zaa → Prop) (n : Nat) (h0 : HSc H → Inv n t20 H)
  (round : Rd1 (fun t20 => zkw t1 t4 t5 t18 t19 t20) (fun t20 => fun H Kb5 => zpH t1 t4 t5 t18 t19 t20 H K Kb5) H Inv) : zvR t1 t4 t5 t18 t19 t20 H K :=
 lp1 (M := zdY) zHi t20 (by kernel_rfl) Inv n h0 round
theorem zHj {t0 : AV} {H : zaa} {K : Kt} (h : HSc H → zvN t0 H K) : ACalls tP znc [t0] H K :=
 zav (M := zdY) Try.func44 (c := zhn) (by kernel_rfl) (fun hs => Eq.mpr (by kernel_rfl) (h hs))
def zdZ : Nat → List Bool
 | 5 => rl false [1,1,2,2,12,3,41]
 | 11 => rl false [1,1,2,2,32,3,21]
 | 14 => rl false [1,1,2,2,32,3,4,3,14]
 | _ => []
noncomputable def zho : Code := Try.f45.body.getD .skip
noncomputable def zv0 : List ResultVar := Try.f45.results.toList
def zkz (t1 t4 t5 t18 t19 t20 : AV) : List AV := ux 1 (t1 :: ux 2 (t4 :: t5 :: ux 12 (t18 :: t19 :: t20 :: ux 41 [])))
def zHt : List Bool := zdZ 5
noncomputable def zHo : Code := zao [1, 1, 1, 1, 0, 1, 0, 0] zho
def zHm (K : Kt) : AExit → List AV → zaa → Prop := zap tP zdZ [1, 1, 1, 1, 0, 1, 0] zho (zas tP zv0 K)
def zvY (t1 t4 t5 t18 t19 t20 : AV) (H : zaa) (K : Kt) : Prop := ALoop tP zHo (zHm K) (zkz t1 t4 t5 t18 t19 t20) H
def zkx (t1 t4 t5 t38 t39 t40 : AV) : List AV := ux 1 (t1 :: ux 2 (t4 :: t5 :: ux 32 (t38 :: t39 :: t40 :: ux 21 [])))
def zvZ : List Bool := zdZ 11
noncomputable def zpM : Code := zao [1, 1, 1, 1, 1, 0, 1, 0, 0] zho
def zvV (K : Kt) : AExit → List AV → zaa → Prop := zap tP zdZ [1, 1, 1, 1, 1, 0, 1, 0] zho (zas tP zv0 K)
def zvW (t1 t4 t5 t38 t39 t40 : AV) (H : zaa) (K : Kt) : Prop := ALoop tP zpM (zvV K) (zkx t1 t4 t5 t38 t39 t40) H
def zky (t1 t4 t5 t38 t39 t40 t45 t46 t47 : AV) : List AV := ux 1 (t1 :: ux 2 (t4 :: t5 :: ux 32 (t38 :: t39 :: t40 :: ux 4 (t45 :: t46 :: t47 :: ux 14 []))))
def zHs : List Bool := zdZ 14
noncomputable def zHn : Code := zao [1, 1, 0, 0, 1, 1, 0, 0] zpM
def zHl (K : Kt) (Kb11 : Lt) : AExit → List AV → zaa → Prop := zap tP zdZ [1, 1, 0, 0, 1, 1, 0] zpM (zbx zvZ Kb11 (zvV K))
def zvX (t1 t4 t5 t38 t39 t40 t45 t46 t47 : AV) (H : zaa) (K : Kt) (Kb11 : Lt) : Prop := ALoop tP zHn (zHl K Kb11) (zky t1 t4 t5 t38 t39 t40 t45 t46 t47) H
def zpK (t1 t4 t5 t38 t39 t40 t45 t46 t47 : AV) (H : zaa) (K : Kt) (Kb11 : Lt) (Kb14 : Lt) : Prop :=
 zad .lss false t47 t46 fun t48 =>
 zag t48
 (zaj 1 t45 t47 fun t49 =>
 zae false 1 t49 H fun t50 =>
 aCallV tP t5 [t50] H fun t53 H =>
 aUn .not t53 fun t54 =>
 zag t54
 (K (.bool false) H)
 (zad .add false t47 (.int .i64 1) fun t55 =>
 Kb14 (zky t1 t4 t5 t38 t39 t40 t45 t46 t55) H))
 (zad .add false t40 (.int .i64 1) fun t56 =>
 Kb11 (zkx t1 t4 t5 t38 t39 t56) H)
def zpJ (t1 t4 t5 t38 t39 t40 : AV) (H : zaa) (K : Kt) (Kb11 : Lt) : Prop :=
 zad .lss false t40 t39 fun t41 =>
 zag t41
 (zaj 8 t38 t40 fun t42 =>
 zae true 8 t42 H fun t43 =>
 zaA [(.int .i64 0), (.int .i64 0), .snil, .snil, .snil, (.int .i64 0), (.int .i64 0), .snil] H fun t9 H =>
 zar 8 t9 t43 H fun H =>
 zaf 3 t9 fun t44 =>
 zae false 1 t44 H fun t45 =>
 zak 1 t45 fun t46 =>
 zvX t1 t4 t5 t38 t39 t40 t45 t46 (.int .i64 0) H K Kb11)
 (zae false 1 t4 H fun t57 =>
 zaf 2 t1 fun t58 =>
 zae false 1 t58 H fun t59 =>
 zak 1 t59 fun t60 =>
 zad .eql false t57 t60 fun t61 =>
 K t61 H)
def zpL (t1 t4 t5 t18 t19 t20 : AV) (H : zaa) (K : Kt) (Kb5 : Lt) : Prop :=
 zad .lss false t20 t19 fun t21 =>
 zag t21
 (zaj 7 t18 t20 fun t22 =>
 zae true 7 t22 H fun t23 =>
 zaA [(.str []), .snil, .snil, (.int .i64 0), (.int .i64 0), .snil, (.int .i64 0)] H fun t7 H =>
 zar 7 t7 t23 H fun H =>
 zaf 1 t7 fun t25 =>
 zae false 1 t25 H fun t26 =>
 aCallV tP t5 [t26] H fun t27 H =>
 aUn .not t27 fun t28 =>
 zab t28 false H (fun K' => K' t5 H) fun t30 H =>
 zab t28 false H (fun K' => zaf 2 t7 (K' · H)) fun t31 H =>
 zab t28 false H (fun K' => zae false 1 t31 H (K' · H)) fun t32 H =>
 zab t28 false H (fun K' => aCallV tP t30 [t32] H K') fun t33 H =>
 zab t28 false H (fun K' => aUn .not t33 (K' · H)) fun t34 H =>
 zah t28 (.bool true) t34 fun t35 =>
 zag t35
 (K (.bool false) H)
 (zad .add false t20 (.int .i64 1) fun t36 =>
 Kb5 (zkz t1 t4 t5 t18 t19 t36) H))
 (zaf 3 t1 fun t37 =>
 zae false 1 t37 H fun t38 =>
 zak 1 t38 fun t39 =>
 zvW t1 t4 t5 t38 t39 (.int .i64 0) H K)
def zvU (t0 : AV) (H : zaa) (K : Kt) : Prop :=
 zaD t0 H fun t1 H =>
 zaf 2 t1 fun t12 =>
 zae false 1 t12 H fun t13 =>
 zak 1 t13 fun t14 =>
 zaY 1 [(.bool false)] t14 t14 H fun t15 H =>
 zaA [.snil] H fun t3 H =>
 zar 1 t3 t15 H fun H =>
 zaA [(.int .i64 0)] H fun t4 H =>
 zar 1 t4 (.int .i64 0) H fun H =>
 zcz ziq [t3, t4] fun t16 =>
 zaf 1 t1 fun t17 =>
 zae false 1 t17 H fun t18 =>
 zak 1 t18 fun t19 =>
 zvY t1 t4 t16 t18 t19 (.int .i64 0) H K
theorem zHq {t1 t4 t5 t38 t39 t40 t45 t46 t47 : AV} {H : zaa} {K : Kt} {Kb11 : Lt} (Inv : Nat → AV → zaa → Prop) (n : Nat) (h0 : HSc H → Inv n t47 H)
  (round : Rd1 (fun t47 => zky t1 t4 t5 t38 t39 t40 t45 t46 t47) (fun t47 => fun H Kb14 => zpK t1 t4 t5 t38 t39 t40 t45 t46 t47 H K Kb11 Kb14) H Inv) : zvX t1 t4 t5 t38 t39 t40 t45 t46 t47 H K Kb11 :=
 lp1 (M := zdZ) zHs t47 (by kernel_rfl) Inv n h0 round
theorem zHp {t1 t4 t5 t38 t39 t40 : AV} {H : zaa} {K : Kt} (Inv : Nat → AV → zaa → Prop) (n : Nat) (h0 : HSc H → Inv n t40 H)
  (round : Rd1 (fun t40 => zkx t1 t4 t5 t38 t39 t40) (fun t40 => fun H Kb11 => zpJ t1 t4 t5 t38 t39 t40 H K Kb11) H Inv) : zvW t1 t4 t5 t38 t39 t40 H K :=
 lp1 (M := zdZ) zvZ t40 (by kernel_rfl) Inv n h0 round
theorem zHr {t1 t4 t5 t18 t19 t20 : AV} {H : zaa} {K : Kt} (Inv : Nat → AV → zaa → Prop) (n : Nat) (h0 : HSc H → Inv n t20 H)
  (round : Rd1 (fun t20 => zkz t1 t4 t5 t18 t19 t20) (fun t20 => fun H Kb5 => zpL t1 t4 t5 t18 t19 t20 H K Kb5) H Inv) : zvY t1 t4 t5 t18 t19 t20 H K :=
 lp1 (M := zdZ) zHt t20 (by kernel_rfl) Inv n h0 round
theorem zHu {t0 : AV} {H : zaa} {K : Kt} (h : HSc H → zvU t0 H K) : ACalls tP znd [t0] H K :=
 zav (M := zdZ) Try.func45 (c := zho) (by kernel_rfl) (fun hs => Eq.mpr (by kernel_rfl) (h hs))
def zkA : Nat → List Bool
 | 6 => rl false [4,2,9,3,25]
 | _ => []
noncomputable def zpO : Code := Try.f46.body.getD .skip
noncomputable def zHB : List ResultVar := Try.f46.results.toList
def zkB (t4 t5 t15 t16 t17 : AV) : List AV := ux 4 (t4 :: t5 :: ux 9 (t15 :: t16 :: t17 :: ux 25 []))
def zHz : List Bool := zkA 6
noncomputable def zHx : Code := zao [1, 1, 1, 1, 1, 0, 1, 0, 0] zpO
def zHw (K : Kt) : AExit → List AV → zaa → Prop := zap tP zkA [1, 1, 1, 1, 1, 0, 1, 0] zpO (zas tP zHB K)
def zv2 (t4 t5 t15 t16 t17 : AV) (H : zaa) (K : Kt) : Prop := ALoop tP zHx (zHw K) (zkB t4 t5 t15 t16 t17) H
def zpN (t4 t5 t15 t16 t17 : AV) (H : zaa) (K : Kt) (Kb6 : Lt) : Prop :=
 zad .lss false t17 t16 fun t18 =>
 zag t18
 (zaj 7 t15 t17 fun t19 =>
 zae true 7 t19 H fun t20 =>
 zaA [(.str []), .snil, .snil, (.int .i64 0), (.int .i64 0), .snil, (.int .i64 0)] H fun t7 H =>
 zar 7 t7 t20 H fun H =>
 zae false 1 t4 H fun t21 =>
 zaf 1 t7 fun t22 =>
 zae false 1 t22 H fun t23 =>
 aCallV tP t21 [t23, (.bool true)] H fun t24 H =>
 zae false 1 t4 H fun t25 =>
 zaf 2 t7 fun t26 =>
 zae false 1 t26 H fun t27 =>
 aCallV tP t25 [t27, (.bool true)] H fun t28 H =>
 zae false 1 t5 H fun t29 =>
 zaf 6 t7 fun t30 =>
 zae false 1 t30 H fun t31 =>
 aCallV tP t29 [t31] H fun t32 H =>
 aUn .not t32 fun t33 =>
 zag t33
 (K (.bool false) H)
 (zae false 1 t4 H fun t34 =>
 zaf 1 t7 fun t35 =>
 zae false 1 t35 H fun t36 =>
 aCallV tP t34 [t36, (.bool false)] H fun t37 H =>
 zae false 1 t4 H fun t38 =>
 zaf 2 t7 fun t39 =>
 zae false 1 t39 H fun t40 =>
 aCallV tP t38 [t40, (.bool false)] H fun t41 H =>
 zad .add false t17 (.int .i64 1) fun t42 =>
 Kb6 (zkB t4 t5 t15 t16 t42) H))
 (K (.bool true) H)
def zv1 (t0 : AV) (H : zaa) (K : Kt) : Prop :=
 zaD t0 H fun t1 H =>
 zaf 2 t1 fun t8 =>
 zae false 1 t8 H fun t9 =>
 zak 1 t9 fun t10 =>
 zaY 1 [(.bool false)] t10 t10 H fun t11 H =>
 zaA [.snil] H fun t3 H =>
 zar 1 t3 t11 H fun H =>
 zcz zeI [t3] fun t12 =>
 zaA [.nilfn] H fun t4 H =>
 zar 1 t4 t12 H fun H =>
 zaA [.nilfn] H fun t5 H =>
 zcz zeJ [t1, t3, t4, t5] fun t13 =>
 zar 1 t5 t13 H fun H =>
 zaf 1 t1 fun t14 =>
 zae false 1 t14 H fun t15 =>
 zak 1 t15 fun t16 =>
 zv2 t4 t5 t15 t16 (.int .i64 0) H K
theorem zHy {t4 t5 t15 t16 t17 : AV} {H : zaa} {K : Kt} (Inv : Nat → AV → zaa → Prop) (n : Nat) (h0 : HSc H → Inv n t17 H)
  (round : Rd1 (fun t17 => zkB t4 t5 t15 t16 t17) (fun t17 => fun H Kb6 => zpN t4 t5 t15 t16 t17 H K Kb6) H Inv) : zv2 t4 t5 t15 t16 t17 H K :=
 lp1 (M := zkA) zHz t17 (by kernel_rfl) Inv n h0 round
theorem zHA {t0 : AV} {H : zaa} {K : Kt} (h : HSc H → zv1 t0 H K) : ACalls tP zne [t0] H K :=
 zav (M := zkA) Try.func46 (c := zpO) (by kernel_rfl) (fun hs => Eq.mpr (by kernel_rfl) (h hs))
def zfx : Nat → List Bool
 | 3 => rl false [1,1,1,1,12,3,30]
 | 9 => rl false [3,1,24,3,18]
 | _ => []
noncomputable def zhq : Code := Try.f47.body.getD .skip
noncomputable def zv6 : List ResultVar := Try.f47.results.toList
def zkC (t1 t3 t16 t17 t18 : AV) : List AV := ux 1 (t1 :: ux 1 (t3 :: ux 12 (t16 :: t17 :: t18 :: ux 30 [])))
def zHJ : List Bool := zfx 3
noncomputable def zHF : Code := zao [1, 1, 0, 1, 0, 0] zhq
def zHD (K : Kt) : AExit → List AV → zaa → Prop := zap tP zfx [1, 1, 0, 1, 0] zhq (zas tP zv6 K)
def zv4 (t1 t3 t16 t17 t18 : AV) (H : zaa) (K : Kt) : Prop := ALoop tP zHF (zHD K) (zkC t1 t3 t16 t17 t18) H
def zhr (t3 t28 t29 t30 : AV) : List AV := ux 3 (t3 :: ux 24 (t28 :: t29 :: t30 :: ux 18 []))
def zHK : List Bool := zfx 9
noncomputable def zHG : Code := zao [1, 1, 1, 0, 1, 0, 0] zhq
def zHE (K : Kt) : AExit → List AV → zaa → Prop := zap tP zfx [1, 1, 1, 0, 1, 0] zhq (zas tP zv6 K)
def zv5 (t3 t28 t29 t30 : AV) (H : zaa) (K : Kt) : Prop := ALoop tP zHG (zHE K) (zhr t3 t28 t29 t30) H
def zhp (t3 t28 t29 t30 : AV) (H : zaa) (K : Kt) (Kb9 : Lt) : Prop :=
 zad .lss false t30 t29 fun t31 =>
 zag t31
 (zaj 7 t28 t30 fun t33 =>
 zae true 7 t33 H fun t34 =>
 zaA [(.str []), .snil, .snil, (.int .i64 0), (.int .i64 0), .snil, (.int .i64 0)] H fun t7 H =>
 zar 7 t7 t34 H fun H =>
 zaf 0 t7 fun t35 =>
 zae false 1 t35 H fun t36 =>
 zad .eql false t36 (.str []) fun t37 =>
 zab t37 true H (fun K' => K' t3 H) fun t39 H =>
 zab t37 true H (fun K' => za1 t39 (K' · H)) fun t40 H =>
 zab t37 true H (fun K' => zaf 4 t40 (K' · H)) fun t41 H =>
 zab t37 true H (fun K' => zae false 1 t41 H (K' · H)) fun t42 H =>
 zab t37 true H (fun K' => K' t30 H) fun t43 H =>
 zab t37 true H (fun K' => zaj 1 t42 t43 (K' · H)) fun t44 H =>
 zab t37 true H (fun K' => zae false 1 t44 H (K' · H)) fun t45 H =>
 zab t37 true H (fun K' => zad .neq false t45 (.int .i64 1) (K' · H)) fun t46 H =>
 zah t37 t46 (.bool false) fun t47 =>
 zag t47
 (K (.bool false) H)
 (zad .add false t30 (.int .i64 1) fun t48 =>
 Kb9 (zhr t3 t28 t29 t48) H))
 (K (.bool true) H)
def zpP (t1 t3 t16 t17 t18 : AV) (H : zaa) (K : Kt) (Kb3 : Lt) : Prop :=
 zad .lss false t18 t17 fun t19 =>
 zag t19
 (zaj 8 t16 t18 fun t20 =>
 zae true 8 t20 H fun t21 =>
 zaA [(.int .i64 0), (.int .i64 0), .snil, .snil, .snil, (.int .i64 0), (.int .i64 0), .snil] H fun t5 H =>
 zar 8 t5 t21 H fun H =>
 zae true 8 t5 H fun t23 =>
 ACalls tP znk [t3, t23] H fun t24 H =>
 aUn .not t24 fun t25 =>
 zag t25
 (K (.bool false) H)
 (zad .add false t18 (.int .i64 1) fun t26 =>
 Kb3 (zkC t1 t3 t16 t17 t26) H))
 (zaf 1 t1 fun t27 =>
 zae false 1 t27 H fun t28 =>
 zak 1 t28 fun t29 =>
 zv5 t3 t28 t29 (.int .i64 0) H K)
def zv3 (t0 : AV) (H : zaa) (K : Kt) : Prop :=
 zaD t0 H fun t1 H =>
 zac H (fun K' => zai true 4 t1 H (K' · H)) fun t8 =>
 zac H (fun K' => zaf 1 t1 (K' · H)) fun t9 =>
 zac H (fun K' => zai false 1 t9 H (K' · H)) fun t10 =>
 zac H (fun K' => zak 1 t10 (K' · H)) fun t11 =>
 zaY 8 [(.int .i64 0)] t11 t11 H fun t12 H =>
 zac H (fun K' => zaI [.snil, .snil, .snil, .snil, .snil] [(0, 4), (4, 1)] [(0, t8), (1, t12)] (K' · H)) fun t13 =>
 zaD t13 H fun t14 H =>
 zac H (fun K' => K' t14 H) fun t3 =>
 zaf 3 t1 fun t15 =>
 zae false 1 t15 H fun t16 =>
 zak 1 t16 fun t17 =>
 zv4 t1 t3 t16 t17 (.int .i64 0) H K
theorem zHI {t3 t28 t29 t30 : AV} {H : zaa} {K : Kt} (Inv : Nat → AV → zaa → Prop) (n : Nat) (h0 : HSc H → Inv n t30 H)
  (round : Rd1 (fun t30 => zhr t3 t28 t29 t30) (fun t30 => fun H Kb9 => zhp t3 t28 t29 t30 H K Kb9) H Inv) : zv5 t3 t28 t29 t30 H K :=
 lp1 (M := zfx) zHK t30 (by kernel_rfl) Inv n h0 round
theorem zHH {t1 t3 t16 t17 t18 : AV} {H : zaa} {K : Kt} (Inv : Nat → AV → zaa → Prop) (n : Nat) (h0 : HSc H → Inv n t18 H)
  (round : Rd1 (fun t18 => zkC t1 t3 t16 t17 t18) (fun t18 => fun H Kb3 => zpP t1 t3 t16 t17 t18 H K Kb3) H Inv) : zv4 t1 t3 t16 t17 t18 H K :=
 lp1 (M := zfx) zHJ t18 (by kernel_rfl) Inv n h0 round
theorem zHL {t0 : AV} {H : zaa} {K : Kt} (h : HSc H → zv3 t0 H K) : ACalls tP znf [t0] H K :=
 zav (M := zfx) Try.func47 (c := zhq) (by kernel_rfl) (fun hs => Eq.mpr (by kernel_rfl) (h hs))
def zln : Nat → List Bool
 | 6 => rl false [0,2,6,1,18,3,29]
 | _ => []
noncomputable def zqt : Code := Try.f67.body.getD .skip
noncomputable def zJ9 : List ResultVar := Try.f67.results.toList
def zhB (t0 t1 t8 t27 t28 t29 : AV) : List AV := t0 :: t1 :: ux 6 (t8 :: ux 18 (t27 :: t28 :: t29 :: ux 29 []))
def zJ7 : List Bool := zln 6
noncomputable def zJ5 : Code := zao [1, 1, 1, 1, 0, 1, 0, 0] zqt
def zJ4 (K : Kt) : AExit → List AV → zaa → Prop := zap tP zln [1, 1, 1, 1, 0, 1, 0] zqt (zas tP zJ9 K)
def zwY (t0 t1 t8 t27 t28 t29 : AV) (H : zaa) (K : Kt) : Prop := ALoop tP zJ5 (zJ4 K) (zhB t0 t1 t8 t27 t28 t29) H
def zqs (t0 t1 t8 t27 t28 t29 : AV) (H : zaa) (K : Kt) (Kb6 : Lt) : Prop :=
 zad .lss false t29 t28 fun t30 =>
 zag t30
 (zaj 3 t27 t29 fun t32 =>
 zae true 3 t32 H fun t33 =>
 zaA [(.int .i64 0), (.int .i64 0), .snil] H fun t10 H =>
 zar 3 t10 t33 H fun H =>
 zac H (fun K' => K' t0 H) fun t34 =>
 zac H (fun K' => K' t1 H) fun t35 =>
 zac H (fun K' => zad .add false t35 (.int .i64 1) (K' · H)) fun t36 =>
 zac H (fun K' => zaZ 1 3 t34 none (some t36) (K' · H)) fun t37 =>
 zac H (fun K' => zai true 3 t10 H (K' · H)) fun t38 =>
 zac H (fun K' => K' t0 H) fun t39 =>
 zac H (fun K' => K' t1 H) fun t40 =>
 zac H (fun K' => zaj 3 t39 t40 (K' · H)) fun t41 =>
 zac H (fun K' => zaf 1 t41 (K' · H)) fun t42 =>
 zac H (fun K' => zai false 1 t42 H (K' · H)) fun t43 =>
 zau H (fun H K' => ACalls tP zfZ [t37, t38, t43] H K') fun t44 =>
 zac H (fun K' => aUn .not t44 (K' · H)) fun t45 =>
 zac H (fun K' => K' t45 H) fun t46 =>
 zab t46 false H (fun K' => zac H (fun K'' => K'' t8 H) (K' · H)) fun t47 H =>
 zab t46 false H (fun K' => zac H (fun K'' => K'' t29 H) (K' · H)) fun t48 H =>
 zab t46 false H (fun K' => zac H (fun K'' => zaj 1 t47 t48 (K'' · H)) (K' · H)) fun t49 H =>
 zab t46 false H (fun K' => zac H (fun K'' => zai false 1 t49 H (K'' · H)) (K' · H)) fun t50 H =>
 zab t46 false H (fun K' => zac H (fun K'' => aUn .not t50 (K'' · H)) (K' · H)) fun t51 H =>
 zab t46 false H (fun K' => zac H (fun K'' => K'' t51 H) (K' · H)) fun t52 H =>
 zab t52 true H (fun K' => zac H (fun K'' => zai true 3 t10 H (K'' · H)) (K' · H)) fun t53 H =>
 zab t52 true H (fun K' => zac H (fun K'' => K'' t1 H) (K' · H)) fun t54 H =>
 zab t52 true H (fun K' => zau H (fun H K'' => ACalls tP zit [t53, t54] H K'') (K' · H)) fun t55 H =>
 zab t46 false H (fun K' => zac H (fun K'' => zah t52 t55 (.bool false) (K'' · H)) (K' · H)) fun t56 H =>
 zac H (fun K' => zah t46 (.bool true) t56 (K' · H)) fun t57 =>
 zag t57
 (K (.bool false) H)
 (zad .add false t29 (.int .i64 1) fun t58 =>
 Kb6 (zhB t0 t1 t8 t27 t28 t58) H))
 (K (.bool true) H)
def zwX (t0 t1 t2 : AV) (H : zaa) (K : Kt) : Prop :=
 zaj 3 t0 t1 fun t13 =>
 zaf 2 t13 fun t14 =>
 zae false 1 t14 H fun t15 =>
 zaj 2 t15 t2 fun t17 =>
 zaf 1 t17 fun t18 =>
 zae false 1 t18 H fun t19 =>
 zak 1 t19 fun t21 =>
 zad .gtr false t21 (.int .i64 6) fun t22 =>
 zag t22
 (K (.bool false) H)
 (ACalls tP znn [t0, t1, t2] H fun t26 H =>
 zak 1 t19 fun t28 =>
 zwY t0 t1 t26 t19 t28 (.int .i64 0) H K)
theorem zJ6 {t0 t1 t8 t27 t28 t29 : AV} {H : zaa} {K : Kt} (Inv : Nat → AV → zaa → Prop) (n : Nat) (h0 : HSc H → Inv n t29 H)
  (round : Rd1 (fun t29 => zhB t0 t1 t8 t27 t28 t29) (fun t29 => fun H Kb6 => zqs t0 t1 t8 t27 t28 t29 H K Kb6) H Inv) : zwY t0 t1 t8 t27 t28 t29 H K :=
 lp1 (M := zln) zJ7 t29 (by kernel_rfl) Inv n h0 round
theorem zJ8 {t0 t1 t2 : AV} {H : zaa} {K : Kt} (h : HSc H → zwX t0 t1 t2 H K) : ACalls tP zni [t0, t1, t2] H K :=
 zav (M := zln) Try.func67 (c := zqt) (by kernel_rfl) (fun hs => Eq.mpr (by kernel_rfl) (h hs))
def zKe (_ : Nat) : List Bool := []
noncomputable def zKf : Code := Try.f69.body.getD .skip
def zw0 (t0 t1 : AV) (H : zaa) (K : Kt) : Prop :=
 zaD t0 H fun t2 H =>
 zaf 0 t1 fun t4 =>
 zae false 1 t4 H fun t5 =>
 zae true 3 t2 H fun t6 =>
 ACalls tP zfZ [t5, t6, (.int .i64 0)] H fun t7 H =>
 aUn .not t7 fun t8 =>
 K t8 H
theorem zKg {t0 t1 : AV} {H : zaa} {K : Kt} (h : HSc H → zw0 t0 t1 H K) : ACalls tP znj [t0, t1] H K :=
 zav (M := zKe) Try.func69 (c := zKf) (by kernel_rfl) (fun hs => Eq.mpr (by kernel_rfl) (h hs))
def zKn (_ : Nat) : List Bool := []
noncomputable def zKo : Code := Try.f72.body.getD .skip
def zqu (t0 t1 t2 : AV) (H : zaa) (K : Kt) : Prop :=
 zae false 1 t1 H fun t5 =>
 zaj 1 t5 t0 fun t7 =>
 zae false 1 t7 H fun t8 =>
 zag t8
 (K (.bool false) H)
 (zae false 1 t1 H fun t9 =>
 zaj 1 t9 t0 fun t11 =>
 zar 1 t11 (.bool true) H fun H =>
 zae false 1 t2 H fun t12 =>
 zad .add false t12 (.int .i64 1) fun t13 =>
 zar 1 t2 t13 H fun H =>
 K (.bool true) H)
theorem zKp {t0 t1 t2 : AV} {H : zaa} {K : Kt} (h : HSc H → zqu t0 t1 t2 H K) : ACalls tP zip [t0, t1, t2] H K :=
 zav (M := zKn) Try.func72 (c := zKo) (by kernel_rfl) (fun hs => Eq.mpr (by kernel_rfl) (h hs))
def zlq : Nat → List Bool
 | 2 => rl false [1,2,4,3,23]
 | _ => []
noncomputable def zqv : Code := Try.f73.body.getD .skip
noncomputable def zKv : List ResultVar := Try.f73.results.toList
def zlr (t1 t2 t7 t8 t9 : AV) : List AV := ux 1 (t1 :: t2 :: ux 4 (t7 :: t8 :: t9 :: ux 23 []))
def zKt : List Bool := zlq 2
noncomputable def zKr : Code := zao [1, 0, 1, 0, 0] zqv
def zKq (K : Kt) : AExit → List AV → zaa → Prop := zap tP zlq [1, 0, 1, 0] zqv (zas tP zKv K)
def zw4 (t1 t2 t7 t8 t9 : AV) (H : zaa) (K : Kt) : Prop := ALoop tP zKr (zKq K) (zlr t1 t2 t7 t8 t9) H
def zgk (t1 t2 t7 t8 t9 : AV) (H : zaa) (K : Kt) (Kb2 : Lt) : Prop :=
 zad .lss false t9 t8 fun t10 =>
 zag t10
 (zaj 1 t7 t9 fun t11 =>
 zae false 1 t11 H fun t12 =>
 zad .lss false t12 (.int .i64 0) fun t14 =>
 zab t14 false H (fun K' => K' t12 H) fun t16 H =>
 zab t14 false H (fun K' => zae false 1 t1 H (K' · H)) fun t17 H =>
 zab t14 false H (fun K' => zak 1 t17 (K' · H)) fun t18 H =>
 zab t14 false H (fun K' => zad .geq false t16 t18 (K' · H)) fun t19 H =>
 zah t14 (.bool true) t19 fun t20 =>
 zab t20 false H (fun K' => zae false 1 t1 H (K' · H)) fun t22 H =>
 zab t20 false H (fun K' => K' t12 H) fun t23 H =>
 zab t20 false H (fun K' => zaj 1 t22 t23 (K' · H)) fun t24 H =>
 zab t20 false H (fun K' => zae false 1 t24 H (K' · H)) fun t25 H =>
 zah t20 (.bool true) t25 fun t26 =>
 zag t26
 (K (.bool false) H)
 (zae false 1 t1 H fun t27 =>
 zaj 1 t27 t12 fun t29 =>
 zar 1 t29 (.bool true) H fun H =>
 zae false 1 t2 H fun t30 =>
 zad .add false t30 (.int .i64 1) fun t31 =>
 zar 1 t2 t31 H fun H =>
 zad .add false t9 (.int .i64 1) fun t32 =>
 Kb2 (zlr t1 t2 t7 t8 t32) H))
 (K (.bool true) H)
def zw3 (t0 t1 t2 : AV) (H : zaa) (K : Kt) : Prop :=
 zak 1 t0 fun t8 =>
 zw4 t1 t2 t0 t8 (.int .i64 0) H K
theorem zKs {t1 t2 t7 t8 t9 : AV} {H : zaa} {K : Kt} (Inv : Nat → AV → zaa → Prop) (n : Nat) (h0 : HSc H → Inv n t9 H)
  (round : Rd1 (fun t9 => zlr t1 t2 t7 t8 t9) (fun t9 => fun H Kb2 => zgk t1 t2 t7 t8 t9 H K Kb2) H Inv) : zw4 t1 t2 t7 t8 t9 H K :=
 lp1 (M := zlq) zKt t9 (by kernel_rfl) Inv n h0 round
theorem zKu {t0 t1 t2 : AV} {H : zaa} {K : Kt} (h : HSc H → zw3 t0 t1 t2 H K) : ACalls tP ziq [t0, t1, t2] H K :=
 zav (M := zlq) Try.func73 (c := zqv) (by kernel_rfl) (fun hs => Eq.mpr (by kernel_rfl) (h hs))
def zls : Nat → List Bool
 | 1 => rl false [1,2,4,3,8]
 | _ => []
noncomputable def zqx : Code := Try.f74.body.getD .skip
noncomputable def zKB : List ResultVar := Try.f74.results.toList
def zlt (t1 t2 t7 t8 t9 : AV) : List AV := ux 1 (t1 :: t2 :: ux 4 (t7 :: t8 :: t9 :: ux 8 []))
def zKz : List Bool := zls 1
noncomputable def zKx : Code := zao [1, 0, 0] zqx
def zKw (K : Kt) : AExit → List AV → zaa → Prop := zap tP zls [1, 0] zqx (zas tP zKB K)
def zw6 (t1 t2 t7 t8 t9 : AV) (H : zaa) (K : Kt) : Prop := ALoop tP zKx (zKw K) (zlt t1 t2 t7 t8 t9) H
def zqw (t1 t2 t7 t8 t9 : AV) (H : zaa) (K : Kt) (Kb1 : Lt) : Prop :=
 zad .lss false t9 t8 fun t10 =>
 zag t10
 (zaj 1 t7 t9 fun t11 =>
 zae false 1 t11 H fun t12 =>
 zae false 1 t2 H fun t13 =>
 zaj 1 t13 t12 fun t16 =>
 zar 1 t16 t1 H fun H =>
 zad .add false t9 (.int .i64 1) fun t17 =>
 Kb1 (zlt t1 t2 t7 t8 t17) H)
 (zaR [] (K · H))
def zw5 (t0 t1 t2 : AV) (H : zaa) (K : Kt) : Prop :=
 zak 1 t0 fun t8 =>
 zw6 t1 t2 t0 t8 (.int .i64 0) H K
theorem zKy {t1 t2 t7 t8 t9 : AV} {H : zaa} {K : Kt} (Inv : Nat → AV → zaa → Prop) (n : Nat) (h0 : HSc H → Inv n t9 H)
  (round : Rd1 (fun t9 => zlt t1 t2 t7 t8 t9) (fun t9 => fun H Kb1 => zqw t1 t2 t7 t8 t9 H K Kb1) H Inv) : zw6 t1 t2 t7 t8 t9 H K :=
 lp1 (M := zls) zKz t9 (by kernel_rfl) Inv n h0 round
theorem zKA {t0 t1 t2 : AV} {H : zaa} {K : Kt} (h : HSc H → zw5 t0 t1 t2 H K) : ACalls tP zeI [t0, t1, t2] H K :=
 zav (M := zls) Try.func74 (c := zqx) (by kernel_rfl) (fun hs => Eq.mpr (by kernel_rfl) (h hs))
def zfB : Nat → List Bool
 | 3 => rl false [2,3,2,1,10,3,46]
 | 9 => rl false [3,2,2,1,33,3,23]
 | 200011 => rl false [0,1]
 | 200014 => rl false [0,1]
 | _ => []
noncomputable def zhC : Code := Try.f75.body.getD .skip
noncomputable def zxa : List ResultVar := Try.f75.results.toList
def zlu (t2 t3 t4 t7 t18 t19 t20 : AV) : List AV := ux 2 (t2 :: t3 :: t4 :: ux 2 (t7 :: ux 10 (t18 :: t19 :: t20 :: ux 46 [])))
def zKI : List Bool := zfB 3
noncomputable def zKE : Code := zao [1, 1, 0, 1, 0, 0] zhC
def zKC (K : Kt) : AExit → List AV → zaa → Prop := zap tP zfB [1, 1, 0, 1, 0] zhC (zas tP zxa K)
def zw8 (t2 t3 t4 t7 t18 t19 t20 : AV) (H : zaa) (K : Kt) : Prop := ALoop tP zKE (zKC K) (zlu t2 t3 t4 t7 t18 t19 t20) H
def zlv (t3 t4 t7 t41 t42 t43 : AV) : List AV := ux 3 (t3 :: t4 :: ux 2 (t7 :: ux 33 (t41 :: t42 :: t43 :: ux 23 [])))
def zKJ : List Bool := zfB 9
noncomputable def zKF : Code := zao [1, 1, 1, 0, 1, 0, 0] zhC
def zKD (K : Kt) : AExit → List AV → zaa → Prop := zap tP zfB [1, 1, 1, 0, 1, 0] zhC (zas tP zxa K)
def zw9 (t3 t4 t7 t41 t42 t43 : AV) (H : zaa) (K : Kt) : Prop := ALoop tP zKF (zKD K) (zlv t3 t4 t7 t41 t42 t43) H
def zqy (t3 t4 t7 t41 t42 t43 : AV) (H : zaa) (K : Kt) (Kb9 : Lt) : Prop :=
 zad .lss false t43 t42 fun t44 =>
 zag t44
 (zaj 1 t41 t43 fun t46 =>
 zae false 1 t46 H fun t47 =>
 zac H (fun K' => zai false 1 t3 H (K' · H)) fun t48 =>
 zac H (fun K' => zaf 3 t7 (K' · H)) fun t49 =>
 zac H (fun K' => zai false 1 t49 H (K' · H)) fun t50 =>
 zac H (fun K' => K' t43 H) fun t51 =>
 zac H (fun K' => zaj 1 t50 t51 (K' · H)) fun t52 =>
 zac H (fun K' => zai false 1 t52 H (K' · H)) fun t53 =>
 zbo .w false H (fun K' => aCallV tP t48 [t53, (.bool true)] H K') fun t54 H =>
 zae false 1 t4 H fun t55 =>
 aCallV tP t55 [t47] H fun t57 H =>
 aUn .not t57 fun t58 =>
 zag t58
 (K (.bool false) H)
 (zac H (fun K' => zai false 1 t3 H (K' · H)) fun t59 =>
 zac H (fun K' => zaf 3 t7 (K' · H)) fun t60 =>
 zac H (fun K' => zai false 1 t60 H (K' · H)) fun t61 =>
 zac H (fun K' => K' t43 H) fun t62 =>
 zac H (fun K' => zaj 1 t61 t62 (K' · H)) fun t63 =>
 zac H (fun K' => zai false 1 t63 H (K' · H)) fun t64 =>
 zbo .w false H (fun K' => aCallV tP t59 [t64, (.bool false)] H K') fun t65 H =>
 zad .add false t43 (.int .i64 1) fun t66 =>
 Kb9 (zlv t3 t4 t7 t41 t42 t66) H))
 (K (.bool true) H)
def zgl (t2 t3 t4 t7 t18 t19 t20 : AV) (H : zaa) (K : Kt) (Kb3 : Lt) : Prop :=
 zad .lss false t20 t19 fun t21 =>
 zag t21
 (zaj 1 t18 t20 fun t22 =>
 zae false 1 t22 H fun t23 =>
 zad .lss false t23 (.int .i64 0) fun t25 =>
 zab t25 false H (fun K' => K' t23 H) fun t27 H =>
 zab t25 false H (fun K' => zae false 1 t2 H (K' · H)) fun t28 H =>
 zab t25 false H (fun K' => zak 1 t28 (K' · H)) fun t29 H =>
 zab t25 false H (fun K' => zad .geq false t27 t29 (K' · H)) fun t30 H =>
 zah t25 (.bool true) t30 fun t31 =>
 zab t31 false H (fun K' => zae false 1 t2 H (K' · H)) fun t33 H =>
 zab t31 false H (fun K' => K' t23 H) fun t34 H =>
 zab t31 false H (fun K' => zaj 1 t33 t34 (K' · H)) fun t35 H =>
 zab t31 false H (fun K' => zae false 1 t35 H (K' · H)) fun t36 H =>
 zab t31 false H (fun K' => aUn .not t36 (K' · H)) fun t37 H =>
 zah t31 (.bool true) t37 fun t38 =>
 zag t38
 (K (.bool false) H)
 (zad .add false t20 (.int .i64 1) fun t39 =>
 Kb3 (zlu t2 t3 t4 t7 t18 t19 t39) H))
 (zaf 4 t7 fun t40 =>
 zae false 1 t40 H fun t41 =>
 zak 1 t41 fun t42 =>
 zw9 t3 t4 t7 t41 t42 (.int .i64 0) H K)
def zw7 (t0 t1 t2 t3 t4 : AV) (H : zaa) (K : Kt) : Prop :=
 zaf 3 t1 fun t12 =>
 zae false 1 t12 H fun t13 =>
 zaj 8 t13 t0 fun t15 =>
 zae true 8 t15 H fun t16 =>
 zaA [(.int .i64 0), (.int .i64 0), .snil, .snil, .snil, (.int .i64 0), (.int .i64 0), .snil] H fun t7 H =>
 zar 8 t7 t16 H fun H =>
 zaf 2 t7 fun t17 =>
 zae false 1 t17 H fun t18 =>
 zak 1 t18 fun t19 =>
 zw8 t2 t3 t4 t7 t18 t19 (.int .i64 0) H K
theorem zKH {t3 t4 t7 t41 t42 t43 : AV} {H : zaa} {K : Kt} (Inv : Nat → AV → zaa → Prop) (n : Nat) (h0 : HSc H → Inv n t43 H)
  (round : Rd1 (fun t43 => zlv t3 t4 t7 t41 t42 t43) (fun t43 => fun H Kb9 => zqy t3 t4 t7 t41 t42 t43 H K Kb9) H Inv) : zw9 t3 t4 t7 t41 t42 t43 H K :=
 lp1 (M := zfB) zKJ t43 (by kernel_rfl) Inv n h0 round
theorem zKG {t2 t3 t4 t7 t18 t19 t20 : AV} {H : zaa} {K : Kt} (Inv : Nat → AV → zaa → Prop) (n : Nat) (h0 : HSc H → Inv n t20 H)
  (round : Rd1 (fun t20 => zlu t2 t3 t4 t7 t18 t19 t20) (fun t20 => fun H Kb3 => zgl t2 t3 t4 t7 t18 t19 t20 H K Kb3) H Inv) : zw8 t2 t3 t4 t7 t18 t19 t20 H K :=
 lp1 (M := zfB) zKI t20 (by kernel_rfl) Inv n h0 round
theorem zKK {t0 t1 t2 t3 t4 : AV} {H : zaa} {K : Kt} (h : HSc H → zw7 t0 t1 t2 t3 t4 H K) : ACalls tP zeJ [t0, t1, t2, t3, t4] H K :=
 zav (M := zfB) Try.func75 (c := zhC) (by kernel_rfl) (fun hs => Eq.mpr (by kernel_rfl) (h hs))
def zMh (_ : Nat) : List Bool := []
noncomputable def zMi : Code := Try.f91.body.getD .skip
def zlT (t0 t1 t2 : AV) (H : zaa) (K : Kt) : Prop :=
 zaD t0 H fun t3 H =>
 zad .lss false t1 (.int .i64 0) fun t8 =>
 zab t8 false H (fun K' => zaf 2 t3 (K' · H)) fun t10 H =>
 zab t8 false H (fun K' => zae false 1 t10 H (K' · H)) fun t11 H =>
 zab t8 false H (fun K' => zak 1 t11 (K' · H)) fun t12 H =>
 zab t8 false H (fun K' => K' t1 H) fun t13 H =>
 zab t8 false H (fun K' => zad .eql false t12 t13 (K' · H)) fun t14 H =>
 zah t8 (.bool true) t14 fun t15 =>
 zab t15 true H (fun K' => zaf 4 t3 (K' · H)) fun t17 H =>
 zab t15 true H (fun K' => zae false 1 t17 H (K' · H)) fun t18 H =>
 zab t15 true H (fun K' => zak 1 t18 (K' · H)) fun t19 H =>
 zab t15 true H (fun K' => K' t2 H) fun t20 H =>
 zab t15 true H (fun K' => zad .eql false t19 t20 (K' · H)) fun t21 H =>
 zah t15 t21 (.bool false) fun t22 =>
 K t22 H
theorem zMj {t0 t1 t2 : AV} {H : zaa} {K : Kt} (h : HSc H → zlT t0 t1 t2 H K) : ACalls tP zcs [t0, t1, t2] H K :=
 zav (M := zMh) Try.func91 (c := zMi) (by kernel_rfl) (fun hs => Eq.mpr (by kernel_rfl) (h hs))
def zMk (_ : Nat) : List Bool := []
noncomputable def zMl : Code := Try.f92.body.getD .skip
def zxH (t0 : AV) (H : zaa) (K : Kt) : Prop :=
 zaA [(.int .i64 0), (.int .i64 0), .snil] H fun t2 H =>
 zaI [(.int .i64 0), (.int .i64 0), .snil] [(0, 1), (1, 1), (2, 1)] [(0, t0)] fun t4 =>
 zar 3 t2 t4 H fun H =>
 zae true 3 t2 H fun r0 =>
 K r0 H
theorem zMm {t0 : AV} {H : zaa} {K : Kt} (h : HSc H → zxH t0 H K) : ACalls tP zct [t0] H K :=
 zav (M := zMk) Try.func92 (c := zMl) (by kernel_rfl) (fun hs => Eq.mpr (by kernel_rfl) (h hs))
def zMn (_ : Nat) : List Bool := []
noncomputable def zMo : Code := Try.f93.body.getD .skip
def zq4 (t0 t1 : AV) (H : zaa) (K : Kt) : Prop :=
 aUn .neg t1 fun t6 =>
 zad .leq false t6 t0 fun t8 =>
 zab t8 true H (fun K' => K' t0 H) fun t10 H =>
 zab t8 true H (fun K' => K' t1 H) fun t11 H =>
 zab t8 true H (fun K' => zad .leq false t10 t11 (K' · H)) fun t12 H =>
 zah t8 t12 (.bool false) fun t13 =>
 K t13 H
theorem zMp {t0 t1 : AV} {H : zaa} {K : Kt} (h : HSc H → zq4 t0 t1 H K) : ACalls tP ziw [t0, t1] H K :=
 zav (M := zMn) Try.func93 (c := zMo) (by kernel_rfl) (fun hs => Eq.mpr (by kernel_rfl) (h hs))
def zMq (_ : Nat) : List Bool := []
noncomputable def zMr : Code := Try.f94.body.getD .skip
def zxI (t0 t1 t2 : AV) (H : zaa) (K : Kt) : Prop :=
 ACalls tP zed [t0, t1] H fun t9 H =>
 ACalls tP ziv [t9, t2, (.fn zbG [])] H fun t11 H =>
 K t11 H
theorem zMs {t0 t1 t2 : AV} {H : zaa} {K : Kt} (h : HSc H → zxI t0 t1 t2 H K) : ACalls tP zcb [t0, t1, t2] H K :=
 zav (M := zMq) Try.func94 (c := zMr) (by kernel_rfl) (fun hs => Eq.mpr (by kernel_rfl) (h hs))
def zMt (_ : Nat) : List Bool := []
noncomputable def zMu : Code := Try.f95.body.getD .skip
def zxJ (t0 t1 : AV) (H : zaa) (K : Kt) : Prop :=
 zaA [(.int .i64 0), (.int .i64 0), .snil] H fun t4 H =>
 zaI [(.int .i64 0), (.int .i64 0), .snil] [(0, 1), (1, 1), (2, 1)] [(0, t0), (2, t1)] fun t7 =>
 zar 3 t4 t7 H fun H =>
 zae true 3 t4 H fun r0 =>
 K r0 H
theorem zMv {t0 t1 : AV} {H : zaa} {K : Kt} (h : HSc H → zxJ t0 t1 H K) : ACalls tP zec [t0, t1] H K :=
 zav (M := zMt) Try.func95 (c := zMu) (by kernel_rfl) (fun hs => Eq.mpr (by kernel_rfl) (h hs))
def zlU : Nat → List Bool
 | 3 => rl false [0,1,4,1,2,3,16]
 | _ => []
noncomputable def zq6 : Code := Try.f96.body.getD .skip
noncomputable def zMB : List ResultVar := Try.f96.results.toList
def zlV (t0 t5 t8 t9 t10 : AV) : List AV := t0 :: ux 4 (t5 :: ux 2 (t8 :: t9 :: t10 :: ux 16 []))
def zMz : List Bool := zlU 3
noncomputable def zMx : Code := zao [1, 1, 0, 1, 0, 0] zq6
def zMw (K : Kt) : AExit → List AV → zaa → Prop := zap tP zlU [1, 1, 0, 1, 0] zq6 (zas tP zMB K)
def zxL (t0 t5 t8 t9 t10 : AV) (H : zaa) (K : Kt) : Prop := ALoop tP zMx (zMw K) (zlV t0 t5 t8 t9 t10) H
def zq5 (t0 t5 t8 t9 t10 : AV) (H : zaa) (K : Kt) (Kb3 : Lt) : Prop :=
 zad .lss false t10 t9 fun t11 =>
 zag t11
 (zaj 1 t8 t10 fun t12 =>
 zae false 1 t12 H fun t13 =>
 za1 t0 fun t16 =>
 zaf 0 t16 fun t17 =>
 zaf 2 t17 fun t18 =>
 zae false 1 t18 H fun t19 =>
 zaj 3 t19 t13 fun t21 =>
 zae true 3 t21 H fun t22 =>
 zaz 3 [(.int .i64 0), (.int .i64 0), .snil] 1 [(0, t22)] fun t23 =>
 zaH zaB 3 40 t5 t23 H fun t24 H =>
 zad .add false t10 (.int .i64 1) fun t25 =>
 Kb3 (zlV t0 t24 t8 t9 t25) H)
 (K t5 H)
def zxK (t0 t1 : AV) (H : zaa) (K : Kt) : Prop :=
 zak 1 t1 fun t9 =>
 zxL t0 .snil t1 t9 (.int .i64 0) H K
theorem zMy {t0 t5 t8 t9 t10 : AV} {H : zaa} {K : Kt} (Inv : Nat → AV → AV → zaa → Prop) (n : Nat) (h0 : HSc H → Inv n t5 t10 H)
  (round : Rd2 (fun t5 => fun t10 => zlV t0 t5 t8 t9 t10) (fun t5 => fun t10 => fun H Kb3 => zq5 t0 t5 t8 t9 t10 H K Kb3) H Inv) : zxL t0 t5 t8 t9 t10 H K :=
 lp2 (M := zlU) zMz t5 t10 (by kernel_rfl) Inv n h0 round
theorem zMA {t0 t1 : AV} {H : zaa} {K : Kt} (h : HSc H → zxK t0 t1 H K) : ACalls tP zed [t0, t1] H K :=
 zav (M := zlU) Try.func96 (c := zq6) (by kernel_rfl) (fun hs => Eq.mpr (by kernel_rfl) (h hs))
def zCG (_ : Nat) : List Bool := []
noncomputable def zCH : Code := Try.f106.body.getD .skip
def zua (t0 t1 : AV) (H : zaa) (K : Kt) : Prop :=
 zaD t0 H fun t2 H =>
 zaf 3 t2 fun t5 =>
 zae false 1 t5 H fun t6 =>
 ACalls tP zsG [t6, t1, (.fn zm0 [])] H fun t8 H =>
 K t8 H
theorem zCI {t0 t1 : AV} {H : zaa} {K : Kt} (h : HSc H → zua t0 t1 H K) : ACalls tP zgP [t0, t1] H K :=
 zav (M := zCG) Try.func106 (c := zCH) (by kernel_rfl) (fun hs => Eq.mpr (by kernel_rfl) (h hs))
def zCJ (_ : Nat) : List Bool := []
noncomputable def zCK : Code := Try.f107.body.getD .skip
def zub (t0 t1 t2 : AV) (H : zaa) (K : Kt) : Prop :=
 zaD t1 H fun t4 H =>
 zaA [(.int .i64 0), (.int .i64 0), .snil] H fun t6 H =>
 zac H (fun K' => K' t0 H) fun t7 =>
 zac H (fun K' => za1 t7 (K' · H)) fun t8 =>
 zac H (fun K' => zaf 0 t8 (K' · H)) fun t9 =>
 zac H (fun K' => zaf 3 t9 (K' · H)) fun t10 =>
 zac H (fun K' => zai false 1 t10 H (K' · H)) fun t11 =>
 zac H (fun K' => zaf 4 t4 (K' · H)) fun t12 =>
 zac H (fun K' => zai false 1 t12 H (K' · H)) fun t13 =>
 zac H (fun K' => K' t2 H) fun t14 =>
 zac H (fun K' => zaj 1 t13 t14 (K' · H)) fun t15 =>
 zac H (fun K' => zai false 1 t15 H (K' · H)) fun t16 =>
 zac H (fun K' => zaj 8 t11 t16 (K' · H)) fun t17 =>
 zac H (fun K' => zaf 5 t17 (K' · H)) fun t18 =>
 zac H (fun K' => zai true 3 t18 H (K' · H)) fun t19 =>
 zar 3 t6 t19 H fun H =>
 zae true 3 t6 H fun r0 =>
 K r0 H
theorem zCL {t0 t1 t2 : AV} {H : zaa} {K : Kt} (h : HSc H → zub t0 t1 t2 H K) : ACalls tP zh8 [t0, t1, t2] H K :=
 zav (M := zCJ) Try.func107 (c := zCK) (by kernel_rfl) (fun hs => Eq.mpr (by kernel_rfl) (h hs))
def zi7 : Nat → List Bool
 | 2 => rl false [0,1,3,1,2,1,16]
 | _ => []
noncomputable def zon : Code := Try.f108.body.getD .skip
noncomputable def zCR : List ResultVar := Try.f108.results.toList
def zi8 (t0 t4 t7 : AV) : List AV := t0 :: ux 3 (t4 :: ux 2 (t7 :: ux 16 []))
def zCP : List Bool := zi7 2
noncomputable def zCN : Code := zao [1, 0, 1, 0, 0] zon
def zCM (K : Kt) : AExit → List AV → zaa → Prop := zap tP zi7 [1, 0, 1, 0] zon (zas tP zCR K)
def zud (t0 t4 t7 : AV) (H : zaa) (K : Kt) : Prop := ALoop tP zCN (zCM K) (zi8 t0 t4 t7) H
def zom (t0 t4 t7 : AV) (H : zaa) (K : Kt) (Kb2 : Lt) : Prop :=
 zaf 4 t4 fun t10 =>
 zae false 1 t10 H fun t11 =>
 zak 1 t11 fun t12 =>
 zad .lss false t7 t12 fun t13 =>
 zag t13
 (zac H (fun K' => K' t0 H) fun t16 =>
 zac H (fun K' => zai true 8 t4 H (K' · H)) fun t17 =>
 zac H (fun K' => K' t7 H) fun t18 =>
 zau H (fun H K' => ACalls tP zh8 [t16, t17, t18] H K') fun t19 =>
 zac H (fun K' => zaf 5 t4 (K' · H)) fun t20 =>
 zac H (fun K' => zai true 3 t20 H (K' · H)) fun t21 =>
 zau H (fun H K' => ACalls tP zbG [t19, t21] H K') fun t22 =>
 zac H (fun K' => aUn .not t22 (K' · H)) fun t23 =>
 zag t23
 (K (.bool false) H)
 (zad .add false t7 (.int .i64 1) fun t15 =>
 Kb2 (zi8 t0 t4 t15) H))
 (K (.bool true) H)
def zuc (t0 t1 t2 : AV) (H : zaa) (K : Kt) : Prop :=
 zaD t1 H fun t4 H =>
 zud t0 t4 t2 H K
theorem zCO {t0 t4 t7 : AV} {H : zaa} {K : Kt} (Inv : Nat → AV → zaa → Prop) (n : Nat) (h0 : HSc H → Inv n t7 H)
  (round : Rd1 (fun t7 => zi8 t0 t4 t7) (fun t7 => fun H Kb2 => zom t0 t4 t7 H K Kb2) H Inv) : zud t0 t4 t7 H K :=
 lp1 (M := zi7) zCP t7 (by kernel_rfl) Inv n h0 round
theorem zCQ {t0 t1 t2 : AV} {H : zaa} {K : Kt} (h : HSc H → zuc t0 t1 t2 H K) : ACalls tP zdG [t0, t1, t2] H K :=
 zav (M := zi7) Try.func108 (c := zon) (by kernel_rfl) (fun hs => Eq.mpr (by kernel_rfl) (h hs))
def zjy : Nat → List Bool
 | 4 => rl false [1,2,12,3,14]
 | _ => []
noncomputable def zoQ : Code := Try.f127.body.getD .skip
noncomputable def zEz : List ResultVar := Try.f127.results.toList
def zjz (t1 t2 t15 t16 t17 : AV) : List AV := ux 1 (t1 :: t2 :: ux 12 (t15 :: t16 :: t17 :: ux 14 []))
def zEx : List Bool := zjy 4
noncomputable def zEv : Code := zao [1, 1, 0, 1, 0, 0] zoQ
def zEu (K : Kt) : AExit → List AV → zaa → Prop := zap tP zjy [1, 1, 0, 1, 0] zoQ (zas tP zEz K)
def zuF (t1 t2 t15 t16 t17 : AV) (H : zaa) (K : Kt) : Prop := ALoop tP zEv (zEu K) (zjz t1 t2 t15 t16 t17) H
def zoP (t1 t2 t15 t16 t17 : AV) (H : zaa) (K : Kt) (Kb4 : Lt) : Prop :=
 zad .lss false t17 t16 fun t18 =>
 zag t18
 (zaj 1 t15 t17 fun t20 =>
 zae false 1 t20 H fun t21 =>
 zaj 1 t1 t17 fun t24 =>
 zae false 1 t24 H fun t25 =>
 aCallV tP t2 [t21, t25] H fun t29 H =>
 aUn .not t29 fun t30 =>
 zag t30
 (K (.bool false) H)
 (zad .add false t17 (.int .i64 1) fun t31 =>
 Kb4 (zjz t1 t2 t15 t16 t31) H))
 (K (.bool true) H)
def zoO (t0 t1 t2 : AV) (H : zaa) (K : Kt) : Prop :=
 zak 1 t0 fun t11 =>
 zak 1 t1 fun t13 =>
 zad .neq false t11 t13 fun t14 =>
 zag t14
 (K (.bool false) H)
 (zak 1 t0 fun t16 =>
 zuF t1 t2 t0 t16 (.int .i64 0) H K)
theorem zEw {t1 t2 t15 t16 t17 : AV} {H : zaa} {K : Kt} (Inv : Nat → AV → zaa → Prop) (n : Nat) (h0 : HSc H → Inv n t17 H)
  (round : Rd1 (fun t17 => zjz t1 t2 t15 t16 t17) (fun t17 => fun H Kb4 => zoP t1 t2 t15 t16 t17 H K Kb4) H Inv) : zuF t1 t2 t15 t16 t17 H K :=
 lp1 (M := zjy) zEx t17 (by kernel_rfl) Inv n h0 round
theorem zEy {t0 t1 t2 : AV} {H : zaa} {K : Kt} (h : HSc H → zoO t0 t1 t2 H K) : ACalls tP zsG [t0, t1, t2] H K :=
 zav (M := zjy) Try.func127 (c := zoQ) (by kernel_rfl) (fun hs => Eq.mpr (by kernel_rfl) (h hs))
def zEA (_ : Nat) : List Bool := []
noncomputable def zEB : Code := Try.f128.body.getD .skip
def zuG (t0 t1 : AV) (H : zaa) (K : Kt) : Prop :=
 zak 1 t0 fun t6 =>
 zad .eql false t6 t1 fun t8 =>
 K t8 H
theorem zEC {t0 t1 : AV} {H : zaa} {K : Kt} (h : HSc H → zuG t0 t1 H K) : ACalls tP zm0 [t0, t1] H K :=
 zav (M := zEA) Try.func128 (c := zEB) (by kernel_rfl) (fun hs => Eq.mpr (by kernel_rfl) (h hs))
def zDV (_ : Nat) : List Bool := []
noncomputable def zDX : Code := Try.f13.body.getD .skip
def zun (t0 : AV) (H : zaa) (K : Kt) : Prop :=
 zaD t0 H fun t1 H =>
 zaf 0 t1 fun t3 =>
 zae false 1 t3 H fun t4 =>
 ACalls tP zm9 [t4] H fun t5 H =>
 zab t5 true H (fun K' => zae true 4 t1 H (K' · H)) fun t7 H =>
 zab t5 true H (fun K' => ACalls tP zna [t7] H K') fun t8 H =>
 zah t5 t8 (.bool false) fun t9 =>
 zab t9 true H (fun K' => zae true 4 t1 H (K' · H)) fun t11 H =>
 zab t9 true H (fun K' => ACalls tP znb [t11] H K') fun t12 H =>
 zah t9 t12 (.bool false) fun t13 =>
 zab t13 true H (fun K' => zae true 4 t1 H (K' · H)) fun t15 H =>
 zab t13 true H (fun K' => ACalls tP znc [t15] H K') fun t16 H =>
 zah t13 t16 (.bool false) fun t17 =>
 zab t17 true H (fun K' => zae true 4 t1 H (K' · H)) fun t19 H =>
 zab t17 true H (fun K' => ACalls tP znd [t19] H K') fun t20 H =>
 zah t17 t20 (.bool false) fun t21 =>
 zab t21 true H (fun K' => zae true 4 t1 H (K' · H)) fun t23 H =>
 zab t21 true H (fun K' => ACalls tP zne [t23] H K') fun t24 H =>
 zah t21 t24 (.bool false) fun t25 =>
 zab t25 true H (fun K' => zae true 4 t1 H (K' · H)) fun t27 H =>
 zab t25 true H (fun K' => ACalls tP znf [t27] H K') fun t28 H =>
 zah t25 t28 (.bool false) fun t29 =>
 K t29 H
theorem zDY {t0 : AV} {H : zaa} {K : Kt} (h : HSc H → zun t0 H K) : ACalls tP zia [t0] H K :=
 zav (M := zDV) Try.func13 (c := zDX) (by kernel_rfl) (fun hs => Eq.mpr (by kernel_rfl) (h hs))
end Go.Proofs.Ytkdmpbhbmmhijaa
namespace Go.Proofs.Ytkdmpbhbmmhijaa
open Go Go.Abs
set_option maxRecDepth 8000
def zd3 (data : List Dat) (d : Nat) (vars : Int) (t : VT) : Bool := zax (data.take (d + 1)) vars t && (zcf d vars t || !zci d t)
theorem zKa (data : List Dat) (d : Nat) (c : Nat) (hd : d < data.length) (hc : c < (data[d]).cons.length) (hl : data.length ≤ 1000000) (hcl : (data[d]).cons.length ≤ 1000000) (hal : ((data[d]).cons[c]).args.length ≤ 1000000)
  (hb : ∀ x ∈ ((data[d]).cons[c]).args, x.nodes ≤ 1000000) (H : zaa) (K : AV → zaa → Prop)
  (hK : K (.bool (decide (((data[d]).cons[c]).args.length ≤ 6) && ((data[d]).cons[c]).args.all (zd3 data d (data[d]).vars))) H) :
  ACalls tP zni [.sl (data.map Dat.cs) .none, .int .i64 d, .int .i64 c] H K := by
 refine ACalls.out (zJ8 fun hs => ?_)
 have e1 : (data.map Dat.cs)[d]? = some (data[d]).cs := by simp [hd]
 have e2 : ((data[d]).cons.map Con.cs)[c]? = some ((data[d]).cons[c]).cs := by simp [hc]
 have hrec := zLM data d c hd hc hl hcl hal hb
 generalize hD : data[d] = D at *
 generalize hA : D.cons[c] = C at *
 have hO : ∀ J, Out H.length K (.bool (decide (C.args.length ≤ 6) && C.args.all (zd3 data d D.vars))) (H ++ J) := fun J => Out.bool rfl (Nat.le_refl _) hs hK
 simp [zwX, e1, e2, Dat.cs, Con.cs, hd, hD, hc, hA]
 by_cases h6 : C.args.length ≤ 6
 ·have h6' : ¬ (6 : Int) < C.args.length := by omega
  have h6'' : ¬ 6 < C.args.length := by omega
  simp [h6', h6'']
  refine hrec _ _ ?_
  simp [h6] at hO
  refine zJ6 (Inv := fun q t29 H' => ∃ i : Nat, i ≤ C.args.length ∧ q = C.args.length - i ∧ t29 = .int .i64 i ∧ (C.args.drop i).all (zd3 data d D.vars) = C.args.all (zd3 data d D.vars) ∧ H = H') C.args.length ?_ ?_
  ·intro _; exact ⟨0, by omega, by omega, rfl, by simp, rfl⟩
  ·rintro q t29 H' ⟨i, hi, rfl, rfl, ho, rfl⟩ hsc hlen hsF Kb hKb
   by_cases hlt : i < C.args.length
   ·rw [List.drop_eq_getElem_cons hlt, List.all_cons] at ho
    have hnb := hb _ (List.getElem_mem hlt)
    obtain ⟨x1, x2, x3, hvx, hx1, hx2, hx3⟩ := zcO C.args[i]
    simp [zqs, hlt, hvx, e1, hd, hD, Dat.cs]
    refine ⟨⟨hx1, hx2, hx3⟩, ?_⟩
    rw [zaq (by omega) (by omega), show ((d : Int) + 1).toNat = d + 1 by omega, ← List.map_take]
    refine ⟨by omega, by omega, ?_⟩
    rw [← hvx]
    refine zaw (.bool (zax (data.take (d + 1)) D.vars C.args[i])) (fun J => zlo (data.take (d + 1)) D.vars _ (by omega) _ _ ⟨rfl, rfl⟩) ?_
    have hao : zd3 data d D.vars C.args[i] = (zax (data.take (d + 1)) D.vars C.args[i] && (zcf d D.vars C.args[i] || !zci d C.args[i])) := rfl
    rw [hao] at ho
    cases hv : zax (data.take (d + 1)) D.vars C.args[i] with
    | false =>
     rw [hv] at ho
     simp only [Bool.false_and] at ho
     rw [← ho] at hO
     simp; exact hO _
    | true =>
    rw [hv] at ho
    cases hsf : zcf d D.vars C.args[i] with
    | true =>
     rw [hsf] at ho
     simp [hlt, hsf]
     rw [zaq (by omega) (by omega)]
     refine hKb _ _ ⟨C.args.length - (i + 1), by omega, Back.same (by simp) hs ?_ ⟨_, rfl, i + 1, by omega, rfl, by simp, by simpa using ho, rfl⟩⟩
     simp [zhB, AV.sc, AV.scV, AV.scA, AV.scB]
    | false =>
     rw [hsf] at ho
     simp [hlt, hsf]
     refine zaw (.bool (zci d C.args[i])) (fun J => zLQ d _ _ (Nat.le_refl _) (by omega) _ _ ⟨rfl, rfl⟩) ?_
     cases hm : zci d C.args[i] with
     | true =>
      rw [hm] at ho
      simp only [Bool.not_true, Bool.or_false, Bool.and_false, Bool.false_and] at ho
      rw [← ho] at hO
      simp; exact hO _
     | false =>
      rw [hm] at ho
      simp
      rw [zaq (by omega) (by omega)]
      refine hKb _ _ ⟨C.args.length - (i + 1), by omega, Back.same (by simp) hs ?_ ⟨_, rfl, i + 1, by omega, rfl, by simp, by simpa using ho, rfl⟩⟩
      simp [zhB, AV.sc, AV.scV, AV.scA, AV.scB]
   ·obtain rfl : i = C.args.length := by omega
    rw [List.drop_length, List.all_nil] at ho
    rw [← ho] at hO
    simp [zqs]
    simpa using hO []
 ·have h6' : (6 : Int) < C.args.length := by omega
  have h6'' : 6 < C.args.length := by omega
  simp [h6', h6'']
  simp [h6] at hO
  simpa using hO []
def zbk (l : List (List UInt8)) : List (List UInt8 × AV) := l.map fun s => (s, .bool true)
theorem zdM (s : List UInt8) : ∀ l : List (List UInt8), (zb4 (zbk l) s).getD (.bool false) = .bool (decide (s ∈ l))
 | [] => by simp [zbk, zb4]
 | a :: l => by
  have := zdM s l
  cases h : a == s with
  | true =>
   have h' : a = s := by simpa using h
   simp [zbk, zb4, h, h']
  | false =>
   have h' : a ≠ s := by simpa using h
   have h'' : s ≠ a := fun e => h' e.symm
   simp only [zbk, List.map_cons, zb4, h] at this ⊢
   rw [this]; simp [h'']
theorem znQ (s : List UInt8) : ∀ l : List (List UInt8), s ∉ l → zcB (zbk l) s (.bool true) = zbk (l ++ [s])
 | [], _ => rfl
 | a :: l, h => by
  have h1 : (a == s) = false := by simp at h; simpa using fun e => h.1 e.symm
  have := znQ s l (by simp at h; exact h.2)
  simp only [zbk, List.map_cons, zcB, h1, List.cons_append] at this ⊢
  rw [this]
theorem zti (m : Nat) (l : List (List UInt8)) : (AB.map (zbk l)).sc m = true := by simp [AB.sc, zbk, AV.scV]
def zbs (data : List Dat) : List (List UInt8) := data.map Dat.name
def zaP (data : List Dat) : List (List UInt8) := data.flatMap fun D => D.cons.map Con.name
def zdi (data : List Dat) (d : Nat) (vars : Int) (c : Con) : Bool := zcN c.name && (decide (c.args.length ≤ 6) && c.args.all (zd3 data d vars))
def zcS (data : List Dat) (d : Nat) (D : Dat) : Bool := zcN D.name && decide (0 ≤ D.vars) && decide (D.vars ≤ 6) && decide (1 ≤ D.cons.length) && decide (D.cons.length ≤ 8) && D.cons.all (zdi data d D.vars)
def zda (data : List Dat) : List Dat → Nat → Bool
 | [], _ => true
 | D :: l, d => zcS data d D && zda data l (d + 1)
def zcn (data : List Dat) : Bool := decide (data.length ≤ 12) && zda data data 0 && !zb0 (zbs data) && !zb0 (zaP data)
theorem ztb {A R : List (List UInt8)} {s : List UInt8} (h : s ∈ A) : zb0 (A ++ s :: R) = true := by
 simp only [zb0, Bool.not_eq_true', decide_eq_false_iff_not, List.nodup_append]
 rintro ⟨_, _, h3⟩
 exact h3 s h s (by simp) rfl
theorem ziG {l : List (List UInt8)} (h : l.Nodup) : zb0 l = false := by simp [zb0, h]
theorem zsN {A : List (List UInt8)} {s : List UInt8} (h : A.Nodup) (hs : s ∉ A) : (A ++ [s]).Nodup := by
 rw [List.nodup_append]
 refine ⟨h, by simp, ?_⟩
 intro a ha b hb
 simp at hb; subst hb
 exact fun e => hs (e ▸ ha)
def zrp (data : List Dat) : Prop := ∀ D ∈ data, D.cons.length ≤ 1000000 ∧ ∀ c ∈ D.cons, c.args.length ≤ 1000000 ∧ ∀ x ∈ c.args, x.nodes ≤ 1000000
theorem zGY (data : List Dat) (hB : zrp data) (hl : data.length ≤ 1000000) (H : zaa) (K : AV → zaa → Prop) (hK : K (.bool (zcn data)) H) : ACalls tP zm9 [.sl (data.map Dat.cs) .none] H K := by
 refine ACalls.out (zGW fun hs => ?_)
 have hO : ∀ J, Out H.length K (.bool (zcn data)) (H ++ J) := fun J => Out.bool rfl (Nat.le_refl _) hs hK
 by_cases h12 : data.length ≤ 12
 ·have h12' : ¬ (12 : Int) < data.length := by omega
  have h12'' : ¬ 12 < data.length := by omega
  have hD0 : zda data data 0 = false → ∀ J, Out H.length K (.bool false) (H ++ J) := fun h J => by
   have := hO J; rwa [show zcn data = false by simp [zcn, h]] at this
  have hD1 : zb0 (zbs data) = true → ∀ J, Out H.length K (.bool false) (H ++ J) := fun h J => by
   have := hO J; rwa [show zcn data = false by simp [zcn, h]] at this
  have hD2 : zb0 (zaP data) = true → ∀ J, Out H.length K (.bool false) (H ++ J) := fun h J => by
   have := hO J; rwa [show zcn data = false by simp [zcn, h]] at this
  simp [zpB, h12', h12'']
  refine zGU (Inv := fun q t15 H' => ∃ i : Nat, i ≤ data.length ∧ q = data.length - i ∧ t15 = .int .i64 i ∧ zda data (data.drop i) i = zda data data 0 ∧ (zbs (data.take i)).Nodup ∧ (zaP (data.take i)).Nodup ∧ H' = H ++ [.map (zbk (zbs (data.take i))), .map (zbk (zaP (data.take i)))]) data.length ?_ ?_
  ·intro _; exact ⟨0, by omega, by omega, rfl, by simp, by simp [zbs], by simp [zaP], by simp [zbs, zaP, zbk]⟩
  ·rintro q t15 H' ⟨i, hi, rfl, rfl, ho, hdn, hcn, rfl⟩ hsc hlen hsF Kb hKb
   by_cases hlt : i < data.length
   ·have e1 : (data.map Dat.cs)[i]? = some (data[i]).cs := by simp [hlt]
    obtain ⟨hB1, hB2⟩ := hB _ (List.getElem_mem hlt)
    have hargs := fun c hc => zKa data i c hlt hc hl hB1 (hB2 _ (List.getElem_mem hc)).1 (hB2 _ (List.getElem_mem hc)).2
    rw [List.drop_eq_getElem_cons hlt, zda] at ho
    have htk : data.take (i + 1) = data.take i ++ [data[i]] := by rw [List.take_append_getElem hlt]
    have hsplit : data = data.take i ++ data[i] :: data.drop (i + 1) := by rw [List.getElem_cons_drop, List.take_append_drop]
    generalize hD : data[i] = D at *
    have hbad : zcS data i D = false → zda data data 0 = false := fun h => by rw [← ho, h, Bool.false_and]
    have hno : ∀ J, zcS data i D = false → Out H.length K (.bool false) (H ++ [.map (zbk (zbs (data.take i))), .map (zbk (zaP (data.take i)))] ++ J) := fun J h => by
     rw [List.append_assoc]; exact hD0 (hbad h) _
    simp [zpD, hlt, e1, hD, Dat.cs]
    refine zwW _ _ _ ?_
    cases hu : zcN D.name with
    | false => simp; exact hD0 (hbad (by simp [zcS, hu])) _
    | true =>
    by_cases hmem : D.name ∈ zbs (data.take i)
    ·simp [hlt, e1, hD, Dat.cs, zdM, hmem]
     refine hD1 ?_ _
     rw [hsplit]; simp only [zbs, List.map_append, List.map_cons]
     exact ztb hmem
    by_cases hv0 : D.vars < 0
    ·simp [hlt, e1, hD, Dat.cs, zdM, hmem, hv0]
     exact hD0 (hbad (by simp [zcS, show ¬ 0 ≤ D.vars by omega])) _
    by_cases hv6 : 6 < D.vars
    ·simp [hlt, e1, hD, Dat.cs, zdM, hmem, hv0, hv6]
     exact hD0 (hbad (by simp [zcS, show ¬ D.vars ≤ 6 by omega])) _
    simp [hlt, e1, hD, Dat.cs, zdM, hmem, hv0, hv6, znQ _ _ hmem]
    by_cases hc1 : D.cons.length < 1
    ·have hc1' : (D.cons.length : Int) < 1 := by omega
     simp [hc1']
     exact hD0 (hbad (by simp [zcS, show ¬ 1 ≤ D.cons.length by omega])) _
    have hc1' : ¬ (D.cons.length : Int) < 1 := by omega
    by_cases hc8 : 8 < D.cons.length
    ·have hc8' : (8 : Int) < D.cons.length := by omega
     simp [hlt, e1, hD, Dat.cs, hc1', hc8', hc8]
     exact hD0 (hbad (by simp [zcS, show ¬ D.cons.length ≤ 8 by omega])) _
    have hc8' : ¬ (8 : Int) < D.cons.length := by omega
    have hdat : zcS data i D = D.cons.all (zdi data i D.vars) := by
     simp [zcS, hu, show 0 ≤ D.vars by omega, show D.vars ≤ 6 by omega, show 1 ≤ D.cons.length by omega, show D.cons.length ≤ 8 by omega]
    simp [hlt, e1, hD, Dat.cs, hc1', hc8', hc8]
    have hdn' : (zbs (data.take (i + 1))).Nodup := by
     rw [htk]; simp only [zbs, List.map_append, List.map_cons, List.map_nil]; exact zsN hdn hmem
    have hde : zbs (data.take i) ++ [D.name] = zbs (data.take (i + 1)) := by rw [htk]; simp [zbs]
    rw [hde]
    refine zGT (Inv := fun q t78 H' => ∃ j : Nat, j ≤ D.cons.length ∧ q = D.cons.length - j ∧ t78 = .int .i64 j ∧ (D.cons.drop j).all (zdi data i D.vars) = D.cons.all (zdi data i D.vars) ∧ (zaP (data.take i) ++ (D.cons.take j).map Con.name).Nodup ∧ H' = H ++ [.map (zbk (zbs (data.take (i + 1)))), .map (zbk (zaP (data.take i) ++ (D.cons.take j).map Con.name))]) D.cons.length ?_ ?_
    ·intro _; exact ⟨0, by omega, by omega, rfl, by simp, by simpa using hcn, by simp⟩
    ·rintro q t78 H' ⟨j, hj, rfl, rfl, hoc, hcj, rfl⟩ hsc1 hlen1 hsF1 Kb1 hKb1
     have hscH : ∀ A B, HSc (H ++ [.map (zbk A), .map (zbk B)]) := fun A B => hs.append (by simp [zti])
     by_cases hjl : j < D.cons.length
     ·have e2 : (D.cons.map Con.cs)[j]? = some (D.cons[j]).cs := by simp [hjl]
      have hargs' := hargs j hjl
      rw [List.drop_eq_getElem_cons hjl, List.all_cons] at hoc
      have htj : zaP (data.take i) ++ (D.cons.take (j + 1)).map Con.name = (zaP (data.take i) ++ (D.cons.take j).map Con.name) ++ [(D.cons[j]).name] := by
       rw [← List.take_append_getElem hjl, List.map_append, List.append_assoc]; rfl
      have hcs : zaP data = (zaP (data.take i) ++ (D.cons.take j).map Con.name) ++ (D.cons[j]).name :: ((D.cons.drop (j + 1)).map Con.name ++ zaP (data.drop (i + 1))) := by
       have h1 : D.cons.map Con.name = (D.cons.take j).map Con.name ++ (D.cons[j]).name :: (D.cons.drop (j + 1)).map Con.name := by
        rw [← List.map_cons (f := Con.name), List.getElem_cons_drop, ← List.map_append, List.take_append_drop]
       conv => lhs; rw [hsplit]
       simp only [zaP, List.flatMap_append, List.flatMap_cons, List.append_assoc, h1, List.cons_append]
      generalize hC : D.cons[j] = C at *
      have hbad' : zdi data i D.vars C = false → zda data data 0 = false := fun h => hbad (by rw [hdat, ← hoc, h, Bool.false_and])
      generalize hA : zaP (data.take i) ++ (D.cons.take j).map Con.name = A at *
      simp only [zpC]
      simp [hjl, hC, Con.cs, Nat.add_assoc]
      refine zwW _ _ _ ?_
      cases hu2 : zcN C.name with
      | false => simp; exact hD0 (hbad' (by simp [zdi, hu2])) _
      | true =>
      by_cases hm2 : C.name ∈ A
      ·simp [zdM, hm2]
       exact hD2 (by rw [hcs]; exact ztb hm2) _
      ·simp [zdM, hm2]
       refine hargs' _ _ ?_
       have hce : zdi data i D.vars C = (decide (C.args.length ≤ 6) && C.args.all (zd3 data i D.vars)) := by simp [zdi, hu2]
       rw [← hce]
       cases hco : zdi data i D.vars C with
       | false => simp; exact hD0 (hbad' hco) _
       | true =>
        rw [hco, Bool.true_and] at hoc
        simp [znQ _ _ hm2]
        rw [zaq (by omega) (by omega)]
        refine hKb1 _ _ ⟨D.cons.length - (j + 1), by omega, Back.at (J := [.cells [.str C.name, .sl (VT.css C.args) .none]]) (H2 := H ++ [.map (zbk (zbs (data.take (i + 1)))), .map (zbk (A ++ [C.name]))]) (by simp) (by simp) (hscH _ _) ?_ ⟨_, rfl, j + 1, by omega, rfl, by simp, hoc, ?_, ?_⟩⟩
        ·simp [zkp, AV.sc, AV.scV, AV.scA, AV.scB]
        ·rw [htj]; exact zsN hcj hm2
        ·rw [htj]
     ·obtain rfl : j = D.cons.length := by omega
      rw [List.drop_length, List.all_nil] at hoc
      rw [List.take_length] at *
      simp [zpC]
      rw [zaq (by omega) (by omega)]
      have hce : zaP (data.take i) ++ D.cons.map Con.name = zaP (data.take (i + 1)) := by rw [htk]; simp [zaP]
      rw [hce] at hcj ⊢
      refine hKb _ _ ⟨data.length - (i + 1), by omega, Back.at (J := []) (by simp) (by simp) (hscH _ _) ?_ ⟨_, rfl, i + 1, by omega, rfl, by simp, ?_, hdn', hcj, rfl⟩⟩
      ·simp [zkq, AV.sc, AV.scV, AV.scA, AV.scB]
      ·rw [← ho, hdat, ← hoc, Bool.true_and]
   ·obtain rfl : i = data.length := by omega
    rw [List.drop_length, zda] at ho
    rw [List.take_length] at *
    simp [zpD]
    have := hO [.map (zbk (zbs data)), .map (zbk (zaP data))]
    rwa [show zcn data = true by simp [zcn, h12, ← ho, ziG hdn, ziG hcn]] at this
 ·have h12' : (12 : Int) < data.length := by omega
  have h12'' : 12 < data.length := by omega
  rw [show zcn data = false by simp [zcn, h12]] at hO
  simp [zpB, h12', h12'']
  simpa using hO []
end Go.Proofs.Ytkdmpbhbmmhijaa
