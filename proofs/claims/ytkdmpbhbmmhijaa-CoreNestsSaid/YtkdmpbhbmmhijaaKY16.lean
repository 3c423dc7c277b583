import Derived.Test.YtkdmpbhbmmhijaaKNum
import Derived.Test.YtkdmpbhbmmhijaaProg
import Derived.KernelRfl
import Derived.Test.YtkdmpbhbmmhijaaKY14
set_option linter.unusedSimpArgs false
set_option linter.unusedVariables false
namespace Go.Proofs.Ytkdmpbhbmmhijaa
open Go Go.Abs
set_option maxRecDepth 100000
def ze4 : Nat → List Bool
 | 5 => rl false [0,1,2,2,9,2,89]
 | 13 => rl false [0,1,2,3,8,2,60,3,26]
 | _ => []
noncomputable def zon : Code := Try.f41.body.getD .skip
noncomputable def zEm : List ResultVar := Try.f41.results.toList
def zjz (t0 t3 t4 t14 t15 : AV) : List AV := t0 :: ux 2 (t3 :: t4 :: ux 9 (t14 :: t15 :: ux 89 []))
def zt0 : List Bool := ze4 5
noncomputable def zoo : Code := zao [1, 1, 1, 0, 1, 0, 0] zon
def ztX (K : Kt) : AExit → List AV → zaa → Prop := zap tP ze4 [1, 1, 1, 0, 1, 0] zon (zat tP zEm K)
def ztZ (t0 t3 t4 t14 t15 : AV) (H : zaa) (K : Kt) : Prop := ALoop tP zoo (ztX K) (zjz t0 t3 t4 t14 t15) H
def zjy (t0 t3 t4 t5 t14 t15 t76 t77 t78 : AV) : List AV := t0 :: ux 2 (t3 :: t4 :: t5 :: ux 8 (t14 :: t15 :: ux 60 (t76 :: t77 :: t78 :: ux 26 [])))
def zEk : List Bool := ze4 13
noncomputable def zEh : Code := zao [1, 1, 0, 0, 1, 1, 1, 1, 1, 0, 0] zoo
def zEg (K : Kt) (Kb5 : Lt) : AExit → List AV → zaa → Prop := zap tP ze4 [1, 1, 0, 0, 1, 1, 1, 1, 1, 0] zoo (zbK zt0 Kb5 (ztX K))
def ztY (t0 t3 t4 t5 t14 t15 t76 t77 t78 : AV) (H : zaa) (K : Kt) (Kb5 : Lt) : Prop := ALoop tP zEh (zEg K Kb5) (zjy t0 t3 t4 t5 t14 t15 t76 t77 t78) H
def zol (t0 t3 t4 t5 t14 t15 t76 t77 t78 : AV) (H : zaa) (K : Kt) (Kb5 : Lt) (Kb13 : Lt) : Prop :=
 zad .lss false t78 t77 fun t79 =>
 zag t79
 (zak 2 t76 t78 fun t81 =>
 zae true 2 t81 H fun t82 =>
 zaz [(.str []), .snil] H fun t7 H =>
 zar 2 t7 t82 H fun H =>
 zaf 0 t7 fun t83 =>
 zae false 1 t83 H fun t84 =>
 ACalls tP zhR [t84] H fun t85 H =>
 aUn .not t85 fun t86 =>
 zab t86 false H (fun K' => K' t4 H) fun t88 H =>
 zab t86 false H (fun K' => zaf 0 t7 (K' · H)) fun t89 H =>
 zab t86 false H (fun K' => zae false 1 t89 H (K' · H)) fun t90 H =>
 zab t86 false H (fun K' => zdm (.bool false) false t88 t90 H (K' · H)) fun t91 H =>
 zah t86 (.bool true) t91 fun t92 =>
 zab t92 false H (fun K' => K' t0 H) fun t94 H =>
 zab t92 false H (fun K' => K' t5 H) fun t95 H =>
 zab t92 false H (fun K' => K' t78 H) fun t96 H =>
 zab t92 false H (fun K' => ACalls tP zmi [t94, t95, t96] H K') fun t97 H =>
 zab t92 false H (fun K' => aUn .not t97 (K' · H)) fun t98 H =>
 zah t92 (.bool true) t98 fun t99 =>
 zag t99
 (K (.bool false) H)
 (zaf 0 t7 fun t101 =>
 zae false 1 t101 H fun t102 =>
 zcM t4 t102 (.bool true) H fun H =>
 zad .add false t78 (.int .i64 1) fun t103 =>
 Kb13 (zjy t0 t3 t4 t5 t14 t15 t76 t77 t103) H))
 (zad .add false t15 (.int .i64 1) fun t104 =>
 Kb5 (zjz t0 t3 t4 t14 t104) H)
def zom (t0 t3 t4 t14 t15 : AV) (H : zaa) (K : Kt) (Kb5 : Lt) : Prop :=
 zad .lss false t15 t14 fun t16 =>
 zag t16
 (zak 3 t0 t15 fun t20 =>
 zaf 0 t20 fun t21 =>
 zae false 1 t21 H fun t22 =>
 ACalls tP zhR [t22] H fun t23 H =>
 aUn .not t23 fun t24 =>
 zab t24 false H (fun K' => K' t3 H) fun t26 H =>
 zab t24 false H (fun K' => K' t0 H) fun t27 H =>
 zab t24 false H (fun K' => K' t15 H) fun t28 H =>
 zab t24 false H (fun K' => zak 3 t27 t28 (K' · H)) fun t29 H =>
 zab t24 false H (fun K' => zaf 0 t29 (K' · H)) fun t30 H =>
 zab t24 false H (fun K' => zae false 1 t30 H (K' · H)) fun t31 H =>
 zab t24 false H (fun K' => zdm (.bool false) false t26 t31 H (K' · H)) fun t32 H =>
 zah t24 (.bool true) t32 fun t33 =>
 zab t33 false H (fun K' => K' t0 H) fun t35 H =>
 zab t33 false H (fun K' => K' t15 H) fun t36 H =>
 zab t33 false H (fun K' => zak 3 t35 t36 (K' · H)) fun t37 H =>
 zab t33 false H (fun K' => zaf 1 t37 (K' · H)) fun t38 H =>
 zab t33 false H (fun K' => zae false 1 t38 H (K' · H)) fun t39 H =>
 zab t33 false H (fun K' => zad .lss false t39 (.int .i64 0) (K' · H)) fun t40 H =>
 zah t33 (.bool true) t40 fun t41 =>
 zab t41 false H (fun K' => K' t0 H) fun t43 H =>
 zab t41 false H (fun K' => K' t15 H) fun t44 H =>
 zab t41 false H (fun K' => zak 3 t43 t44 (K' · H)) fun t45 H =>
 zab t41 false H (fun K' => zaf 1 t45 (K' · H)) fun t46 H =>
 zab t41 false H (fun K' => zae false 1 t46 H (K' · H)) fun t47 H =>
 zab t41 false H (fun K' => zad .gtr false t47 (.int .i64 6) (K' · H)) fun t48 H =>
 zah t41 (.bool true) t48 fun t49 =>
 zag t49
 (K (.bool false) H)
 (zak 3 t0 t15 fun t53 =>
 zaf 0 t53 fun t54 =>
 zae false 1 t54 H fun t55 =>
 zcM t3 t55 (.bool true) H fun H =>
 zak 3 t0 t15 fun t58 =>
 zaf 2 t58 fun t59 =>
 zae false 1 t59 H fun t60 =>
 zaj 1 t60 fun t61 =>
 zad .lss false t61 (.int .i64 1) fun t62 =>
 zab t62 false H (fun K' => K' t0 H) fun t64 H =>
 zab t62 false H (fun K' => K' t15 H) fun t65 H =>
 zab t62 false H (fun K' => zak 3 t64 t65 (K' · H)) fun t66 H =>
 zab t62 false H (fun K' => zaf 2 t66 (K' · H)) fun t67 H =>
 zab t62 false H (fun K' => zae false 1 t67 H (K' · H)) fun t68 H =>
 zab t62 false H (fun K' => zaj 1 t68 (K' · H)) fun t69 H =>
 zab t62 false H (fun K' => zad .gtr false t69 (.int .i64 8) (K' · H)) fun t70 H =>
 zah t62 (.bool true) t70 fun t71 =>
 zag t71
 (K (.bool false) H)
 (zak 3 t0 t15 fun t74 =>
 zaf 2 t74 fun t75 =>
 zae false 1 t75 H fun t76 =>
 zaj 1 t76 fun t77 =>
 ztY t0 t3 t4 t15 t14 t15 t76 t77 (.int .i64 0) H K Kb5)))
 (K (.bool true) H)
def zok (t0 : AV) (H : zaa) (K : Kt) : Prop :=
 zaj 1 t0 fun t9 =>
 zad .gtr false t9 (.int .i64 12) fun t10 =>
 zag t10
 (K (.bool false) H)
 (zd6 H fun t11 H =>
 zd6 H fun t12 H =>
 zaj 1 t0 fun t14 =>
 ztZ t0 t11 t12 t14 (.int .i64 0) H K)
theorem zEi {t0 t3 t4 t5 t14 t15 t76 t77 t78 : AV} {H : zaa} {K : Kt} {Kb5 : Lt} (Inv : Nat → AV → zaa → Prop) (n : Nat) (h0 : HSc H → Inv n t78 H)
  (round : Rd1 (fun t78 => zjy t0 t3 t4 t5 t14 t15 t76 t77 t78) (fun t78 => fun H Kb13 => zol t0 t3 t4 t5 t14 t15 t76 t77 t78 H K Kb5 Kb13) H Inv) : ztY t0 t3 t4 t5 t14 t15 t76 t77 t78 H K Kb5 :=
 lp1 (M := ze4) zEk t78 (by kernel_rfl) Inv n h0 round
theorem zEj {t0 t3 t4 t14 t15 : AV} {H : zaa} {K : Kt} (Inv : Nat → AV → zaa → Prop) (n : Nat) (h0 : HSc H → Inv n t15 H)
  (round : Rd1 (fun t15 => zjz t0 t3 t4 t14 t15) (fun t15 => fun H Kb5 => zom t0 t3 t4 t14 t15 H K Kb5) H Inv) : ztZ t0 t3 t4 t14 t15 H K :=
 lp1 (M := ze4) zt0 t15 (by kernel_rfl) Inv n h0 round
theorem zEl {t0 : AV} {H : zaa} {K : Kt} (h : HSc H → zok t0 H K) : ACalls tP zl7 [t0] H K :=
 zaw (M := ze4) Try.func41 (c := zon) (by kernel_rfl) (fun hs => Eq.mpr (by kernel_rfl) (h hs))
def zEo (_ : Nat) : List Bool := []
noncomputable def zEp : Code := Try.f42.body.getD .skip
def zt1 (t0 : AV) (H : zaa) (K : Kt) : Prop :=
 zaF t0 H fun t1 H =>
 zaf 2 t1 fun t3 =>
 zae false 1 t3 H fun t4 =>
 zaj 1 t4 fun t5 =>
 zad .leq false t5 (.int .i64 3000) fun t6 =>
 zab t6 true H (fun K' => zaf 2 t1 (K' · H)) fun t8 H =>
 zab t6 true H (fun K' => zae false 1 t8 H (K' · H)) fun t9 H =>
 zab t6 true H (fun K' => zcu zmj [t1] (K' · H)) fun t10 H =>
 zab t6 true H (fun K' => ACalls tP zeR [t9, t10] H K') fun t11 H =>
 zab t6 true H (fun K' => aUn .not t11 (K' · H)) fun t12 H =>
 zah t6 t12 (.bool false) fun t13 =>
 K t13 H
theorem zEq {t0 : AV} {H : zaa} {K : Kt} (h : HSc H → zt1 t0 H K) : ACalls tP zl8 [t0] H K :=
 zaw (M := zEo) Try.func42 (c := zEp) (by kernel_rfl) (fun hs => Eq.mpr (by kernel_rfl) (h hs))
def zjA : Nat → List Bool
 | 6 => rl false [1,1,1,2,14,3,59]
 | _ => []
noncomputable def zop : Code := Try.f43.body.getD .skip
noncomputable def zEx : List ResultVar := Try.f43.results.toList
def zjB (t1 t3 t4 t19 t20 t21 : AV) : List AV := ux 1 (t1 :: ux 1 (t3 :: t4 :: ux 14 (t19 :: t20 :: t21 :: ux 59 [])))
def zEv : List Bool := zjA 6
noncomputable def zEt : Code := zao [1, 1, 1, 1, 0, 1, 0, 0] zop
def zEs (K : Kt) : AExit → List AV → zaa → Prop := zap tP zjA [1, 1, 1, 1, 0, 1, 0] zop (zat tP zEx K)
def zt3 (t1 t3 t4 t19 t20 t21 : AV) (H : zaa) (K : Kt) : Prop := ALoop tP zEt (zEs K) (zjB t1 t3 t4 t19 t20 t21) H
def zgR (t1 t3 t4 t6 t19 t20 t21 : AV) (H : zaa) (K : Kt) (Kb6 : Lt) : Prop :=
 zaf 0 t6 fun t42 =>
 zae false 1 t42 H fun t43 =>
 zcM t3 t43 (.bool true) H fun H =>
 zaf 1 t6 fun t44 =>
 zae false 1 t44 H fun t45 =>
 zaj 1 t45 fun t46 =>
 zad .gtr false t46 (.int .i64 6) fun t47 =>
 zab t47 false H (fun K' => zaf 0 t1 (K' · H)) fun t49 H =>
 zab t47 false H (fun K' => zae false 1 t49 H (K' · H)) fun t50 H =>
 zab t47 false H (fun K' => zaf 3 t6 (K' · H)) fun t51 H =>
 zab t47 false H (fun K' => zae true 3 t51 H (K' · H)) fun t52 H =>
 zab t47 false H (fun K' => ACalls tP zfC [t50, t52, (.int .i64 0)] H K') fun t53 H =>
 zab t47 false H (fun K' => aUn .not t53 (K' · H)) fun t54 H =>
 zah t47 (.bool true) t54 fun t55 =>
 zag t55
 (K (.bool false) H)
 (zac H (fun K' => zaf 6 t6 (K' · H)) fun t56 =>
 zac H (fun K' => zai false 1 t56 H (K' · H)) fun t57 =>
 zac H (fun K' => zad .lss false t57 (.int .i64 0) (K' · H)) fun t58 =>
 zac H (fun K' => K' t58 H) fun t59 =>
 zab t59 false H (fun K' => zac H (fun K'' => zaf 6 t6 (K'' · H)) (K' · H)) fun t60 H =>
 zab t59 false H (fun K' => zac H (fun K'' => zai false 1 t60 H (K'' · H)) (K' · H)) fun t61 H =>
 zab t59 false H (fun K' => zac H (fun K'' => zaf 3 t1 (K'' · H)) (K' · H)) fun t62 H =>
 zab t59 false H (fun K' => zac H (fun K'' => zai false 1 t62 H (K'' · H)) (K' · H)) fun t63 H =>
 zab t59 false H (fun K' => zac H (fun K'' => zaj 1 t63 (K'' · H)) (K' · H)) fun t64 H =>
 zab t59 false H (fun K' => zac H (fun K'' => zad .geq false t61 t64 (K'' · H)) (K' · H)) fun t65 H =>
 zac H (fun K' => zah t59 (.bool true) t65 (K' · H)) fun t66 =>
 zac H (fun K' => K' t66 H) fun t67 =>
 zab t67 false H (fun K' => zac H (fun K'' => zaf 3 t1 (K'' · H)) (K' · H)) fun t68 H =>
 zab t67 false H (fun K' => zac H (fun K'' => zai false 1 t68 H (K'' · H)) (K' · H)) fun t69 H =>
 zab t67 false H (fun K' => zac H (fun K'' => zaf 6 t6 (K'' · H)) (K' · H)) fun t70 H =>
 zab t67 false H (fun K' => zac H (fun K'' => zai false 1 t70 H (K'' · H)) (K' · H)) fun t71 H =>
 zab t67 false H (fun K' => zac H (fun K'' => zak 8 t69 t71 (K'' · H)) (K' · H)) fun t72 H =>
 zab t67 false H (fun K' => zac H (fun K'' => zaf 5 t72 (K'' · H)) (K' · H)) fun t73 H =>
 zab t67 false H (fun K' => zac H (fun K'' => zai true 3 t73 H (K'' · H)) (K' · H)) fun t74 H =>
 zab t67 false H (fun K' => zac H (fun K'' => zaf 3 t6 (K'' · H)) (K' · H)) fun t75 H =>
 zab t67 false H (fun K' => zac H (fun K'' => zai true 3 t75 H (K'' · H)) (K' · H)) fun t76 H =>
 zab t67 false H (fun K' => zau H (fun H K'' => ACalls tP zbF [t74, t76] H K'') (K' · H)) fun t77 H =>
 zab t67 false H (fun K' => zac H (fun K'' => aUn .not t77 (K'' · H)) (K' · H)) fun t78 H =>
 zac H (fun K' => zah t67 (.bool true) t78 (K' · H)) fun t79 =>
 zag t79
 (K (.bool false) H)
 (zad .add false t21 (.int .i64 1) fun t80 =>
 Kb6 (zjB t1 t3 t4 t19 t20 t80) H))
def ze5 (t1 t3 t4 t19 t20 t21 : AV) (H : zaa) (K : Kt) (Kb6 : Lt) : Prop :=
 zad .lss false t21 t20 fun t22 =>
 zag t22
 (zak 7 t19 t21 fun t23 =>
 zae true 7 t23 H fun t24 =>
 zaz [(.str []), .snil, .snil, (.int .i64 0), (.int .i64 0), .snil, (.int .i64 0)] H fun t6 H =>
 zar 7 t6 t24 H fun H =>
 zaf 0 t6 fun t25 =>
 zae false 1 t25 H fun t26 =>
 zad .eql false t26 (.str []) fun t27 =>
 zag t27
 (zgR t1 t3 (.bool true) t6 t19 t20 t21 H K Kb6)
 (zab t4 false H (fun K' => K' t3 H) fun t30 H =>
 zab t4 false H (fun K' => zaf 0 t6 (K' · H)) fun t31 H =>
 zab t4 false H (fun K' => zae false 1 t31 H (K' · H)) fun t32 H =>
 zab t4 false H (fun K' => zdm (.bool false) false t30 t32 H (K' · H)) fun t33 H =>
 zah t4 (.bool true) t33 fun t34 =>
 zab t34 false H (fun K' => zaf 2 t6 (K' · H)) fun t36 H =>
 zab t34 false H (fun K' => zae false 1 t36 H (K' · H)) fun t37 H =>
 zab t34 false H (fun K' => zaj 1 t37 (K' · H)) fun t38 H =>
 zab t34 false H (fun K' => zad .gtr false t38 (.int .i64 0) (K' · H)) fun t39 H =>
 zah t34 (.bool true) t39 fun t40 =>
 zag t40
 (K (.bool false) H)
 (zgR t1 t3 t4 t6 t19 t20 t21 H K Kb6)))
 (K (.bool true) H)
def zt2 (t0 : AV) (H : zaa) (K : Kt) : Prop :=
 zaF t0 H fun t1 H =>
 zaf 1 t1 fun t7 =>
 zae false 1 t7 H fun t8 =>
 zaj 1 t8 fun t9 =>
 zad .gtr false t9 (.int .i64 64) fun t10 =>
 zab t10 false H (fun K' => zaf 3 t1 (K' · H)) fun t12 H =>
 zab t10 false H (fun K' => zae false 1 t12 H (K' · H)) fun t13 H =>
 zab t10 false H (fun K' => zaj 1 t13 (K' · H)) fun t14 H =>
 zab t10 false H (fun K' => zad .gtr false t14 (.int .i64 3000) (K' · H)) fun t15 H =>
 zah t10 (.bool true) t15 fun t16 =>
 zag t16
 (K (.bool false) H)
 (zd6 H fun t17 H =>
 zaf 1 t1 fun t18 =>
 zae false 1 t18 H fun t19 =>
 zaj 1 t19 fun t20 =>
 zt3 t1 t17 (.bool false) t19 t20 (.int .i64 0) H K)
theorem zEu {t1 t3 t4 t19 t20 t21 : AV} {H : zaa} {K : Kt} (Inv : Nat → AV → AV → zaa → Prop) (n : Nat) (h0 : HSc H → Inv n t4 t21 H)
  (round : Rd2 (fun t4 => fun t21 => zjB t1 t3 t4 t19 t20 t21) (fun t4 => fun t21 => fun H Kb6 => ze5 t1 t3 t4 t19 t20 t21 H K Kb6) H Inv) : zt3 t1 t3 t4 t19 t20 t21 H K :=
 lp2 (M := zjA) zEv t4 t21 (by kernel_rfl) Inv n h0 round
theorem zEw {t0 : AV} {H : zaa} {K : Kt} (h : HSc H → zt2 t0 H K) : ACalls tP zl9 [t0] H K :=
 zaw (M := zjA) Try.func43 (c := zop) (by kernel_rfl) (fun hs => Eq.mpr (by kernel_rfl) (h hs))
def zdG : Nat → List Bool
 | 5 => rl false [1,1,2,2,12,3,54]
 | 11 => rl false [1,1,2,2,25,3,41]
 | 16 => rl false [1,1,2,2,2,1,22,3,12,3,26]
 | _ => []
noncomputable def zgT : Code := Try.f44.body.getD .skip
noncomputable def zua : List ResultVar := Try.f44.results.toList
def zjF (t1 t4 t5 t18 t19 t20 : AV) : List AV := ux 1 (t1 :: ux 2 (t4 :: t5 :: ux 12 (t18 :: t19 :: t20 :: ux 54 [])))
def zEH : List Bool := zdG 5
noncomputable def zEC : Code := zao [1, 1, 1, 1, 0, 1, 0, 0] zgT
def zEA (K : Kt) : AExit → List AV → zaa → Prop := zap tP zdG [1, 1, 1, 1, 0, 1, 0] zgT (zat tP zua K)
def zt8 (t1 t4 t5 t18 t19 t20 : AV) (H : zaa) (K : Kt) : Prop := ALoop tP zEC (zEA K) (zjF t1 t4 t5 t18 t19 t20) H
def zjD (t1 t4 t5 t31 t32 t33 : AV) : List AV := ux 1 (t1 :: ux 2 (t4 :: t5 :: ux 25 (t31 :: t32 :: t33 :: ux 41 [])))
def zt9 : List Bool := zdG 11
noncomputable def zor : Code := zao [1, 1, 1, 1, 1, 0, 1, 0, 0] zgT
def zt5 (K : Kt) : AExit → List AV → zaa → Prop := zap tP zdG [1, 1, 1, 1, 1, 0, 1, 0] zgT (zat tP zua K)
def zt6 (t1 t4 t5 t31 t32 t33 : AV) (H : zaa) (K : Kt) : Prop := ALoop tP zor (zt5 K) (zjD t1 t4 t5 t31 t32 t33) H
def zjE (t1 t4 t5 t8 t31 t32 t33 t46 t47 t48 : AV) : List AV := ux 1 (t1 :: ux 2 (t4 :: t5 :: ux 2 (t8 :: ux 22 (t31 :: t32 :: t33 :: ux 12 (t46 :: t47 :: t48 :: ux 26 [])))))
def zEG : List Bool := zdG 16
noncomputable def zEB : Code := zao [1, 1, 0, 0, 1, 1, 1, 0, 0] zor
def zEz (K : Kt) (Kb11 : Lt) : AExit → List AV → zaa → Prop := zap tP zdG [1, 1, 0, 0, 1, 1, 1, 0] zor (zbK zt9 Kb11 (zt5 K))
def zt7 (t1 t4 t5 t8 t31 t32 t33 t46 t47 t48 : AV) (H : zaa) (K : Kt) (Kb11 : Lt) : Prop := ALoop tP zEB (zEz K Kb11) (zjE t1 t4 t5 t8 t31 t32 t33 t46 t47 t48) H
def zgS (t1 t4 t5 t8 t31 t32 t33 t46 t47 t48 : AV) (H : zaa) (K : Kt) (Kb11 : Lt) (Kb16 : Lt) : Prop :=
 zad .lss false t48 t47 fun t49 =>
 zag t49
 (zak 1 t46 t48 fun t50 =>
 zae false 1 t50 H fun t51 =>
 zad .leq false t51 t8 fun t54 =>
 zab t54 false H (fun K' => K' t51 H) fun t56 H =>
 zab t54 false H (fun K' => zaf 3 t1 (K' · H)) fun t57 H =>
 zab t54 false H (fun K' => zae false 1 t57 H (K' · H)) fun t58 H =>
 zab t54 false H (fun K' => zaj 1 t58 (K' · H)) fun t59 H =>
 zab t54 false H (fun K' => zad .geq false t56 t59 (K' · H)) fun t60 H =>
 zah t54 (.bool true) t60 fun t61 =>
 zab t61 false H (fun K' => K' t5 H) fun t63 H =>
 zab t61 false H (fun K' => K' t51 H) fun t64 H =>
 zab t61 false H (fun K' => aCallV tP t63 [t64] H K') fun t65 H =>
 zab t61 false H (fun K' => aUn .not t65 (K' · H)) fun t66 H =>
 zah t61 (.bool true) t66 fun t67 =>
 zag t67
 (K (.bool false) H)
 (zad .add false t48 (.int .i64 1) fun t68 =>
 Kb16 (zjE t1 t4 t5 t8 t31 t32 t33 t46 t47 t68) H))
 (zad .add false t33 (.int .i64 1) fun t69 =>
 Kb11 (zjD t1 t4 t5 t31 t32 t69) H)
def zjC (t1 t4 t5 t31 t32 t33 : AV) (H : zaa) (K : Kt) (Kb11 : Lt) : Prop :=
 zad .lss false t33 t32 fun t34 =>
 zag t34
 (zak 8 t31 t33 fun t36 =>
 zae true 8 t36 H fun t37 =>
 zaz [(.int .i64 0), (.int .i64 0), .snil, .snil, .snil, (.int .i64 0), (.int .i64 0), .snil] H fun t9 H =>
 zar 8 t9 t37 H fun H =>
 zaf 3 t9 fun t38 =>
 zae false 1 t38 H fun t39 =>
 zaj 1 t39 fun t40 =>
 zaf 4 t9 fun t41 =>
 zae false 1 t41 H fun t42 =>
 zaj 1 t42 fun t43 =>
 zad .neq false t40 t43 fun t44 =>
 zag t44
 (K (.bool false) H)
 (zaf 4 t9 fun t45 =>
 zae false 1 t45 H fun t46 =>
 zaj 1 t46 fun t47 =>
 zt7 t1 t4 t5 t33 t31 t32 t33 t46 t47 (.int .i64 0) H K Kb11))
 (zae false 1 t4 H fun t70 =>
 zaf 3 t1 fun t71 =>
 zae false 1 t71 H fun t72 =>
 zaj 1 t72 fun t73 =>
 zad .eql false t70 t73 fun t74 =>
 K t74 H)
def zoq (t1 t4 t5 t18 t19 t20 : AV) (H : zaa) (K : Kt) (Kb5 : Lt) : Prop :=
 zad .lss false t20 t19 fun t21 =>
 zag t21
 (zak 7 t18 t20 fun t22 =>
 zae true 7 t22 H fun t23 =>
 zaz [(.str []), .snil, .snil, (.int .i64 0), (.int .i64 0), .snil, (.int .i64 0)] H fun t7 H =>
 zar 7 t7 t23 H fun H =>
 zaf 6 t7 fun t25 =>
 zae false 1 t25 H fun t26 =>
 aCallV tP t5 [t26] H fun t27 H =>
 aUn .not t27 fun t28 =>
 zag t28
 (K (.bool false) H)
 (zad .add false t20 (.int .i64 1) fun t29 =>
 Kb5 (zjF t1 t4 t5 t18 t19 t29) H))
 (zaf 3 t1 fun t30 =>
 zae false 1 t30 H fun t31 =>
 zaj 1 t31 fun t32 =>
 zt6 t1 t4 t5 t31 t32 (.int .i64 0) H K)
def zt4 (t0 : AV) (H : zaa) (K : Kt) : Prop :=
 zaF t0 H fun t1 H =>
 zaf 3 t1 fun t12 =>
 zae false 1 t12 H fun t13 =>
 zaj 1 t13 fun t14 =>
 zbu 1 [(.bool false)] t14 t14 H fun t15 H =>
 zaz [.snil] H fun t3 H =>
 zar 1 t3 t15 H fun H =>
 zaz [(.int .i64 0)] H fun t4 H =>
 zar 1 t4 (.int .i64 0) H fun H =>
 zcu zhS [t3, t4] fun t16 =>
 zaf 1 t1 fun t17 =>
 zae false 1 t17 H fun t18 =>
 zaj 1 t18 fun t19 =>
 zt8 t1 t4 t16 t18 t19 (.int .i64 0) H K
theorem zEE {t1 t4 t5 t8 t31 t32 t33 t46 t47 t48 : AV} {H : zaa} {K : Kt} {Kb11 : Lt} (Inv : Nat → AV → zaa → Prop) (n : Nat) (h0 : HSc H → Inv n t48 H)
  (round : Rd1 (fun t48 => zjE t1 t4 t5 t8 t31 t32 t33 t46 t47 t48) (fun t48 => fun H Kb16 => zgS t1 t4 t5 t8 t31 t32 t33 t46 t47 t48 H K Kb11 Kb16) H Inv) : zt7 t1 t4 t5 t8 t31 t32 t33 t46 t47 t48 H K Kb11 :=
 lp1 (M := zdG) zEG t48 (by kernel_rfl) Inv n h0 round
theorem zED {t1 t4 t5 t31 t32 t33 : AV} {H : zaa} {K : Kt} (Inv : Nat → AV → zaa → Prop) (n : Nat) (h0 : HSc H → Inv n t33 H)
  (round : Rd1 (fun t33 => zjD t1 t4 t5 t31 t32 t33) (fun t33 => fun H Kb11 => zjC t1 t4 t5 t31 t32 t33 H K Kb11) H Inv) : zt6 t1 t4 t5 t31 t32 t33 H K :=
 lp1 (M := zdG) zt9 t33 (by kernel_rfl) Inv n h0 round
theorem zEF {t1 t4 t5 t18 t19 t20 : AV} {H : zaa} {K : Kt} (Inv : Nat → AV → zaa → Prop) (n : Nat) (h0 : HSc H → Inv n t20 H)
  (round : Rd1 (fun t20 => zjF t1 t4 t5 t18 t19 t20) (fun t20 => fun H Kb5 => zoq t1 t4 t5 t18 t19 t20 H K Kb5) H Inv) : zt8 t1 t4 t5 t18 t19 t20 H K :=
 lp1 (M := zdG) zEH t20 (by kernel_rfl) Inv n h0 round
theorem zEI {t0 : AV} {H : zaa} {K : Kt} (h : HSc H → zt4 t0 H K) : ACalls tP zma [t0] H K :=
 zaw (M := zdG) Try.func44 (c := zgT) (by kernel_rfl) (fun hs => Eq.mpr (by kernel_rfl) (h hs))
def zdH : Nat → List Bool
 | 5 => rl false [1,1,2,2,12,3,41]
 | 11 => rl false [1,1,2,2,32,3,21]
 | 14 => rl false [1,1,2,2,32,3,4,3,14]
 | _ => []
noncomputable def zgU : Code := Try.f45.body.getD .skip
noncomputable def zuh : List ResultVar := Try.f45.results.toList
def zjI (t1 t4 t5 t18 t19 t20 : AV) : List AV := ux 1 (t1 :: ux 2 (t4 :: t5 :: ux 12 (t18 :: t19 :: t20 :: ux 41 [])))
def zES : List Bool := zdH 5
noncomputable def zEN : Code := zao [1, 1, 1, 1, 0, 1, 0, 0] zgU
def zEL (K : Kt) : AExit → List AV → zaa → Prop := zap tP zdH [1, 1, 1, 1, 0, 1, 0] zgU (zat tP zuh K)
def zuf (t1 t4 t5 t18 t19 t20 : AV) (H : zaa) (K : Kt) : Prop := ALoop tP zEN (zEL K) (zjI t1 t4 t5 t18 t19 t20) H
def zjG (t1 t4 t5 t38 t39 t40 : AV) : List AV := ux 1 (t1 :: ux 2 (t4 :: t5 :: ux 32 (t38 :: t39 :: t40 :: ux 21 [])))
def zug : List Bool := zdH 11
noncomputable def zov : Code := zao [1, 1, 1, 1, 1, 0, 1, 0, 0] zgU
def zuc (K : Kt) : AExit → List AV → zaa → Prop := zap tP zdH [1, 1, 1, 1, 1, 0, 1, 0] zgU (zat tP zuh K)
def zud (t1 t4 t5 t38 t39 t40 : AV) (H : zaa) (K : Kt) : Prop := ALoop tP zov (zuc K) (zjG t1 t4 t5 t38 t39 t40) H
def zjH (t1 t4 t5 t38 t39 t40 t45 t46 t47 : AV) : List AV := ux 1 (t1 :: ux 2 (t4 :: t5 :: ux 32 (t38 :: t39 :: t40 :: ux 4 (t45 :: t46 :: t47 :: ux 14 []))))
def zER : List Bool := zdH 14
noncomputable def zEM : Code := zao [1, 1, 0, 0, 1, 1, 0, 0] zov
def zEK (K : Kt) (Kb11 : Lt) : AExit → List AV → zaa → Prop := zap tP zdH [1, 1, 0, 0, 1, 1, 0] zov (zbK zug Kb11 (zuc K))
def zue (t1 t4 t5 t38 t39 t40 t45 t46 t47 : AV) (H : zaa) (K : Kt) (Kb11 : Lt) : Prop := ALoop tP zEM (zEK K Kb11) (zjH t1 t4 t5 t38 t39 t40 t45 t46 t47) H
def zot (t1 t4 t5 t38 t39 t40 t45 t46 t47 : AV) (H : zaa) (K : Kt) (Kb11 : Lt) (Kb14 : Lt) : Prop :=
 zad .lss false t47 t46 fun t48 =>
 zag t48
 (zak 1 t45 t47 fun t49 =>
 zae false 1 t49 H fun t50 =>
 aCallV tP t5 [t50] H fun t53 H =>
 aUn .not t53 fun t54 =>
 zag t54
 (K (.bool false) H)
 (zad .add false t47 (.int .i64 1) fun t55 =>
 Kb14 (zjH t1 t4 t5 t38 t39 t40 t45 t46 t55) H))
 (zad .add false t40 (.int .i64 1) fun t56 =>
 Kb11 (zjG t1 t4 t5 t38 t39 t56) H)
def zos (t1 t4 t5 t38 t39 t40 : AV) (H : zaa) (K : Kt) (Kb11 : Lt) : Prop :=
 zad .lss false t40 t39 fun t41 =>
 zag t41
 (zak 8 t38 t40 fun t42 =>
 zae true 8 t42 H fun t43 =>
 zaz [(.int .i64 0), (.int .i64 0), .snil, .snil, .snil, (.int .i64 0), (.int .i64 0), .snil] H fun t9 H =>
 zar 8 t9 t43 H fun H =>
 zaf 3 t9 fun t44 =>
 zae false 1 t44 H fun t45 =>
 zaj 1 t45 fun t46 =>
 zue t1 t4 t5 t38 t39 t40 t45 t46 (.int .i64 0) H K Kb11)
 (zae false 1 t4 H fun t57 =>
 zaf 2 t1 fun t58 =>
 zae false 1 t58 H fun t59 =>
 zaj 1 t59 fun t60 =>
 zad .eql false t57 t60 fun t61 =>
 K t61 H)
def zou (t1 t4 t5 t18 t19 t20 : AV) (H : zaa) (K : Kt) (Kb5 : Lt) : Prop :=
 zad .lss false t20 t19 fun t21 =>
 zag t21
 (zak 7 t18 t20 fun t22 =>
 zae true 7 t22 H fun t23 =>
 zaz [(.str []), .snil, .snil, (.int .i64 0), (.int .i64 0), .snil, (.int .i64 0)] H fun t7 H =>
 zar 7 t7 t23 H fun H =>
 zaf 1 t7 fun t25 =>
 zae false 1 t25 H fun t26 =>
 aCallV tP t5 [t26] H fun t27 H =>
 aUn .not t27 fun t28 =>
 zab t28 false H (fun K' => K' t5 H) fun t30 H =>
 zab t28 false H (fun K' => zaf 2 t7 (K' · H)) fun t31 H =>
 zab t28 false H (fun K' => zae false 1 t31 H (K' · H)) fun t32 H =>
 zab t28 false H (fun K' => aCallV tP t30 [t32] H K') fun t33 H =>
 zab t28 false H (fun K' => aUn .not t33 (K' · H)) fun t34 H =>
 zah t28 (.bool true) t34 fun t35 =>
 zag t35
 (K (.bool false) H)
 (zad .add false t20 (.int .i64 1) fun t36 =>
 Kb5 (zjI t1 t4 t5 t18 t19 t36) H))
 (zaf 3 t1 fun t37 =>
 zae false 1 t37 H fun t38 =>
 zaj 1 t38 fun t39 =>
 zud t1 t4 t5 t38 t39 (.int .i64 0) H K)
def zub (t0 : AV) (H : zaa) (K : Kt) : Prop :=
 zaF t0 H fun t1 H =>
 zaf 2 t1 fun t12 =>
 zae false 1 t12 H fun t13 =>
 zaj 1 t13 fun t14 =>
 zbu 1 [(.bool false)] t14 t14 H fun t15 H =>
 zaz [.snil] H fun t3 H =>
 zar 1 t3 t15 H fun H =>
 zaz [(.int .i64 0)] H fun t4 H =>
 zar 1 t4 (.int .i64 0) H fun H =>
 zcu zhT [t3, t4] fun t16 =>
 zaf 1 t1 fun t17 =>
 zae false 1 t17 H fun t18 =>
 zaj 1 t18 fun t19 =>
 zuf t1 t4 t16 t18 t19 (.int .i64 0) H K
theorem zEP {t1 t4 t5 t38 t39 t40 t45 t46 t47 : AV} {H : zaa} {K : Kt} {Kb11 : Lt} (Inv : Nat → AV → zaa → Prop) (n : Nat) (h0 : HSc H → Inv n t47 H)
  (round : Rd1 (fun t47 => zjH t1 t4 t5 t38 t39 t40 t45 t46 t47) (fun t47 => fun H Kb14 => zot t1 t4 t5 t38 t39 t40 t45 t46 t47 H K Kb11 Kb14) H Inv) : zue t1 t4 t5 t38 t39 t40 t45 t46 t47 H K Kb11 :=
 lp1 (M := zdH) zER t47 (by kernel_rfl) Inv n h0 round
theorem zEO {t1 t4 t5 t38 t39 t40 : AV} {H : zaa} {K : Kt} (Inv : Nat → AV → zaa → Prop) (n : Nat) (h0 : HSc H → Inv n t40 H)
  (round : Rd1 (fun t40 => zjG t1 t4 t5 t38 t39 t40) (fun t40 => fun H Kb11 => zos t1 t4 t5 t38 t39 t40 H K Kb11) H Inv) : zud t1 t4 t5 t38 t39 t40 H K :=
 lp1 (M := zdH) zug t40 (by kernel_rfl) Inv n h0 round
theorem zEQ {t1 t4 t5 t18 t19 t20 : AV} {H : zaa} {K : Kt} (Inv : Nat → AV → zaa → Prop) (n : Nat) (h0 : HSc H → Inv n t20 H)
  (round : Rd1 (fun t20 => zjI t1 t4 t5 t18 t19 t20) (fun t20 => fun H Kb5 => zou t1 t4 t5 t18 t19 t20 H K Kb5) H Inv) : zuf t1 t4 t5 t18 t19 t20 H K :=
 lp1 (M := zdH) zES t20 (by kernel_rfl) Inv n h0 round
theorem zET {t0 : AV} {H : zaa} {K : Kt} (h : HSc H → zub t0 H K) : ACalls tP zmb [t0] H K :=
 zaw (M := zdH) Try.func45 (c := zgU) (by kernel_rfl) (fun hs => Eq.mpr (by kernel_rfl) (h hs))
def zjJ : Nat → List Bool
 | 6 => rl false [4,2,9,3,25]
 | _ => []
noncomputable def zox : Code := Try.f46.body.getD .skip
noncomputable def zE0 : List ResultVar := Try.f46.results.toList
def zjK (t4 t5 t15 t16 t17 : AV) : List AV := ux 4 (t4 :: t5 :: ux 9 (t15 :: t16 :: t17 :: ux 25 []))
def zEY : List Bool := zjJ 6
noncomputable def zEW : Code := zao [1, 1, 1, 1, 1, 0, 1, 0, 0] zox
def zEV (K : Kt) : AExit → List AV → zaa → Prop := zap tP zjJ [1, 1, 1, 1, 1, 0, 1, 0] zox (zat tP zE0 K)
def zuj (t4 t5 t15 t16 t17 : AV) (H : zaa) (K : Kt) : Prop := ALoop tP zEW (zEV K) (zjK t4 t5 t15 t16 t17) H
def zow (t4 t5 t15 t16 t17 : AV) (H : zaa) (K : Kt) (Kb6 : Lt) : Prop :=
 zad .lss false t17 t16 fun t18 =>
 zag t18
 (zak 7 t15 t17 fun t19 =>
 zae true 7 t19 H fun t20 =>
 zaz [(.str []), .snil, .snil, (.int .i64 0), (.int .i64 0), .snil, (.int .i64 0)] H fun t7 H =>
 zar 7 t7 t20 H fun H =>
 zae false 1 t4 H fun t21 =>
 zaf 1 t7 fun t22 =>
 zae false 1 t22 H fun t23 =>
 aCallV tP t21 [t23, (.bool true)] H fun t24 H =>
 zae false 1 t4 H fun t25 =>
 zaf 2 t7 fun t26 =>
 zae false 1 t26 H fun t27 =>
 aCallV tP t25 [t27, (.bool true)] H fun t28 H =>
 zae false 1 t5 H fun t29 =>
 zaf 6 t7 fun t30 =>
 zae false 1 t30 H fun t31 =>
 aCallV tP t29 [t31] H fun t32 H =>
 aUn .not t32 fun t33 =>
 zag t33
 (K (.bool false) H)
 (zae false 1 t4 H fun t34 =>
 zaf 1 t7 fun t35 =>
 zae false 1 t35 H fun t36 =>
 aCallV tP t34 [t36, (.bool false)] H fun t37 H =>
 zae false 1 t4 H fun t38 =>
 zaf 2 t7 fun t39 =>
 zae false 1 t39 H fun t40 =>
 aCallV tP t38 [t40, (.bool false)] H fun t41 H =>
 zad .add false t17 (.int .i64 1) fun t42 =>
 Kb6 (zjK t4 t5 t15 t16 t42) H))
 (K (.bool true) H)
def zui (t0 : AV) (H : zaa) (K : Kt) : Prop :=
 zaF t0 H fun t1 H =>
 zaf 2 t1 fun t8 =>
 zae false 1 t8 H fun t9 =>
 zaj 1 t9 fun t10 =>
 zbu 1 [(.bool false)] t10 t10 H fun t11 H =>
 zaz [.snil] H fun t3 H =>
 zar 1 t3 t11 H fun H =>
 zcu zej [t3] fun t12 =>
 zaz [.nilfn] H fun t4 H =>
 zar 1 t4 t12 H fun H =>
 zaz [.nilfn] H fun t5 H =>
 zcu zek [t1, t3, t4, t5] fun t13 =>
 zar 1 t5 t13 H fun H =>
 zaf 1 t1 fun t14 =>
 zae false 1 t14 H fun t15 =>
 zaj 1 t15 fun t16 =>
 zuj t4 t5 t15 t16 (.int .i64 0) H K
theorem zEX {t4 t5 t15 t16 t17 : AV} {H : zaa} {K : Kt} (Inv : Nat → AV → zaa → Prop) (n : Nat) (h0 : HSc H → Inv n t17 H)
  (round : Rd1 (fun t17 => zjK t4 t5 t15 t16 t17) (fun t17 => fun H Kb6 => zow t4 t5 t15 t16 t17 H K Kb6) H Inv) : zuj t4 t5 t15 t16 t17 H K :=
 lp1 (M := zjJ) zEY t17 (by kernel_rfl) Inv n h0 round
theorem zEZ {t0 : AV} {H : zaa} {K : Kt} (h : HSc H → zui t0 H K) : ACalls tP zmc [t0] H K :=
 zaw (M := zjJ) Try.func46 (c := zox) (by kernel_rfl) (fun hs => Eq.mpr (by kernel_rfl) (h hs))
def ze6 : Nat → List Bool
 | 3 => rl false [1,1,1,1,12,3,30]
 | 9 => rl false [3,1,24,3,18]
 | _ => []
noncomputable def zgW : Code := Try.f47.body.getD .skip
noncomputable def zun : List ResultVar := Try.f47.results.toList
def zjL (t1 t3 t16 t17 t18 : AV) : List AV := ux 1 (t1 :: ux 1 (t3 :: ux 12 (t16 :: t17 :: t18 :: ux 30 [])))
def zE8 : List Bool := ze6 3
noncomputable def zE4 : Code := zao [1, 1, 0, 1, 0, 0] zgW
def zE2 (K : Kt) : AExit → List AV → zaa → Prop := zap tP ze6 [1, 1, 0, 1, 0] zgW (zat tP zun K)
def zul (t1 t3 t16 t17 t18 : AV) (H : zaa) (K : Kt) : Prop := ALoop tP zE4 (zE2 K) (zjL t1 t3 t16 t17 t18) H
def zgX (t3 t28 t29 t30 : AV) : List AV := ux 3 (t3 :: ux 24 (t28 :: t29 :: t30 :: ux 18 []))
def zE9 : List Bool := ze6 9
noncomputable def zE5 : Code := zao [1, 1, 1, 0, 1, 0, 0] zgW
def zE3 (K : Kt) : AExit → List AV → zaa → Prop := zap tP ze6 [1, 1, 1, 0, 1, 0] zgW (zat tP zun K)
def zum (t3 t28 t29 t30 : AV) (H : zaa) (K : Kt) : Prop := ALoop tP zE5 (zE3 K) (zgX t3 t28 t29 t30) H
def zgV (t3 t28 t29 t30 : AV) (H : zaa) (K : Kt) (Kb9 : Lt) : Prop :=
 zad .lss false t30 t29 fun t31 =>
 zag t31
 (zak 7 t28 t30 fun t33 =>
 zae true 7 t33 H fun t34 =>
 zaz [(.str []), .snil, .snil, (.int .i64 0), (.int .i64 0), .snil, (.int .i64 0)] H fun t7 H =>
 zar 7 t7 t34 H fun H =>
 zaf 0 t7 fun t35 =>
 zae false 1 t35 H fun t36 =>
 zad .eql false t36 (.str []) fun t37 =>
 zab t37 true H (fun K' => K' t3 H) fun t39 H =>
 zab t37 true H (fun K' => za0 t39 (K' · H)) fun t40 H =>
 zab t37 true H (fun K' => zaf 4 t40 (K' · H)) fun t41 H =>
 zab t37 true H (fun K' => zae false 1 t41 H (K' · H)) fun t42 H =>
 zab t37 true H (fun K' => K' t30 H) fun t43 H =>
 zab t37 true H (fun K' => zak 1 t42 t43 (K' · H)) fun t44 H =>
 zab t37 true H (fun K' => zae false 1 t44 H (K' · H)) fun t45 H =>
 zab t37 true H (fun K' => zad .neq false t45 (.int .i64 1) (K' · H)) fun t46 H =>
 zah t37 t46 (.bool false) fun t47 =>
 zag t47
 (K (.bool false) H)
 (zad .add false t30 (.int .i64 1) fun t48 =>
 Kb9 (zgX t3 t28 t29 t48) H))
 (K (.bool true) H)
def zoy (t1 t3 t16 t17 t18 : AV) (H : zaa) (K : Kt) (Kb3 : Lt) : Prop :=
 zad .lss false t18 t17 fun t19 =>
 zag t19
 (zak 8 t16 t18 fun t20 =>
 zae true 8 t20 H fun t21 =>
 zaz [(.int .i64 0), (.int .i64 0), .snil, .snil, .snil, (.int .i64 0), (.int .i64 0), .snil] H fun t5 H =>
 zar 8 t5 t21 H fun H =>
 zae true 8 t5 H fun t23 =>
 ACalls tP zmk [t3, t23] H fun t24 H =>
 aUn .not t24 fun t25 =>
 zag t25
 (K (.bool false) H)
 (zad .add false t18 (.int .i64 1) fun t26 =>
 Kb3 (zjL t1 t3 t16 t17 t26) H))
 (zaf 1 t1 fun t27 =>
 zae false 1 t27 H fun t28 =>
 zaj 1 t28 fun t29 =>
 zum t3 t28 t29 (.int .i64 0) H K)
def zuk (t0 : AV) (H : zaa) (K : Kt) : Prop :=
 zaF t0 H fun t1 H =>
 zac H (fun K' => zai true 4 t1 H (K' · H)) fun t8 =>
 zac H (fun K' => zaf 1 t1 (K' · H)) fun t9 =>
 zac H (fun K' => zai false 1 t9 H (K' · H)) fun t10 =>
 zac H (fun K' => zaj 1 t10 (K' · H)) fun t11 =>
 zbu 8 [(.int .i64 0)] t11 t11 H fun t12 H =>
 zac H (fun K' => zaI [.snil, .snil, .snil, .snil, .snil] [(0, 4), (4, 1)] [(0, t8), (1, t12)] (K' · H)) fun t13 =>
 zaF t13 H fun t14 H =>
 zac H (fun K' => K' t14 H) fun t3 =>
 zaf 3 t1 fun t15 =>
 zae false 1 t15 H fun t16 =>
 zaj 1 t16 fun t17 =>
 zul t1 t3 t16 t17 (.int .i64 0) H K
theorem zE7 {t3 t28 t29 t30 : AV} {H : zaa} {K : Kt} (Inv : Nat → AV → zaa → Prop) (n : Nat) (h0 : HSc H → Inv n t30 H)
  (round : Rd1 (fun t30 => zgX t3 t28 t29 t30) (fun t30 => fun H Kb9 => zgV t3 t28 t29 t30 H K Kb9) H Inv) : zum t3 t28 t29 t30 H K :=
 lp1 (M := ze6) zE9 t30 (by kernel_rfl) Inv n h0 round
theorem zE6 {t1 t3 t16 t17 t18 : AV} {H : zaa} {K : Kt} (Inv : Nat → AV → zaa → Prop) (n : Nat) (h0 : HSc H → Inv n t18 H)
  (round : Rd1 (fun t18 => zjL t1 t3 t16 t17 t18) (fun t18 => fun H Kb3 => zoy t1 t3 t16 t17 t18 H K Kb3) H Inv) : zul t1 t3 t16 t17 t18 H K :=
 lp1 (M := ze6) zE8 t18 (by kernel_rfl) Inv n h0 round
theorem zFa {t0 : AV} {H : zaa} {K : Kt} (h : HSc H → zuk t0 H K) : ACalls tP zmd [t0] H K :=
 zaw (M := ze6) Try.func47 (c := zgW) (by kernel_rfl) (fun hs => Eq.mpr (by kernel_rfl) (h hs))
def zkt : Nat → List Bool
 | 6 => rl false [0,2,6,1,18,3,29]
 | _ => []
noncomputable def zpd : Code := Try.f67.body.getD .skip
noncomputable def zHx : List ResultVar := Try.f67.results.toList
def zg8 (t0 t1 t8 t27 t28 t29 : AV) : List AV := t0 :: t1 :: ux 6 (t8 :: ux 18 (t27 :: t28 :: t29 :: ux 29 []))
def zHv : List Bool := zkt 6
noncomputable def zHt : Code := zao [1, 1, 1, 1, 0, 1, 0, 0] zpd
def zHs (K : Kt) : AExit → List AV → zaa → Prop := zap tP zkt [1, 1, 1, 1, 0, 1, 0] zpd (zat tP zHx K)
def zvf (t0 t1 t8 t27 t28 t29 : AV) (H : zaa) (K : Kt) : Prop := ALoop tP zHt (zHs K) (zg8 t0 t1 t8 t27 t28 t29) H
def zpc (t0 t1 t8 t27 t28 t29 : AV) (H : zaa) (K : Kt) (Kb6 : Lt) : Prop :=
 zad .lss false t29 t28 fun t30 =>
 zag t30
 (zak 3 t27 t29 fun t32 =>
 zae true 3 t32 H fun t33 =>
 zaz [(.int .i64 0), (.int .i64 0), .snil] H fun t10 H =>
 zar 3 t10 t33 H fun H =>
 zac H (fun K' => K' t0 H) fun t34 =>
 zac H (fun K' => K' t1 H) fun t35 =>
 zac H (fun K' => zad .add false t35 (.int .i64 1) (K' · H)) fun t36 =>
 zac H (fun K' => zaY 1 3 t34 none (some t36) (K' · H)) fun t37 =>
 zac H (fun K' => zai true 3 t10 H (K' · H)) fun t38 =>
 zac H (fun K' => K' t0 H) fun t39 =>
 zac H (fun K' => K' t1 H) fun t40 =>
 zac H (fun K' => zak 3 t39 t40 (K' · H)) fun t41 =>
 zac H (fun K' => zaf 1 t41 (K' · H)) fun t42 =>
 zac H (fun K' => zai false 1 t42 H (K' · H)) fun t43 =>
 zau H (fun H K' => ACalls tP zfC [t37, t38, t43] H K') fun t44 =>
 zac H (fun K' => aUn .not t44 (K' · H)) fun t45 =>
 zac H (fun K' => K' t45 H) fun t46 =>
 zab t46 false H (fun K' => zac H (fun K'' => K'' t8 H) (K' · H)) fun t47 H =>
 zab t46 false H (fun K' => zac H (fun K'' => K'' t29 H) (K' · H)) fun t48 H =>
 zab t46 false H (fun K' => zac H (fun K'' => zak 1 t47 t48 (K'' · H)) (K' · H)) fun t49 H =>
 zab t46 false H (fun K' => zac H (fun K'' => zai false 1 t49 H (K'' · H)) (K' · H)) fun t50 H =>
 zab t46 false H (fun K' => zac H (fun K'' => aUn .not t50 (K'' · H)) (K' · H)) fun t51 H =>
 zab t46 false H (fun K' => zac H (fun K'' => K'' t51 H) (K' · H)) fun t52 H =>
 zab t52 true H (fun K' => zac H (fun K'' => zai true 3 t10 H (K'' · H)) (K' · H)) fun t53 H =>
 zab t52 true H (fun K' => zac H (fun K'' => K'' t1 H) (K' · H)) fun t54 H =>
 zab t52 true H (fun K' => zau H (fun H K'' => ACalls tP zhW [t53, t54] H K'') (K' · H)) fun t55 H =>
 zab t46 false H (fun K' => zac H (fun K'' => zah t52 t55 (.bool false) (K'' · H)) (K' · H)) fun t56 H =>
 zac H (fun K' => zah t46 (.bool true) t56 (K' · H)) fun t57 =>
 zag t57
 (K (.bool false) H)
 (zad .add false t29 (.int .i64 1) fun t58 =>
 Kb6 (zg8 t0 t1 t8 t27 t28 t58) H))
 (K (.bool true) H)
def zve (t0 t1 t2 : AV) (H : zaa) (K : Kt) : Prop :=
 zak 3 t0 t1 fun t13 =>
 zaf 2 t13 fun t14 =>
 zae false 1 t14 H fun t15 =>
 zak 2 t15 t2 fun t17 =>
 zaf 1 t17 fun t18 =>
 zae false 1 t18 H fun t19 =>
 zaj 1 t19 fun t21 =>
 zad .gtr false t21 (.int .i64 6) fun t22 =>
 zag t22
 (K (.bool false) H)
 (ACalls tP zmn [t0, t1, t2] H fun t26 H =>
 zaj 1 t19 fun t28 =>
 zvf t0 t1 t26 t19 t28 (.int .i64 0) H K)
theorem zHu {t0 t1 t8 t27 t28 t29 : AV} {H : zaa} {K : Kt} (Inv : Nat → AV → zaa → Prop) (n : Nat) (h0 : HSc H → Inv n t29 H)
  (round : Rd1 (fun t29 => zg8 t0 t1 t8 t27 t28 t29) (fun t29 => fun H Kb6 => zpc t0 t1 t8 t27 t28 t29 H K Kb6) H Inv) : zvf t0 t1 t8 t27 t28 t29 H K :=
 lp1 (M := zkt) zHv t29 (by kernel_rfl) Inv n h0 round
theorem zHw {t0 t1 t2 : AV} {H : zaa} {K : Kt} (h : HSc H → zve t0 t1 t2 H K) : ACalls tP zmi [t0, t1, t2] H K :=
 zaw (M := zkt) Try.func67 (c := zpd) (by kernel_rfl) (fun hs => Eq.mpr (by kernel_rfl) (h hs))
def zHC (_ : Nat) : List Bool := []
noncomputable def zHD : Code := Try.f69.body.getD .skip
def zvh (t0 t1 : AV) (H : zaa) (K : Kt) : Prop :=
 zaF t0 H fun t2 H =>
 zaf 0 t1 fun t4 =>
 zae false 1 t4 H fun t5 =>
 zae true 3 t2 H fun t6 =>
 ACalls tP zfC [t5, t6, (.int .i64 0)] H fun t7 H =>
 aUn .not t7 fun t8 =>
 K t8 H
theorem zHE {t0 t1 : AV} {H : zaa} {K : Kt} (h : HSc H → zvh t0 t1 H K) : ACalls tP zmj [t0, t1] H K :=
 zaw (M := zHC) Try.func69 (c := zHD) (by kernel_rfl) (fun hs => Eq.mpr (by kernel_rfl) (h hs))
def zHL (_ : Nat) : List Bool := []
noncomputable def zHM : Code := Try.f72.body.getD .skip
def zpe (t0 t1 t2 : AV) (H : zaa) (K : Kt) : Prop :=
 zae false 1 t1 H fun t5 =>
 zak 1 t5 t0 fun t7 =>
 zae false 1 t7 H fun t8 =>
 zag t8
 (K (.bool false) H)
 (zae false 1 t1 H fun t9 =>
 zak 1 t9 t0 fun t11 =>
 zar 1 t11 (.bool true) H fun H =>
 zae false 1 t2 H fun t12 =>
 zad .add false t12 (.int .i64 1) fun t13 =>
 zar 1 t2 t13 H fun H =>
 K (.bool true) H)
theorem zHN {t0 t1 t2 : AV} {H : zaa} {K : Kt} (h : HSc H → zpe t0 t1 t2 H K) : ACalls tP zhS [t0, t1, t2] H K :=
 zaw (M := zHL) Try.func72 (c := zHM) (by kernel_rfl) (fun hs => Eq.mpr (by kernel_rfl) (h hs))
def zkw : Nat → List Bool
 | 2 => rl false [1,2,4,3,23]
 | _ => []
noncomputable def zpf : Code := Try.f73.body.getD .skip
noncomputable def zHT : List ResultVar := Try.f73.results.toList
def zkx (t1 t2 t7 t8 t9 : AV) : List AV := ux 1 (t1 :: t2 :: ux 4 (t7 :: t8 :: t9 :: ux 23 []))
def zHR : List Bool := zkw 2
noncomputable def zHP : Code := zao [1, 0, 1, 0, 0] zpf
def zHO (K : Kt) : AExit → List AV → zaa → Prop := zap tP zkw [1, 0, 1, 0] zpf (zat tP zHT K)
def zvl (t1 t2 t7 t8 t9 : AV) (H : zaa) (K : Kt) : Prop := ALoop tP zHP (zHO K) (zkx t1 t2 t7 t8 t9) H
def zfW (t1 t2 t7 t8 t9 : AV) (H : zaa) (K : Kt) (Kb2 : Lt) : Prop :=
 zad .lss false t9 t8 fun t10 =>
 zag t10
 (zak 1 t7 t9 fun t11 =>
 zae false 1 t11 H fun t12 =>
 zad .lss false t12 (.int .i64 0) fun t14 =>
 zab t14 false H (fun K' => K' t12 H) fun t16 H =>
 zab t14 false H (fun K' => zae false 1 t1 H (K' · H)) fun t17 H =>
 zab t14 false H (fun K' => zaj 1 t17 (K' · H)) fun t18 H =>
 zab t14 false H (fun K' => zad .geq false t16 t18 (K' · H)) fun t19 H =>
 zah t14 (.bool true) t19 fun t20 =>
 zab t20 false H (fun K' => zae false 1 t1 H (K' · H)) fun t22 H =>
 zab t20 false H (fun K' => K' t12 H) fun t23 H =>
 zab t20 false H (fun K' => zak 1 t22 t23 (K' · H)) fun t24 H =>
 zab t20 false H (fun K' => zae false 1 t24 H (K' · H)) fun t25 H =>
 zah t20 (.bool true) t25 fun t26 =>
 zag t26
 (K (.bool false) H)
 (zae false 1 t1 H fun t27 =>
 zak 1 t27 t12 fun t29 =>
 zar 1 t29 (.bool true) H fun H =>
 zae false 1 t2 H fun t30 =>
 zad .add false t30 (.int .i64 1) fun t31 =>
 zar 1 t2 t31 H fun H =>
 zad .add false t9 (.int .i64 1) fun t32 =>
 Kb2 (zkx t1 t2 t7 t8 t32) H))
 (K (.bool true) H)
def zvk (t0 t1 t2 : AV) (H : zaa) (K : Kt) : Prop :=
 zaj 1 t0 fun t8 =>
 zvl t1 t2 t0 t8 (.int .i64 0) H K
theorem zHQ {t1 t2 t7 t8 t9 : AV} {H : zaa} {K : Kt} (Inv : Nat → AV → zaa → Prop) (n : Nat) (h0 : HSc H → Inv n t9 H)
  (round : Rd1 (fun t9 => zkx t1 t2 t7 t8 t9) (fun t9 => fun H Kb2 => zfW t1 t2 t7 t8 t9 H K Kb2) H Inv) : zvl t1 t2 t7 t8 t9 H K :=
 lp1 (M := zkw) zHR t9 (by kernel_rfl) Inv n h0 round
theorem zHS {t0 t1 t2 : AV} {H : zaa} {K : Kt} (h : HSc H → zvk t0 t1 t2 H K) : ACalls tP zhT [t0, t1, t2] H K :=
 zaw (M := zkw) Try.func73 (c := zpf) (by kernel_rfl) (fun hs => Eq.mpr (by kernel_rfl) (h hs))
def zky : Nat → List Bool
 | 1 => rl false [1,2,4,3,8]
 | _ => []
noncomputable def zph : Code := Try.f74.body.getD .skip
noncomputable def zHZ : List ResultVar := Try.f74.results.toList
def zkz (t1 t2 t7 t8 t9 : AV) : List AV := ux 1 (t1 :: t2 :: ux 4 (t7 :: t8 :: t9 :: ux 8 []))
def zHX : List Bool := zky 1
noncomputable def zHV : Code := zao [1, 0, 0] zph
def zHU (K : Kt) : AExit → List AV → zaa → Prop := zap tP zky [1, 0] zph (zat tP zHZ K)
def zvn (t1 t2 t7 t8 t9 : AV) (H : zaa) (K : Kt) : Prop := ALoop tP zHV (zHU K) (zkz t1 t2 t7 t8 t9) H
def zpg (t1 t2 t7 t8 t9 : AV) (H : zaa) (K : Kt) (Kb1 : Lt) : Prop :=
 zad .lss false t9 t8 fun t10 =>
 zag t10
 (zak 1 t7 t9 fun t11 =>
 zae false 1 t11 H fun t12 =>
 zae false 1 t2 H fun t13 =>
 zak 1 t13 t12 fun t16 =>
 zar 1 t16 t1 H fun H =>
 zad .add false t9 (.int .i64 1) fun t17 =>
 Kb1 (zkz t1 t2 t7 t8 t17) H)
 (zaV [] (K · H))
def zvm (t0 t1 t2 : AV) (H : zaa) (K : Kt) : Prop :=
 zaj 1 t0 fun t8 =>
 zvn t1 t2 t0 t8 (.int .i64 0) H K
theorem zHW {t1 t2 t7 t8 t9 : AV} {H : zaa} {K : Kt} (Inv : Nat → AV → zaa → Prop) (n : Nat) (h0 : HSc H → Inv n t9 H)
  (round : Rd1 (fun t9 => zkz t1 t2 t7 t8 t9) (fun t9 => fun H Kb1 => zpg t1 t2 t7 t8 t9 H K Kb1) H Inv) : zvn t1 t2 t7 t8 t9 H K :=
 lp1 (M := zky) zHX t9 (by kernel_rfl) Inv n h0 round
theorem zHY {t0 t1 t2 : AV} {H : zaa} {K : Kt} (h : HSc H → zvm t0 t1 t2 H K) : ACalls tP zej [t0, t1, t2] H K :=
 zaw (M := zky) Try.func74 (c := zph) (by kernel_rfl) (fun hs => Eq.mpr (by kernel_rfl) (h hs))
def zfa : Nat → List Bool
 | 3 => rl false [2,3,2,1,10,3,46]
 | 9 => rl false [3,2,2,1,33,3,23]
 | 200011 => rl false [0,1]
 | 200014 => rl false [0,1]
 | _ => []
noncomputable def zg9 : Code := Try.f75.body.getD .skip
noncomputable def zvr : List ResultVar := Try.f75.results.toList
def zkA (t2 t3 t4 t7 t18 t19 t20 : AV) : List AV := ux 2 (t2 :: t3 :: t4 :: ux 2 (t7 :: ux 10 (t18 :: t19 :: t20 :: ux 46 [])))
def zH6 : List Bool := zfa 3
noncomputable def zH2 : Code := zao [1, 1, 0, 1, 0, 0] zg9
def zH0 (K : Kt) : AExit → List AV → zaa → Prop := zap tP zfa [1, 1, 0, 1, 0] zg9 (zat tP zvr K)
def zvp (t2 t3 t4 t7 t18 t19 t20 : AV) (H : zaa) (K : Kt) : Prop := ALoop tP zH2 (zH0 K) (zkA t2 t3 t4 t7 t18 t19 t20) H
def zkB (t3 t4 t7 t41 t42 t43 : AV) : List AV := ux 3 (t3 :: t4 :: ux 2 (t7 :: ux 33 (t41 :: t42 :: t43 :: ux 23 [])))
def zH7 : List Bool := zfa 9
noncomputable def zH3 : Code := zao [1, 1, 1, 0, 1, 0, 0] zg9
def zH1 (K : Kt) : AExit → List AV → zaa → Prop := zap tP zfa [1, 1, 1, 0, 1, 0] zg9 (zat tP zvr K)
def zvq (t3 t4 t7 t41 t42 t43 : AV) (H : zaa) (K : Kt) : Prop := ALoop tP zH3 (zH1 K) (zkB t3 t4 t7 t41 t42 t43) H
def zpi (t3 t4 t7 t41 t42 t43 : AV) (H : zaa) (K : Kt) (Kb9 : Lt) : Prop :=
 zad .lss false t43 t42 fun t44 =>
 zag t44
 (zak 1 t41 t43 fun t46 =>
 zae false 1 t46 H fun t47 =>
 zac H (fun K' => zai false 1 t3 H (K' · H)) fun t48 =>
 zac H (fun K' => zaf 3 t7 (K' · H)) fun t49 =>
 zac H (fun K' => zai false 1 t49 H (K' · H)) fun t50 =>
 zac H (fun K' => K' t43 H) fun t51 =>
 zac H (fun K' => zak 1 t50 t51 (K' · H)) fun t52 =>
 zac H (fun K' => zai false 1 t52 H (K' · H)) fun t53 =>
 zbt .w false H (fun K' => aCallV tP t48 [t53, (.bool true)] H K') fun t54 H =>
 zae false 1 t4 H fun t55 =>
 aCallV tP t55 [t47] H fun t57 H =>
 aUn .not t57 fun t58 =>
 zag t58
 (K (.bool false) H)
 (zac H (fun K' => zai false 1 t3 H (K' · H)) fun t59 =>
 zac H (fun K' => zaf 3 t7 (K' · H)) fun t60 =>
 zac H (fun K' => zai false 1 t60 H (K' · H)) fun t61 =>
 zac H (fun K' => K' t43 H) fun t62 =>
 zac H (fun K' => zak 1 t61 t62 (K' · H)) fun t63 =>
 zac H (fun K' => zai false 1 t63 H (K' · H)) fun t64 =>
 zbt .w false H (fun K' => aCallV tP t59 [t64, (.bool false)] H K') fun t65 H =>
 zad .add false t43 (.int .i64 1) fun t66 =>
 Kb9 (zkB t3 t4 t7 t41 t42 t66) H))
 (K (.bool true) H)
def zfX (t2 t3 t4 t7 t18 t19 t20 : AV) (H : zaa) (K : Kt) (Kb3 : Lt) : Prop :=
 zad .lss false t20 t19 fun t21 =>
 zag t21
 (zak 1 t18 t20 fun t22 =>
 zae false 1 t22 H fun t23 =>
 zad .lss false t23 (.int .i64 0) fun t25 =>
 zab t25 false H (fun K' => K' t23 H) fun t27 H =>
 zab t25 false H (fun K' => zae false 1 t2 H (K' · H)) fun t28 H =>
 zab t25 false H (fun K' => zaj 1 t28 (K' · H)) fun t29 H =>
 zab t25 false H (fun K' => zad .geq false t27 t29 (K' · H)) fun t30 H =>
 zah t25 (.bool true) t30 fun t31 =>
 zab t31 false H (fun K' => zae false 1 t2 H (K' · H)) fun t33 H =>
 zab t31 false H (fun K' => K' t23 H) fun t34 H =>
 zab t31 false H (fun K' => zak 1 t33 t34 (K' · H)) fun t35 H =>
 zab t31 false H (fun K' => zae false 1 t35 H (K' · H)) fun t36 H =>
 zab t31 false H (fun K' => aUn .not t36 (K' · H)) fun t37 H =>
 zah t31 (.bool true) t37 fun t38 =>
 zag t38
 (K (.bool false) H)
 (zad .add false t20 (.int .i64 1) fun t39 =>
 Kb3 (zkA t2 t3 t4 t7 t18 t19 t39) H))
 (zaf 4 t7 fun t40 =>
 zae false 1 t40 H fun t41 =>
 zaj 1 t41 fun t42 =>
 zvq t3 t4 t7 t41 t42 (.int .i64 0) H K)
def zvo (t0 t1 t2 t3 t4 : AV) (H : zaa) (K : Kt) : Prop :=
 zaf 3 t1 fun t12 =>
 zae false 1 t12 H fun t13 =>
 zak 8 t13 t0 fun t15 =>
 zae true 8 t15 H fun t16 =>
 zaz [(.int .i64 0), (.int .i64 0), .snil, .snil, .snil, (.int .i64 0), (.int .i64 0), .snil] H fun t7 H =>
 zar 8 t7 t16 H fun H =>
 zaf 2 t7 fun t17 =>
 zae false 1 t17 H fun t18 =>
 zaj 1 t18 fun t19 =>
 zvp t2 t3 t4 t7 t18 t19 (.int .i64 0) H K
theorem zH5 {t3 t4 t7 t41 t42 t43 : AV} {H : zaa} {K : Kt} (Inv : Nat → AV → zaa → Prop) (n : Nat) (h0 : HSc H → Inv n t43 H)
  (round : Rd1 (fun t43 => zkB t3 t4 t7 t41 t42 t43) (fun t43 => fun H Kb9 => zpi t3 t4 t7 t41 t42 t43 H K Kb9) H Inv) : zvq t3 t4 t7 t41 t42 t43 H K :=
 lp1 (M := zfa) zH7 t43 (by kernel_rfl) Inv n h0 round
theorem zH4 {t2 t3 t4 t7 t18 t19 t20 : AV} {H : zaa} {K : Kt} (Inv : Nat → AV → zaa → Prop) (n : Nat) (h0 : HSc H → Inv n t20 H)
  (round : Rd1 (fun t20 => zkA t2 t3 t4 t7 t18 t19 t20) (fun t20 => fun H Kb3 => zfX t2 t3 t4 t7 t18 t19 t20 H K Kb3) H Inv) : zvp t2 t3 t4 t7 t18 t19 t20 H K :=
 lp1 (M := zfa) zH6 t20 (by kernel_rfl) Inv n h0 round
theorem zH8 {t0 t1 t2 t3 t4 : AV} {H : zaa} {K : Kt} (h : HSc H → zvo t0 t1 t2 t3 t4 H K) : ACalls tP zek [t0, t1, t2, t3, t4] H K :=
 zaw (M := zfa) Try.func75 (c := zg9) (by kernel_rfl) (fun hs => Eq.mpr (by kernel_rfl) (h hs))
def zJF (_ : Nat) : List Bool := []
noncomputable def zJG : Code := Try.f91.body.getD .skip
def zkZ (t0 t1 t2 : AV) (H : zaa) (K : Kt) : Prop :=
 zaF t0 H fun t3 H =>
 zad .lss false t1 (.int .i64 0) fun t8 =>
 zab t8 false H (fun K' => zaf 2 t3 (K' · H)) fun t10 H =>
 zab t8 false H (fun K' => zae false 1 t10 H (K' · H)) fun t11 H =>
 zab t8 false H (fun K' => zaj 1 t11 (K' · H)) fun t12 H =>
 zab t8 false H (fun K' => K' t1 H) fun t13 H =>
 zab t8 false H (fun K' => zad .eql false t12 t13 (K' · H)) fun t14 H =>
 zah t8 (.bool true) t14 fun t15 =>
 zab t15 true H (fun K' => zaf 4 t3 (K' · H)) fun t17 H =>
 zab t15 true H (fun K' => zae false 1 t17 H (K' · H)) fun t18 H =>
 zab t15 true H (fun K' => zaj 1 t18 (K' · H)) fun t19 H =>
 zab t15 true H (fun K' => K' t2 H) fun t20 H =>
 zab t15 true H (fun K' => zad .eql false t19 t20 (K' · H)) fun t21 H =>
 zah t15 t21 (.bool false) fun t22 =>
 K t22 H
theorem zJH {t0 t1 t2 : AV} {H : zaa} {K : Kt} (h : HSc H → zkZ t0 t1 t2 H K) : ACalls tP zcn [t0, t1, t2] H K :=
 zaw (M := zJF) Try.func91 (c := zJG) (by kernel_rfl) (fun hs => Eq.mpr (by kernel_rfl) (h hs))
def zJI (_ : Nat) : List Bool := []
noncomputable def zJJ : Code := Try.f92.body.getD .skip
def zvY (t0 : AV) (H : zaa) (K : Kt) : Prop :=
 zaz [(.int .i64 0), (.int .i64 0), .snil] H fun t2 H =>
 zaI [(.int .i64 0), (.int .i64 0), .snil] [(0, 1), (1, 1), (2, 1)] [(0, t0)] fun t4 =>
 zar 3 t2 t4 H fun H =>
 zae true 3 t2 H fun r0 =>
 K r0 H
theorem zJK {t0 : AV} {H : zaa} {K : Kt} (h : HSc H → zvY t0 H K) : ACalls tP zco [t0] H K :=
 zaw (M := zJI) Try.func92 (c := zJJ) (by kernel_rfl) (fun hs => Eq.mpr (by kernel_rfl) (h hs))
def zJL (_ : Nat) : List Bool := []
noncomputable def zJM : Code := Try.f93.body.getD .skip
def zpO (t0 t1 : AV) (H : zaa) (K : Kt) : Prop :=
 aUn .neg t1 fun t6 =>
 zad .leq false t6 t0 fun t8 =>
 zab t8 true H (fun K' => K' t0 H) fun t10 H =>
 zab t8 true H (fun K' => K' t1 H) fun t11 H =>
 zab t8 true H (fun K' => zad .leq false t10 t11 (K' · H)) fun t12 H =>
 zah t8 t12 (.bool false) fun t13 =>
 K t13 H
theorem zJN {t0 t1 : AV} {H : zaa} {K : Kt} (h : HSc H → zpO t0 t1 H K) : ACalls tP zhZ [t0, t1] H K :=
 zaw (M := zJL) Try.func93 (c := zJM) (by kernel_rfl) (fun hs => Eq.mpr (by kernel_rfl) (h hs))
def zJO (_ : Nat) : List Bool := []
noncomputable def zJP : Code := Try.f94.body.getD .skip
def zvZ (t0 t1 t2 : AV) (H : zaa) (K : Kt) : Prop :=
 ACalls tP zdS [t0, t1] H fun t9 H =>
 ACalls tP zhY [t9, t2, (.fn zbF [])] H fun t11 H =>
 K t11 H
theorem zJQ {t0 t1 t2 : AV} {H : zaa} {K : Kt} (h : HSc H → zvZ t0 t1 t2 H K) : ACalls tP zb9 [t0, t1, t2] H K :=
 zaw (M := zJO) Try.func94 (c := zJP) (by kernel_rfl) (fun hs => Eq.mpr (by kernel_rfl) (h hs))
def zJR (_ : Nat) : List Bool := []
noncomputable def zJS : Code := Try.f95.body.getD .skip
def zv0 (t0 t1 : AV) (H : zaa) (K : Kt) : Prop :=
 zaz [(.int .i64 0), (.int .i64 0), .snil] H fun t4 H =>
 zaI [(.int .i64 0), (.int .i64 0), .snil] [(0, 1), (1, 1), (2, 1)] [(0, t0), (2, t1)] fun t7 =>
 zar 3 t4 t7 H fun H =>
 zae true 3 t4 H fun r0 =>
 K r0 H
theorem zJT {t0 t1 : AV} {H : zaa} {K : Kt} (h : HSc H → zv0 t0 t1 H K) : ACalls tP zdR [t0, t1] H K :=
 zaw (M := zJR) Try.func95 (c := zJS) (by kernel_rfl) (fun hs => Eq.mpr (by kernel_rfl) (h hs))
def zk0 : Nat → List Bool
 | 3 => rl false [0,1,4,1,2,3,16]
 | _ => []
noncomputable def zpQ : Code := Try.f96.body.getD .skip
noncomputable def zJZ : List ResultVar := Try.f96.results.toList
def zk1 (t0 t5 t8 t9 t10 : AV) : List AV := t0 :: ux 4 (t5 :: ux 2 (t8 :: t9 :: t10 :: ux 16 []))
def zJX : List Bool := zk0 3
noncomputable def zJV : Code := zao [1, 1, 0, 1, 0, 0] zpQ
def zJU (K : Kt) : AExit → List AV → zaa → Prop := zap tP zk0 [1, 1, 0, 1, 0] zpQ (zat tP zJZ K)
def zv2 (t0 t5 t8 t9 t10 : AV) (H : zaa) (K : Kt) : Prop := ALoop tP zJV (zJU K) (zk1 t0 t5 t8 t9 t10) H
def zpP (t0 t5 t8 t9 t10 : AV) (H : zaa) (K : Kt) (Kb3 : Lt) : Prop :=
 zad .lss false t10 t9 fun t11 =>
 zag t11
 (zak 1 t8 t10 fun t12 =>
 zae false 1 t12 H fun t13 =>
 za0 t0 fun t16 =>
 zaf 0 t16 fun t17 =>
 zaf 2 t17 fun t18 =>
 zae false 1 t18 H fun t19 =>
 zak 3 t19 t13 fun t21 =>
 zae true 3 t21 H fun t22 =>
 zay 3 [(.int .i64 0), (.int .i64 0), .snil] 1 [(0, t22)] fun t23 =>
 zaH zaA 3 40 t5 t23 H fun t24 H =>
 zad .add false t10 (.int .i64 1) fun t25 =>
 Kb3 (zk1 t0 t24 t8 t9 t25) H)
 (K t5 H)
def zv1 (t0 t1 : AV) (H : zaa) (K : Kt) : Prop :=
 zaj 1 t1 fun t9 =>
 zv2 t0 .snil t1 t9 (.int .i64 0) H K
theorem zJW {t0 t5 t8 t9 t10 : AV} {H : zaa} {K : Kt} (Inv : Nat → AV → AV → zaa → Prop) (n : Nat) (h0 : HSc H → Inv n t5 t10 H)
  (round : Rd2 (fun t5 => fun t10 => zk1 t0 t5 t8 t9 t10) (fun t5 => fun t10 => fun H Kb3 => zpP t0 t5 t8 t9 t10 H K Kb3) H Inv) : zv2 t0 t5 t8 t9 t10 H K :=
 lp2 (M := zk0) zJX t5 t10 (by kernel_rfl) Inv n h0 round
theorem zJY {t0 t1 : AV} {H : zaa} {K : Kt} (h : HSc H → zv1 t0 t1 H K) : ACalls tP zdS [t0, t1] H K :=
 zaw (M := zk0) Try.func96 (c := zpQ) (by kernel_rfl) (fun hs => Eq.mpr (by kernel_rfl) (h hs))
def zAP (_ : Nat) : List Bool := []
noncomputable def zAQ : Code := Try.f106.body.getD .skip
def zsQ (t0 t1 : AV) (H : zaa) (K : Kt) : Prop :=
 zaF t0 H fun t2 H =>
 zaf 3 t2 fun t5 =>
 zae false 1 t5 H fun t6 =>
 ACalls tP zrs [t6, t1, (.fn zl3 [])] H fun t8 H =>
 K t8 H
theorem zAR {t0 t1 : AV} {H : zaa} {K : Kt} (h : HSc H → zsQ t0 t1 H K) : ACalls tP zgp [t0, t1] H K :=
 zaw (M := zAP) Try.func106 (c := zAQ) (by kernel_rfl) (fun hs => Eq.mpr (by kernel_rfl) (h hs))
def zAS (_ : Nat) : List Bool := []
noncomputable def zAT : Code := Try.f107.body.getD .skip
def zsR (t0 t1 t2 : AV) (H : zaa) (K : Kt) : Prop :=
 zaF t1 H fun t4 H =>
 zaz [(.int .i64 0), (.int .i64 0), .snil] H fun t6 H =>
 zac H (fun K' => K' t0 H) fun t7 =>
 zac H (fun K' => za0 t7 (K' · H)) fun t8 =>
 zac H (fun K' => zaf 0 t8 (K' · H)) fun t9 =>
 zac H (fun K' => zaf 3 t9 (K' · H)) fun t10 =>
 zac H (fun K' => zai false 1 t10 H (K' · H)) fun t11 =>
 zac H (fun K' => zaf 4 t4 (K' · H)) fun t12 =>
 zac H (fun K' => zai false 1 t12 H (K' · H)) fun t13 =>
 zac H (fun K' => K' t2 H) fun t14 =>
 zac H (fun K' => zak 1 t13 t14 (K' · H)) fun t15 =>
 zac H (fun K' => zai false 1 t15 H (K' · H)) fun t16 =>
 zac H (fun K' => zak 8 t11 t16 (K' · H)) fun t17 =>
 zac H (fun K' => zaf 5 t17 (K' · H)) fun t18 =>
 zac H (fun K' => zai true 3 t18 H (K' · H)) fun t19 =>
 zar 3 t6 t19 H fun H =>
 zae true 3 t6 H fun r0 =>
 K r0 H
theorem zAU {t0 t1 t2 : AV} {H : zaa} {K : Kt} (h : HSc H → zsR t0 t1 t2 H K) : ACalls tP zhF [t0, t1, t2] H K :=
 zaw (M := zAS) Try.func107 (c := zAT) (by kernel_rfl) (fun hs => Eq.mpr (by kernel_rfl) (h hs))
def ziy : Nat → List Bool
 | 2 => rl false [0,1,3,1,2,1,16]
 | _ => []
noncomputable def zno : Code := Try.f108.body.getD .skip
noncomputable def zA0 : List ResultVar := Try.f108.results.toList
def ziz (t0 t4 t7 : AV) : List AV := t0 :: ux 3 (t4 :: ux 2 (t7 :: ux 16 []))
def zAY : List Bool := ziy 2
noncomputable def zAW : Code := zao [1, 0, 1, 0, 0] zno
def zAV (K : Kt) : AExit → List AV → zaa → Prop := zap tP ziy [1, 0, 1, 0] zno (zat tP zA0 K)
def zsT (t0 t4 t7 : AV) (H : zaa) (K : Kt) : Prop := ALoop tP zAW (zAV K) (ziz t0 t4 t7) H
def znn (t0 t4 t7 : AV) (H : zaa) (K : Kt) (Kb2 : Lt) : Prop :=
 zaf 4 t4 fun t10 =>
 zae false 1 t10 H fun t11 =>
 zaj 1 t11 fun t12 =>
 zad .lss false t7 t12 fun t13 =>
 zag t13
 (zac H (fun K' => K' t0 H) fun t16 =>
 zac H (fun K' => zai true 8 t4 H (K' · H)) fun t17 =>
 zac H (fun K' => K' t7 H) fun t18 =>
 zau H (fun H K' => ACalls tP zhF [t16, t17, t18] H K') fun t19 =>
 zac H (fun K' => zaf 5 t4 (K' · H)) fun t20 =>
 zac H (fun K' => zai true 3 t20 H (K' · H)) fun t21 =>
 zau H (fun H K' => ACalls tP zbF [t19, t21] H K') fun t22 =>
 zac H (fun K' => aUn .not t22 (K' · H)) fun t23 =>
 zag t23
 (K (.bool false) H)
 (zad .add false t7 (.int .i64 1) fun t15 =>
 Kb2 (ziz t0 t4 t15) H))
 (K (.bool true) H)
def zsS (t0 t1 t2 : AV) (H : zaa) (K : Kt) : Prop :=
 zaF t1 H fun t4 H =>
 zsT t0 t4 t2 H K
theorem zAX {t0 t4 t7 : AV} {H : zaa} {K : Kt} (Inv : Nat → AV → zaa → Prop) (n : Nat) (h0 : HSc H → Inv n t7 H)
  (round : Rd1 (fun t7 => ziz t0 t4 t7) (fun t7 => fun H Kb2 => znn t0 t4 t7 H K Kb2) H Inv) : zsT t0 t4 t7 H K :=
 lp1 (M := ziy) zAY t7 (by kernel_rfl) Inv n h0 round
theorem zAZ {t0 t1 t2 : AV} {H : zaa} {K : Kt} (h : HSc H → zsS t0 t1 t2 H K) : ACalls tP zdu [t0, t1, t2] H K :=
 zaw (M := ziy) Try.func108 (c := zno) (by kernel_rfl) (fun hs => Eq.mpr (by kernel_rfl) (h hs))
def ziZ : Nat → List Bool
 | 4 => rl false [1,2,12,3,14]
 | _ => []
noncomputable def znS : Code := Try.f127.body.getD .skip
noncomputable def zCH : List ResultVar := Try.f127.results.toList
def zi0 (t1 t2 t15 t16 t17 : AV) : List AV := ux 1 (t1 :: t2 :: ux 12 (t15 :: t16 :: t17 :: ux 14 []))
def zCF : List Bool := ziZ 4
noncomputable def zCD : Code := zao [1, 1, 0, 1, 0, 0] znS
def zCC (K : Kt) : AExit → List AV → zaa → Prop := zap tP ziZ [1, 1, 0, 1, 0] znS (zat tP zCH K)
def ztl (t1 t2 t15 t16 t17 : AV) (H : zaa) (K : Kt) : Prop := ALoop tP zCD (zCC K) (zi0 t1 t2 t15 t16 t17) H
def znR (t1 t2 t15 t16 t17 : AV) (H : zaa) (K : Kt) (Kb4 : Lt) : Prop :=
 zad .lss false t17 t16 fun t18 =>
 zag t18
 (zak 1 t15 t17 fun t20 =>
 zae false 1 t20 H fun t21 =>
 zak 1 t1 t17 fun t24 =>
 zae false 1 t24 H fun t25 =>
 aCallV tP t2 [t21, t25] H fun t29 H =>
 aUn .not t29 fun t30 =>
 zag t30
 (K (.bool false) H)
 (zad .add false t17 (.int .i64 1) fun t31 =>
 Kb4 (zi0 t1 t2 t15 t16 t31) H))
 (K (.bool true) H)
def znQ (t0 t1 t2 : AV) (H : zaa) (K : Kt) : Prop :=
 zaj 1 t0 fun t11 =>
 zaj 1 t1 fun t13 =>
 zad .neq false t11 t13 fun t14 =>
 zag t14
 (K (.bool false) H)
 (zaj 1 t0 fun t16 =>
 ztl t1 t2 t0 t16 (.int .i64 0) H K)
theorem zCE {t1 t2 t15 t16 t17 : AV} {H : zaa} {K : Kt} (Inv : Nat → AV → zaa → Prop) (n : Nat) (h0 : HSc H → Inv n t17 H)
  (round : Rd1 (fun t17 => zi0 t1 t2 t15 t16 t17) (fun t17 => fun H Kb4 => znR t1 t2 t15 t16 t17 H K Kb4) H Inv) : ztl t1 t2 t15 t16 t17 H K :=
 lp1 (M := ziZ) zCF t17 (by kernel_rfl) Inv n h0 round
theorem zCG {t0 t1 t2 : AV} {H : zaa} {K : Kt} (h : HSc H → znQ t0 t1 t2 H K) : ACalls tP zrs [t0, t1, t2] H K :=
 zaw (M := ziZ) Try.func127 (c := znS) (by kernel_rfl) (fun hs => Eq.mpr (by kernel_rfl) (h hs))
def zCI (_ : Nat) : List Bool := []
noncomputable def zCJ : Code := Try.f128.body.getD .skip
def ztm (t0 t1 : AV) (H : zaa) (K : Kt) : Prop :=
 zaj 1 t0 fun t6 =>
 zad .eql false t6 t1 fun t8 =>
 K t8 H
theorem zCK {t0 t1 : AV} {H : zaa} {K : Kt} (h : HSc H → ztm t0 t1 H K) : ACalls tP zl3 [t0, t1] H K :=
 zaw (M := zCI) Try.func128 (c := zCJ) (by kernel_rfl) (fun hs => Eq.mpr (by kernel_rfl) (h hs))
def zB4 (_ : Nat) : List Bool := []
noncomputable def zB6 : Code := Try.f13.body.getD .skip
def zs3 (t0 : AV) (H : zaa) (K : Kt) : Prop :=
 zaF t0 H fun t1 H =>
 zaf 0 t1 fun t3 =>
 zae false 1 t3 H fun t4 =>
 ACalls tP zl7 [t4] H fun t5 H =>
 zab t5 true H (fun K' => zae true 4 t1 H (K' · H)) fun t7 H =>
 zab t5 true H (fun K' => ACalls tP zl8 [t7] H K') fun t8 H =>
 zah t5 t8 (.bool false) fun t9 =>
 zab t9 true H (fun K' => zae true 4 t1 H (K' · H)) fun t11 H =>
 zab t9 true H (fun K' => ACalls tP zl9 [t11] H K') fun t12 H =>
 zah t9 t12 (.bool false) fun t13 =>
 zab t13 true H (fun K' => zae true 4 t1 H (K' · H)) fun t15 H =>
 zab t13 true H (fun K' => ACalls tP zma [t15] H K') fun t16 H =>
 zah t13 t16 (.bool false) fun t17 =>
 zab t17 true H (fun K' => zae true 4 t1 H (K' · H)) fun t19 H =>
 zab t17 true H (fun K' => ACalls tP zmb [t19] H K') fun t20 H =>
 zah t17 t20 (.bool false) fun t21 =>
 zab t21 true H (fun K' => zae true 4 t1 H (K' · H)) fun t23 H =>
 zab t21 true H (fun K' => ACalls tP zmc [t23] H K') fun t24 H =>
 zah t21 t24 (.bool false) fun t25 =>
 zab t25 true H (fun K' => zae true 4 t1 H (K' · H)) fun t27 H =>
 zab t25 true H (fun K' => ACalls tP zmd [t27] H K') fun t28 H =>
 zah t25 t28 (.bool false) fun t29 =>
 K t29 H
theorem zB7 {t0 : AV} {H : zaa} {K : Kt} (h : HSc H → zs3 t0 H K) : ACalls tP zfx [t0] H K :=
 zaw (M := zB4) Try.func13 (c := zB6) (by kernel_rfl) (fun hs => Eq.mpr (by kernel_rfl) (h hs))
end Go.Proofs.Ytkdmpbhbmmhijaa
namespace Go.Proofs.Ytkdmpbhbmmhijaa
open Go Go.Abs
set_option maxRecDepth 8000
def zdL (data : List Dat) (d : Nat) (vars : Int) (t : VT) : Bool := zav (data.take (d + 1)) vars t && (zcc d vars t || !zcd d t)
theorem zHy (data : List Dat) (d : Nat) (c : Nat) (hd : d < data.length) (hc : c < (data[d]).cons.length) (hl : data.length ≤ 1000000) (hcl : (data[d]).cons.length ≤ 1000000) (hal : ((data[d]).cons[c]).args.length ≤ 1000000)
  (hb : ∀ x ∈ ((data[d]).cons[c]).args, x.nodes ≤ 1000000) (H : zaa) (K : AV → zaa → Prop)
  (hK : K (.bool (decide (((data[d]).cons[c]).args.length ≤ 6) && ((data[d]).cons[c]).args.all (zdL data d (data[d]).vars))) H) :
  ACalls tP zmi [.sl (data.map Dat.cs) .none, .int .i64 d, .int .i64 c] H K := by
 refine ACalls.out (zHw fun hs => ?_)
 have e1 : (data.map Dat.cs)[d]? = some (data[d]).cs := by simp [hd]
 have e2 : ((data[d]).cons.map Con.cs)[c]? = some ((data[d]).cons[c]).cs := by simp [hc]
 have hrec := zJa data d c hd hc hl hcl hal hb
 generalize hD : data[d] = D at *
 generalize hA : D.cons[c] = C at *
 have hO : ∀ J, Out H.length K (.bool (decide (C.args.length ≤ 6) && C.args.all (zdL data d D.vars))) (H ++ J) := fun J => Out.bool rfl (Nat.le_refl _) hs hK
 simp [zve, e1, e2, Dat.cs, Con.cs, hd, hD, hc, hA]
 by_cases h6 : C.args.length ≤ 6
 ·have h6' : ¬ (6 : Int) < C.args.length := by omega
  have h6'' : ¬ 6 < C.args.length := by omega
  simp [h6', h6'']
  refine hrec _ _ ?_
  simp [h6] at hO
  refine zHu (Inv := fun q t29 H' => ∃ i : Nat, i ≤ C.args.length ∧ q = C.args.length - i ∧ t29 = .int .i64 i ∧ (C.args.drop i).all (zdL data d D.vars) = C.args.all (zdL data d D.vars) ∧ H = H') C.args.length ?_ ?_
  ·intro _; exact ⟨0, by omega, by omega, rfl, by simp, rfl⟩
  ·rintro q t29 H' ⟨i, hi, rfl, rfl, ho, rfl⟩ hsc hlen hsF Kb hKb
   by_cases hlt : i < C.args.length
   ·rw [List.drop_eq_getElem_cons hlt, List.all_cons] at ho
    have hnb := hb _ (List.getElem_mem hlt)
    obtain ⟨x1, x2, x3, hvx, hx1, hx2, hx3⟩ := zcK C.args[i]
    simp [zpc, hlt, hvx, e1, hd, hD, Dat.cs]
    refine ⟨⟨hx1, hx2, hx3⟩, ?_⟩
    rw [zaq (by omega) (by omega), show ((d : Int) + 1).toNat = d + 1 by omega, ← List.map_take]
    refine ⟨by omega, by omega, ?_⟩
    rw [← hvx]
    refine zax (.bool (zav (data.take (d + 1)) D.vars C.args[i])) (fun J => zku (data.take (d + 1)) D.vars _ (by omega) _ _ ⟨rfl, rfl⟩) ?_
    have hao : zdL data d D.vars C.args[i] = (zav (data.take (d + 1)) D.vars C.args[i] && (zcc d D.vars C.args[i] || !zcd d C.args[i])) := rfl
    rw [hao] at ho
    cases hv : zav (data.take (d + 1)) D.vars C.args[i] with
    | false =>
     rw [hv] at ho
     simp only [Bool.false_and] at ho
     rw [← ho] at hO
     simp; exact hO _
    | true =>
    rw [hv] at ho
    cases hsf : zcc d D.vars C.args[i] with
    | true =>
     rw [hsf] at ho
     simp [hlt, hsf]
     rw [zaq (by omega) (by omega)]
     refine hKb _ _ ⟨C.args.length - (i + 1), by omega, Back.same (by simp) hs ?_ ⟨_, rfl, i + 1, by omega, rfl, by simp, by simpa using ho, rfl⟩⟩
     simp [zg8, AV.sc, AV.scV, AV.scA, AV.scB]
    | false =>
     rw [hsf] at ho
     simp [hlt, hsf]
     refine zax (.bool (zcd d C.args[i])) (fun J => zJe d _ _ (Nat.le_refl _) (by omega) _ _ ⟨rfl, rfl⟩) ?_
     cases hm : zcd d C.args[i] with
     | true =>
      rw [hm] at ho
      simp only [Bool.not_true, Bool.or_false, Bool.and_false, Bool.false_and] at ho
      rw [← ho] at hO
      simp; exact hO _
     | false =>
      rw [hm] at ho
      simp
      rw [zaq (by omega) (by omega)]
      refine hKb _ _ ⟨C.args.length - (i + 1), by omega, Back.same (by simp) hs ?_ ⟨_, rfl, i + 1, by omega, rfl, by simp, by simpa using ho, rfl⟩⟩
      simp [zg8, AV.sc, AV.scV, AV.scA, AV.scB]
   ·obtain rfl : i = C.args.length := by omega
    rw [List.drop_length, List.all_nil] at ho
    rw [← ho] at hO
    simp [zpc]
    simpa using hO []
 ·have h6' : (6 : Int) < C.args.length := by omega
  have h6'' : 6 < C.args.length := by omega
  simp [h6', h6'']
  simp [h6] at hO
  simpa using hO []
def zbi (l : List (List UInt8)) : List (List UInt8 × AV) := l.map fun s => (s, .bool true)
theorem zdx (s : List UInt8) : ∀ l : List (List UInt8), (zb3 (zbi l) s).getD (.bool false) = .bool (decide (s ∈ l))
 | [] => by simp [zbi, zb3]
 | a :: l => by
  have := zdx s l
  cases h : a == s with
  | true =>
   have h' : a = s := by simpa using h
   simp [zbi, zb3, h, h']
  | false =>
   have h' : a ≠ s := by simpa using h
   have h'' : s ≠ a := fun e => h' e.symm
   simp only [zbi, List.map_cons, zb3, h] at this ⊢
   rw [this]; simp [h'']
theorem zmN (s : List UInt8) : ∀ l : List (List UInt8), s ∉ l → zcy (zbi l) s (.bool true) = zbi (l ++ [s])
 | [], _ => rfl
 | a :: l, h => by
  have h1 : (a == s) = false := by simp at h; simpa using fun e => h.1 e.symm
  have := zmN s l (by simp at h; exact h.2)
  simp only [zbi, List.map_cons, zcy, h1, List.cons_append] at this ⊢
  rw [this]
theorem zr1 (m : Nat) (l : List (List UInt8)) : (AB.map (zbi l)).sc m = true := by simp [AB.sc, zbi, AV.scV]
def zbn (data : List Dat) : List (List UInt8) := data.map Dat.name
def zaM (data : List Dat) : List (List UInt8) := data.flatMap fun D => D.cons.map Con.name
def zda (data : List Dat) (d : Nat) (vars : Int) (c : Con) : Bool := zcJ c.name && (decide (c.args.length ≤ 6) && c.args.all (zdL data d vars))
def zcN (data : List Dat) (d : Nat) (D : Dat) : Bool := zcJ D.name && decide (0 ≤ D.vars) && decide (D.vars ≤ 6) && decide (1 ≤ D.cons.length) && decide (D.cons.length ≤ 8) && D.cons.all (zda data d D.vars)
def zc1 (data : List Dat) : List Dat → Nat → Bool
 | [], _ => true
 | D :: l, d => zcN data d D && zc1 data l (d + 1)
def zci (data : List Dat) : Bool := decide (data.length ≤ 12) && zc1 data data 0 && !zbZ (zbn data) && !zbZ (zaM data)
theorem zrT {A R : List (List UInt8)} {s : List UInt8} (h : s ∈ A) : zbZ (A ++ s :: R) = true := by
 simp only [zbZ, Bool.not_eq_true', decide_eq_false_iff_not, List.nodup_append]
 rintro ⟨_, _, h3⟩
 exact h3 s h s (by simp) rfl
theorem zh7 {l : List (List UInt8)} (h : l.Nodup) : zbZ l = false := by simp [zbZ, h]
theorem zrA {A : List (List UInt8)} {s : List UInt8} (h : A.Nodup) (hs : s ∉ A) : (A ++ [s]).Nodup := by
 rw [List.nodup_append]
 refine ⟨h, by simp, ?_⟩
 intro a ha b hb
 simp at hb; subst hb
 exact fun e => hs (e ▸ ha)
def zp8 (data : List Dat) : Prop := ∀ D ∈ data, D.cons.length ≤ 1000000 ∧ ∀ c ∈ D.cons, c.args.length ≤ 1000000 ∧ ∀ x ∈ c.args, x.nodes ≤ 1000000
theorem zEn (data : List Dat) (hB : zp8 data) (hl : data.length ≤ 1000000) (H : zaa) (K : AV → zaa → Prop) (hK : K (.bool (zci data)) H) : ACalls tP zl7 [.sl (data.map Dat.cs) .none] H K := by
 refine ACalls.out (zEl fun hs => ?_)
 have hO : ∀ J, Out H.length K (.bool (zci data)) (H ++ J) := fun J => Out.bool rfl (Nat.le_refl _) hs hK
 by_cases h12 : data.length ≤ 12
 ·have h12' : ¬ (12 : Int) < data.length := by omega
  have h12'' : ¬ 12 < data.length := by omega
  have hD0 : zc1 data data 0 = false → ∀ J, Out H.length K (.bool false) (H ++ J) := fun h J => by
   have := hO J; rwa [show zci data = false by simp [zci, h]] at this
  have hD1 : zbZ (zbn data) = true → ∀ J, Out H.length K (.bool false) (H ++ J) := fun h J => by
   have := hO J; rwa [show zci data = false by simp [zci, h]] at this
  have hD2 : zbZ (zaM data) = true → ∀ J, Out H.length K (.bool false) (H ++ J) := fun h J => by
   have := hO J; rwa [show zci data = false by simp [zci, h]] at this
  simp [zok, h12', h12'']
  refine zEj (Inv := fun q t15 H' => ∃ i : Nat, i ≤ data.length ∧ q = data.length - i ∧ t15 = .int .i64 i ∧ zc1 data (data.drop i) i = zc1 data data 0 ∧ (zbn (data.take i)).Nodup ∧ (zaM (data.take i)).Nodup ∧ H' = H ++ [.map (zbi (zbn (data.take i))), .map (zbi (zaM (data.take i)))]) data.length ?_ ?_
  ·intro _; exact ⟨0, by omega, by omega, rfl, by simp, by simp [zbn], by simp [zaM], by simp [zbn, zaM, zbi]⟩
  ·rintro q t15 H' ⟨i, hi, rfl, rfl, ho, hdn, hcn, rfl⟩ hsc hlen hsF Kb hKb
   by_cases hlt : i < data.length
   ·have e1 : (data.map Dat.cs)[i]? = some (data[i]).cs := by simp [hlt]
    obtain ⟨hB1, hB2⟩ := hB _ (List.getElem_mem hlt)
    have hargs := fun c hc => zHy data i c hlt hc hl hB1 (hB2 _ (List.getElem_mem hc)).1 (hB2 _ (List.getElem_mem hc)).2
    rw [List.drop_eq_getElem_cons hlt, zc1] at ho
    have htk : data.take (i + 1) = data.take i ++ [data[i]] := by rw [List.take_append_getElem hlt]
    have hsplit : data = data.take i ++ data[i] :: data.drop (i + 1) := by rw [List.getElem_cons_drop, List.take_append_drop]
    generalize hD : data[i] = D at *
    have hbad : zcN data i D = false → zc1 data data 0 = false := fun h => by rw [← ho, h, Bool.false_and]
    have hno : ∀ J, zcN data i D = false → Out H.length K (.bool false) (H ++ [.map (zbi (zbn (data.take i))), .map (zbi (zaM (data.take i)))] ++ J) := fun J h => by
     rw [List.append_assoc]; exact hD0 (hbad h) _
    simp [zom, hlt, e1, hD, Dat.cs]
    refine zvd _ _ _ ?_
    cases hu : zcJ D.name with
    | false => simp; exact hD0 (hbad (by simp [zcN, hu])) _
    | true =>
    by_cases hmem : D.name ∈ zbn (data.take i)
    ·simp [hlt, e1, hD, Dat.cs, zdx, hmem]
     refine hD1 ?_ _
     rw [hsplit]; simp only [zbn, List.map_append, List.map_cons]
     exact zrT hmem
    by_cases hv0 : D.vars < 0
    ·simp [hlt, e1, hD, Dat.cs, zdx, hmem, hv0]
     exact hD0 (hbad (by simp [zcN, show ¬ 0 ≤ D.vars by omega])) _
    by_cases hv6 : 6 < D.vars
    ·simp [hlt, e1, hD, Dat.cs, zdx, hmem, hv0, hv6]
     exact hD0 (hbad (by simp [zcN, show ¬ D.vars ≤ 6 by omega])) _
    simp [hlt, e1, hD, Dat.cs, zdx, hmem, hv0, hv6, zmN _ _ hmem]
    by_cases hc1 : D.cons.length < 1
    ·have hc1' : (D.cons.length : Int) < 1 := by omega
     simp [hc1']
     exact hD0 (hbad (by simp [zcN, show ¬ 1 ≤ D.cons.length by omega])) _
    have hc1' : ¬ (D.cons.length : Int) < 1 := by omega
    by_cases hc8 : 8 < D.cons.length
    ·have hc8' : (8 : Int) < D.cons.length := by omega
     simp [hlt, e1, hD, Dat.cs, hc1', hc8', hc8]
     exact hD0 (hbad (by simp [zcN, show ¬ D.cons.length ≤ 8 by omega])) _
    have hc8' : ¬ (8 : Int) < D.cons.length := by omega
    have hdat : zcN data i D = D.cons.all (zda data i D.vars) := by
     simp [zcN, hu, show 0 ≤ D.vars by omega, show D.vars ≤ 6 by omega, show 1 ≤ D.cons.length by omega, show D.cons.length ≤ 8 by omega]
    simp [hlt, e1, hD, Dat.cs, hc1', hc8', hc8]
    have hdn' : (zbn (data.take (i + 1))).Nodup := by
     rw [htk]; simp only [zbn, List.map_append, List.map_cons, List.map_nil]; exact zrA hdn hmem
    have hde : zbn (data.take i) ++ [D.name] = zbn (data.take (i + 1)) := by rw [htk]; simp [zbn]
    rw [hde]
    refine zEi (Inv := fun q t78 H' => ∃ j : Nat, j ≤ D.cons.length ∧ q = D.cons.length - j ∧ t78 = .int .i64 j ∧ (D.cons.drop j).all (zda data i D.vars) = D.cons.all (zda data i D.vars) ∧ (zaM (data.take i) ++ (D.cons.take j).map Con.name).Nodup ∧ H' = H ++ [.map (zbi (zbn (data.take (i + 1)))), .map (zbi (zaM (data.take i) ++ (D.cons.take j).map Con.name))]) D.cons.length ?_ ?_
    ·intro _; exact ⟨0, by omega, by omega, rfl, by simp, by simpa using hcn, by simp⟩
    ·rintro q t78 H' ⟨j, hj, rfl, rfl, hoc, hcj, rfl⟩ hsc1 hlen1 hsF1 Kb1 hKb1
     have hscH : ∀ A B, HSc (H ++ [.map (zbi A), .map (zbi B)]) := fun A B => hs.append (by simp [zr1])
     by_cases hjl : j < D.cons.length
     ·have e2 : (D.cons.map Con.cs)[j]? = some (D.cons[j]).cs := by simp [hjl]
      have hargs' := hargs j hjl
      rw [List.drop_eq_getElem_cons hjl, List.all_cons] at hoc
      have htj : zaM (data.take i) ++ (D.cons.take (j + 1)).map Con.name = (zaM (data.take i) ++ (D.cons.take j).map Con.name) ++ [(D.cons[j]).name] := by
       rw [← List.take_append_getElem hjl, List.map_append, List.append_assoc]; rfl
      have hcs : zaM data = (zaM (data.take i) ++ (D.cons.take j).map Con.name) ++ (D.cons[j]).name :: ((D.cons.drop (j + 1)).map Con.name ++ zaM (data.drop (i + 1))) := by
       have h1 : D.cons.map Con.name = (D.cons.take j).map Con.name ++ (D.cons[j]).name :: (D.cons.drop (j + 1)).map Con.name := by
        rw [← List.map_cons (f := Con.name), List.getElem_cons_drop, ← List.map_append, List.take_append_drop]
       conv => lhs; rw [hsplit]
       simp only [zaM, List.flatMap_append, List.flatMap_cons, List.append_assoc, h1, List.cons_append]
      generalize hC : D.cons[j] = C at *
      have hbad' : zda data i D.vars C = false → zc1 data data 0 = false := fun h => hbad (by rw [hdat, ← hoc, h, Bool.false_and])
      generalize hA : zaM (data.take i) ++ (D.cons.take j).map Con.name = A at *
      simp only [zol]
      simp [hjl, hC, Con.cs, Nat.add_assoc]
      refine zvd _ _ _ ?_
      cases hu2 : zcJ C.name with
      | false => simp; exact hD0 (hbad' (by simp [zda, hu2])) _
      | true =>
      by_cases hm2 : C.name ∈ A
      ·simp [zdx, hm2]
       exact hD2 (by rw [hcs]; exact zrT hm2) _
      ·simp [zdx, hm2]
       refine hargs' _ _ ?_
       have hce : zda data i D.vars C = (decide (C.args.length ≤ 6) && C.args.all (zdL data i D.vars)) := by simp [zda, hu2]
       rw [← hce]
       cases hco : zda data i D.vars C with
       | false => simp; exact hD0 (hbad' hco) _
       | true =>
        rw [hco, Bool.true_and] at hoc
        simp [zmN _ _ hm2]
        rw [zaq (by omega) (by omega)]
        refine hKb1 _ _ ⟨D.cons.length - (j + 1), by omega, Back.at (J := [.cells [.str C.name, .sl (VT.css C.args) .none]]) (H2 := H ++ [.map (zbi (zbn (data.take (i + 1)))), .map (zbi (A ++ [C.name]))]) (by simp) (by simp) (hscH _ _) ?_ ⟨_, rfl, j + 1, by omega, rfl, by simp, hoc, ?_, ?_⟩⟩
        ·simp [zjy, AV.sc, AV.scV, AV.scA, AV.scB]
        ·rw [htj]; exact zrA hcj hm2
        ·rw [htj]
     ·obtain rfl : j = D.cons.length := by omega
      rw [List.drop_length, List.all_nil] at hoc
      rw [List.take_length] at *
      simp [zol]
      rw [zaq (by omega) (by omega)]
      have hce : zaM (data.take i) ++ D.cons.map Con.name = zaM (data.take (i + 1)) := by rw [htk]; simp [zaM]
      rw [hce] at hcj ⊢
      refine hKb _ _ ⟨data.length - (i + 1), by omega, Back.at (J := []) (by simp) (by simp) (hscH _ _) ?_ ⟨_, rfl, i + 1, by omega, rfl, by simp, ?_, hdn', hcj, rfl⟩⟩
      ·simp [zjz, AV.sc, AV.scV, AV.scA, AV.scB]
      ·rw [← ho, hdat, ← hoc, Bool.true_and]
   ·obtain rfl : i = data.length := by omega
    rw [List.drop_length, zc1] at ho
    rw [List.take_length] at *
    simp [zom]
    have := hO [.map (zbi (zbn data)), .map (zbi (zaM data))]
    rwa [show zci data = true by simp [zci, h12, ← ho, zh7 hdn, zh7 hcn]] at this
 ·have h12' : (12 : Int) < data.length := by omega
  have h12'' : 12 < data.length := by omega
  rw [show zci data = false by simp [zci, h12]] at hO
  simp [zok, h12', h12'']
  simpa using hO []
end Go.Proofs.Ytkdmpbhbmmhijaa
