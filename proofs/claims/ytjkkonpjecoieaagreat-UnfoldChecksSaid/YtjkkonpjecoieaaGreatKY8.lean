import Derived.Test.YtjkkonpjecoieaaGreatKNum
import Derived.Test.YtjkkonpjecoieaaGreatProg
import Derived.KernelRfl
import Derived.Test.YtjkkonpjecoieaaGreatKGY2
set_option linter.unusedSimpArgs false
set_option linter.unusedVariables false
namespace Go.Proofs.YtjkkonpjecoieaaGreat
open Go Go.Abs
set_option maxRecDepth 100000
def zlN : Nat → List Bool
 | 24 => rl false [0,1,1,1,1,1,2,2,103]
 | _ => []
noncomputable def zrw : Code := Tryz.f85.body.getD .skip
noncomputable def zOg : List ResultVar := Tryz.f85.results.toList
def zlO (t0 t2 t4 t7 t8 : AV) : List AV := t0 :: ux 1 (t2 :: ux 1 (t4 :: ux 2 (t7 :: t8 :: ux 103 [])))
def zOd : List Bool := zlN 24
noncomputable def zOb : Code := zas [1, 1, 1, 0, 1, 0, 0] zrw
def zOa (K : Kt) : AExit → List AV → zaa → Prop := zat tP zlN [1, 1, 1, 0, 1, 0] zrw (zaA tP zOg K)
def zrx (t0 t2 t4 t7 t8 : AV) (H : zaa) (K : Kt) : Prop := ALoop tP zOb (zOa K) (zlO t0 t2 t4 t7 t8) H
def zrv (t0 t2 t4 t7 t8 : AV) (H : zaa) (K : Kt) (Kb24 : Lt) : Prop :=
 zac .lss false t8 t7 fun t100 =>
 zag t100
 (zaf 2 t4 fun t104 =>
 zad false 1 t104 H fun t105 =>
 zaj 3 t105 t8 fun t107 =>
 zad true 3 t107 H fun t108 =>
 ACalls tP zix [t0, t108, t2] H fun t110 H =>
 aUn .not t110 fun t111 =>
 zag t111
 (K (.bool false) H)
 (zac .add false t8 (.int .i64 1) fun t102 =>
 Kb24 (zlO t0 t2 t4 t7 t102) H))
 (K (.bool true) H)
def zhr (t0 t2 t4 t7 : AV) (H : zaa) (K : Kt) : Prop :=
 zrx t0 t2 t4 t7 (.int .i64 0) H K
def zep (t0 t2 t4 t7 : AV) (H : zaa) (K : Kt) : Prop :=
 zhr t0 t2 t4 t7 H K
def zdD (t0 t2 t4 t7 t13 t75 : AV) (H : zaa) (K : Kt) : Prop :=
 zag t75
 (zaf 1 t4 fun t78 =>
 zad false 1 t78 H fun t79 =>
 zac .neq false t79 (.int .i64 0) fun t80 =>
 zab t80 false H (fun K' => K' t7 H) fun t82 H =>
 zab t80 false H (fun K' => zac .neq false t82 (.int .i64 1) (K' · H)) fun t83 H =>
 zai t80 (.bool true) t83 fun t84 =>
 zag t84
 (K (.bool false) H)
 (zep t0 t2 t4 t7 H K))
 (zac .eql false t13 (.int .i64 9) fun t86 =>
 zag t86
 (zaf 1 t4 fun t87 =>
 zad false 1 t87 H fun t88 =>
 zac .neq false t88 (.int .i64 0) fun t89 =>
 zab t89 false H (fun K' => K' t7 H) fun t91 H =>
 zab t89 false H (fun K' => zac .lss false t91 (.int .i64 1) (K' · H)) fun t92 H =>
 zai t89 (.bool true) t92 fun t93 =>
 zab t93 false H (fun K' => K' t7 H) fun t95 H =>
 zab t93 false H (fun K' => zac .gtr false t95 (.int .i64 7) (K' · H)) fun t96 H =>
 zai t93 (.bool true) t96 fun t97 =>
 zag t97
 (K (.bool false) H)
 (zep t0 t2 t4 t7 H K))
 (K (.bool false) H))
def zbE (t0 t2 t4 t7 t13 t14 : AV) (H : zaa) (K : Kt) : Prop :=
 zag t14
 (zaf 1 t4 fun t18 =>
 zad false 1 t18 H fun t19 =>
 zac .eql false t19 (.int .i64 0) fun t20 =>
 zab t20 true H (fun K' => K' t7 H) fun t22 H =>
 zab t20 true H (fun K' => zac .eql false t22 (.int .i64 0) (K' · H)) fun t23 H =>
 zai t20 t23 (.bool false) fun t24 =>
 K t24 H)
 (zac .eql false t13 (.int .i64 4) fun t26 =>
 zag t26
 (zaf 1 t4 fun t27 =>
 zad false 1 t27 H fun t28 =>
 zac .geq false t28 (.int .i64 0) fun t29 =>
 zab t29 true H (fun K' => zaf 1 t4 (K' · H)) fun t31 H =>
 zab t29 true H (fun K' => zad false 1 t31 H (K' · H)) fun t32 H =>
 zab t29 true H (fun K' => K' t2 H) fun t33 H =>
 zab t29 true H (fun K' => zac .lss false t32 t33 (K' · H)) fun t34 H =>
 zai t29 t34 (.bool false) fun t35 =>
 zab t35 true H (fun K' => K' t7 H) fun t37 H =>
 zab t35 true H (fun K' => zac .eql false t37 (.int .i64 0) (K' · H)) fun t38 H =>
 zai t35 t38 (.bool false) fun t39 =>
 K t39 H)
 (zac .eql false t13 (.int .i64 5) fun t41 =>
 zag t41
 (zaf 1 t4 fun t42 =>
 zad false 1 t42 H fun t43 =>
 zac .lss false t43 (.int .i64 0) fun t44 =>
 zab t44 false H (fun K' => zaf 1 t4 (K' · H)) fun t46 H =>
 zab t44 false H (fun K' => zad false 1 t46 H (K' · H)) fun t47 H =>
 zab t44 false H (fun K' => K' t0 H) fun t48 H =>
 zab t44 false H (fun K' => zah 1 t48 (K' · H)) fun t49 H =>
 zab t44 false H (fun K' => zac .geq false t47 t49 (K' · H)) fun t50 H =>
 zai t44 (.bool true) t50 fun t51 =>
 zab t51 false H (fun K' => K' t7 H) fun t53 H =>
 zab t51 false H (fun K' => K' t0 H) fun t54 H =>
 zab t51 false H (fun K' => zaf 1 t4 (K' · H)) fun t55 H =>
 zab t51 false H (fun K' => zad false 1 t55 H (K' · H)) fun t56 H =>
 zab t51 false H (fun K' => zaj 3 t54 t56 (K' · H)) fun t57 H =>
 zab t51 false H (fun K' => zaf 1 t57 (K' · H)) fun t58 H =>
 zab t51 false H (fun K' => zad false 1 t58 H (K' · H)) fun t59 H =>
 zab t51 false H (fun K' => zac .neq false t53 t59 (K' · H)) fun t60 H =>
 zai t51 (.bool true) t60 fun t61 =>
 zag t61
 (K (.bool false) H)
 (zep t0 t2 t4 t7 H K))
 (zac .eql false t13 (.int .i64 6) fun t63 =>
 zag t63
 (zaf 1 t4 fun t64 =>
 zad false 1 t64 H fun t65 =>
 zac .neq false t65 (.int .i64 0) fun t66 =>
 zab t66 false H (fun K' => K' t7 H) fun t68 H =>
 zab t66 false H (fun K' => zac .lss false t68 (.int .i64 2) (K' · H)) fun t69 H =>
 zai t66 (.bool true) t69 fun t70 =>
 zab t70 false H (fun K' => K' t7 H) fun t72 H =>
 zab t70 false H (fun K' => zac .gtr false t72 (.int .i64 6) (K' · H)) fun t73 H =>
 zai t70 (.bool true) t73 fun t74 =>
 zag t74
 (K (.bool false) H)
 (zep t0 t2 t4 t7 H K))
 (zac .eql false t13 (.int .i64 7) fun t76 =>
 zag t76
 (zdD t0 t2 t4 t7 t13 t76 H K)
 (zac .eql false t13 (.int .i64 8) fun t77 =>
 zdD t0 t2 t4 t7 t13 t77 H K)))))
def zco (t0 t1 t2 : AV) (H : zaa) (K : Kt) : Prop :=
 zao t1 H fun t4 H =>
 zaf 2 t4 fun t9 =>
 zad false 1 t9 H fun t10 =>
 zah 1 t10 fun t11 =>
 zaf 0 t4 fun t12 =>
 zad false 1 t12 H fun t13 =>
 zac .eql false t13 (.int .i64 1) fun t15 =>
 zag t15
 (zbE t0 t2 t4 t11 t13 t15 H K)
 (zac .eql false t13 (.int .i64 2) fun t16 =>
 zag t16
 (zbE t0 t2 t4 t11 t13 t16 H K)
 (zac .eql false t13 (.int .i64 3) fun t17 =>
 zbE t0 t2 t4 t11 t13 t17 H K))
theorem zOc {t0 t2 t4 t7 t8 : AV} {H : zaa} {K : Kt} (Inv : Nat → AV → zaa → Prop) (n : Nat) (h0 : HSc H → Inv n t8 H)
  (round : Rd1 (fun t8 => zlO t0 t2 t4 t7 t8) (fun t8 => fun H Kb24 => zrv t0 t2 t4 t7 t8 H K Kb24) H Inv) : zrx t0 t2 t4 t7 t8 H K :=
 lp1 (M := zlN) zOd t8 (by kernel_rfl) Inv n h0 round
theorem zOe {t0 t1 t2 : AV} {H : zaa} {K : Kt} (h : HSc H → zco t0 t1 t2 H K) : ACalls tP zix [t0, t1, t2] H K :=
 zam (M := zlN) Tryz.func85 (c := zrw) (by kernel_rfl) (fun hs => Eq.mpr (by kernel_rfl) (h hs))
def zks : Nat → List Bool
 | 5 => rl false [4,1,3,1,54,3,16]
 | _ => []
noncomputable def zpV : Code := Tryz.f19.body.getD .skip
noncomputable def zIM : List ResultVar := Tryz.f19.results.toList
def zkt (t4 t8 t63 t64 t65 : AV) : List AV := ux 4 (t4 :: ux 3 (t8 :: ux 54 (t63 :: t64 :: t65 :: ux 16 [])))
def zIK : List Bool := zks 5
noncomputable def zII : Code := zas [1, 1, 1, 0, 1, 0, 0] zpV
def zIH (K : Kt) : AExit → List AV → zaa → Prop := zat tP zks [1, 1, 1, 0, 1, 0] zpV (zaA tP zIM K)
def zku (t4 t8 t63 t64 t65 : AV) (H : zaa) (K : Kt) : Prop := ALoop tP zII (zIH K) (zkt t4 t8 t63 t64 t65) H
def zpU (t4 t8 t63 t64 t65 : AV) (H : zaa) (K : Kt) (Kb5 : Lt) : Prop :=
 zac .lss false t65 t64 fun t66 =>
 zag t66
 (zaj 3 t63 t65 fun t67 =>
 zad true 3 t67 H fun t68 =>
 zau [(.int .i64 0), (.int .i64 0), .snil] H fun t10 H =>
 zak 3 t10 t68 H fun H =>
 zad true 3 t10 H fun t69 =>
 zaf 2 t4 fun t70 =>
 zad false 1 t70 H fun t71 =>
 ACalls tP zir [t69, t71] H fun t72 H =>
 zau [(.int .i64 0), (.int .i64 0), .snil] H fun t11 H =>
 zak 3 t11 t72 H fun H =>
 zad true 3 t11 H fun t73 =>
 ACalls tP zgL [t73] H fun t74 H =>
 zac .gtr false t74 (.int .i64 200) fun t75 =>
 zag t75
 (zaD [.snil, (.bool false)] (K · H))
 (zad true 3 t11 H fun t77 =>
 zaz 3 [(.int .i64 0), (.int .i64 0), .snil] 1 [(0, t77)] fun t78 =>
 zaw zaV 3 40 t8 t78 H fun t79 H =>
 zac .add false t65 (.int .i64 1) fun t80 =>
 Kb5 (zkt t4 t79 t63 t64 t80) H))
 (zaD [t8, (.bool true)] (K · H))
def zxq (t0 t1 t2 : AV) (H : zaa) (K : Kt) : Prop :=
 zao t1 H fun t4 H =>
 zae H (fun K' => zaf 0 t4 (K' · H)) fun t12 =>
 zae H (fun K' => zal false 1 t12 H (K' · H)) fun t13 =>
 zae H (fun K' => zac .neq false t13 (.int .i64 5) (K' · H)) fun t14 =>
 zae H (fun K' => K' t14 H) fun t15 =>
 zab t15 false H (fun K' => zae H (fun K'' => zaf 1 t4 (K'' · H)) (K' · H)) fun t16 H =>
 zab t15 false H (fun K' => zae H (fun K'' => zal false 1 t16 H (K'' · H)) (K' · H)) fun t17 H =>
 zab t15 false H (fun K' => zae H (fun K'' => zac .lss false t17 (.int .i64 0) (K'' · H)) (K' · H)) fun t18 H =>
 zae H (fun K' => zai t15 (.bool true) t18 (K' · H)) fun t19 =>
 zae H (fun K' => K' t19 H) fun t20 =>
 zab t20 false H (fun K' => zae H (fun K'' => zaf 1 t4 (K'' · H)) (K' · H)) fun t21 H =>
 zab t20 false H (fun K' => zae H (fun K'' => zal false 1 t21 H (K'' · H)) (K' · H)) fun t22 H =>
 zab t20 false H (fun K' => zae H (fun K'' => K'' t0 H) (K' · H)) fun t23 H =>
 zab t20 false H (fun K' => zae H (fun K'' => zah 1 t23 (K'' · H)) (K' · H)) fun t24 H =>
 zab t20 false H (fun K' => zae H (fun K'' => zac .geq false t22 t24 (K'' · H)) (K' · H)) fun t25 H =>
 zae H (fun K' => zai t20 (.bool true) t25 (K' · H)) fun t26 =>
 zae H (fun K' => K' t26 H) fun t27 =>
 zab t27 false H (fun K' => zae H (fun K'' => zaf 2 t4 (K'' · H)) (K' · H)) fun t28 H =>
 zab t27 false H (fun K' => zae H (fun K'' => zal false 1 t28 H (K'' · H)) (K' · H)) fun t29 H =>
 zab t27 false H (fun K' => zae H (fun K'' => zah 1 t29 (K'' · H)) (K' · H)) fun t30 H =>
 zab t27 false H (fun K' => zae H (fun K'' => K'' t0 H) (K' · H)) fun t31 H =>
 zab t27 false H (fun K' => zae H (fun K'' => zaf 1 t4 (K'' · H)) (K' · H)) fun t32 H =>
 zab t27 false H (fun K' => zae H (fun K'' => zal false 1 t32 H (K'' · H)) (K' · H)) fun t33 H =>
 zab t27 false H (fun K' => zae H (fun K'' => zaj 3 t31 t33 (K'' · H)) (K' · H)) fun t34 H =>
 zab t27 false H (fun K' => zae H (fun K'' => zaf 1 t34 (K'' · H)) (K' · H)) fun t35 H =>
 zab t27 false H (fun K' => zae H (fun K'' => zal false 1 t35 H (K'' · H)) (K' · H)) fun t36 H =>
 zab t27 false H (fun K' => zae H (fun K'' => zac .neq false t30 t36 (K'' · H)) (K' · H)) fun t37 H =>
 zae H (fun K' => zai t27 (.bool true) t37 (K' · H)) fun t38 =>
 zae H (fun K' => K' t38 H) fun t39 =>
 zab t39 false H (fun K' => zae H (fun K'' => K'' t2 H) (K' · H)) fun t40 H =>
 zab t39 false H (fun K' => zae H (fun K'' => zac .lss false t40 (.int .i64 0) (K'' · H)) (K' · H)) fun t41 H =>
 zae H (fun K' => zai t39 (.bool true) t41 (K' · H)) fun t42 =>
 zae H (fun K' => K' t42 H) fun t43 =>
 zab t43 false H (fun K' => zae H (fun K'' => K'' t2 H) (K' · H)) fun t44 H =>
 zab t43 false H (fun K' => zae H (fun K'' => K'' t0 H) (K' · H)) fun t45 H =>
 zab t43 false H (fun K' => zae H (fun K'' => zaf 1 t4 (K'' · H)) (K' · H)) fun t46 H =>
 zab t43 false H (fun K' => zae H (fun K'' => zal false 1 t46 H (K'' · H)) (K' · H)) fun t47 H =>
 zab t43 false H (fun K' => zae H (fun K'' => zaj 3 t45 t47 (K'' · H)) (K' · H)) fun t48 H =>
 zab t43 false H (fun K' => zae H (fun K'' => zaf 2 t48 (K'' · H)) (K' · H)) fun t49 H =>
 zab t43 false H (fun K' => zae H (fun K'' => zal false 1 t49 H (K'' · H)) (K' · H)) fun t50 H =>
 zab t43 false H (fun K' => zae H (fun K'' => zah 1 t50 (K'' · H)) (K' · H)) fun t51 H =>
 zab t43 false H (fun K' => zae H (fun K'' => zac .geq false t44 t51 (K'' · H)) (K' · H)) fun t52 H =>
 zae H (fun K' => zai t43 (.bool true) t52 (K' · H)) fun t53 =>
 zag t53
 (zaD [.snil, (.bool false)] (K · H))
 (zaf 1 t4 fun t55 =>
 zad false 1 t55 H fun t56 =>
 zaj 3 t0 t56 fun t57 =>
 zaf 2 t57 fun t58 =>
 zad false 1 t58 H fun t59 =>
 zaj 2 t59 t2 fun t61 =>
 zaf 1 t61 fun t62 =>
 zad false 1 t62 H fun t63 =>
 zah 1 t63 fun t64 =>
 zku t4 .snil t63 t64 (.int .i64 0) H K)
theorem zIJ {t4 t8 t63 t64 t65 : AV} {H : zaa} {K : Kt} (Inv : Nat → AV → AV → zaa → Prop) (n : Nat) (h0 : HSc H → Inv n t8 t65 H)
  (round : Rd2 (fun t8 => fun t65 => zkt t4 t8 t63 t64 t65) (fun t8 => fun t65 => fun H Kb5 => zpU t4 t8 t63 t64 t65 H K Kb5) H Inv) : zku t4 t8 t63 t64 t65 H K :=
 lp2 (M := zks) zIK t8 t65 (by kernel_rfl) Inv n h0 round
theorem zIL {t0 t1 t2 : AV} {H : zaa} {K : Kt} (h : HSc H → zxq t0 t1 t2 H K) : ACalls tP zgD [t0, t1, t2] H K :=
 zam (M := zks) Tryz.func19 (c := zpV) (by kernel_rfl) (fun hs => Eq.mpr (by kernel_rfl) (h hs))
def zlq : Nat → List Bool
 | 5 => rl false [1,2,1,3,46]
 | _ => []
noncomputable def zq6 : Code := Tryz.f54.body.getD .skip
noncomputable def zMO : List ResultVar := Tryz.f54.results.toList
def zlr (t1 t2 t4 t5 t6 : AV) : List AV := ux 1 (t1 :: t2 :: ux 1 (t4 :: t5 :: t6 :: ux 46 []))
def zMM : List Bool := zlq 5
noncomputable def zMK : Code := zas [1, 1, 1, 0, 1, 0, 0] zq6
def zMJ (K : Kt) : AExit → List AV → zaa → Prop := zat tP zlq [1, 1, 1, 0, 1, 0] zq6 (zaA tP zMO K)
def zq7 (t1 t2 t4 t5 t6 : AV) (H : zaa) (K : Kt) : Prop := ALoop tP zMK (zMJ K) (zlr t1 t2 t4 t5 t6) H
def zq5 (t1 t2 t4 t5 t6 : AV) (H : zaa) (K : Kt) (Kb5 : Lt) : Prop :=
 zaf 2 t2 fun t34 =>
 zad false 1 t34 H fun t35 =>
 zah 1 t35 fun t36 =>
 zac .lss false t6 t36 fun t37 =>
 zag t37
 (zae H (fun K' => zaf 2 t5 (K' · H)) fun t40 =>
 zae H (fun K' => zal false 1 t40 H (K' · H)) fun t41 =>
 zae H (fun K' => zaf 2 t2 (K' · H)) fun t42 =>
 zae H (fun K' => zal false 1 t42 H (K' · H)) fun t43 =>
 zae H (fun K' => K' t6 H) fun t44 =>
 zae H (fun K' => zaj 3 t43 t44 (K' · H)) fun t45 =>
 zae H (fun K' => zal true 3 t45 H (K' · H)) fun t46 =>
 zae H (fun K' => K' t1 H) fun t47 =>
 zaG H (fun H K' => ACalls tP zir [t46, t47] H K') fun t48 =>
 zae H (fun K' => zaz 3 [(.int .i64 0), (.int .i64 0), .snil] 1 [(0, t48)] (K' · H)) fun t49 =>
 zaw zaV 3 40 t41 t49 H fun t50 H =>
 zae H (fun K' => zaf 2 t5 (K' · H)) fun t51 =>
 zak 1 t51 t50 H fun H =>
 zac .add false t6 (.int .i64 1) fun t39 =>
 Kb5 (zlr t1 t2 t4 t5 t39) H)
 (zad true 3 t5 H fun t52 =>
 zak 3 t4 t52 H fun H =>
 zad true 3 t4 H fun r0 =>
 K r0 H)
def zq3 (t0 t1 : AV) (H : zaa) (K : Kt) : Prop :=
 zao t0 H fun t2 H =>
 zau [(.int .i64 0), (.int .i64 0), .snil] H fun t4 H =>
 zaf 0 t2 fun t7 =>
 zad false 1 t7 H fun t8 =>
 zac .eql false t8 (.int .i64 4) fun t9 =>
 zab t9 true H (fun K' => zaf 1 t2 (K' · H)) fun t11 H =>
 zab t9 true H (fun K' => zad false 1 t11 H (K' · H)) fun t12 H =>
 zab t9 true H (fun K' => zac .geq false t12 (.int .i64 0) (K' · H)) fun t13 H =>
 zai t9 t13 (.bool false) fun t14 =>
 zab t14 true H (fun K' => zaf 1 t2 (K' · H)) fun t16 H =>
 zab t14 true H (fun K' => zad false 1 t16 H (K' · H)) fun t17 H =>
 zab t14 true H (fun K' => K' t1 H) fun t18 H =>
 zab t14 true H (fun K' => zah 1 t18 (K' · H)) fun t19 H =>
 zab t14 true H (fun K' => zac .lss false t17 t19 (K' · H)) fun t20 H =>
 zai t14 t20 (.bool false) fun t21 =>
 zag t21
 (zaf 1 t2 fun t23 =>
 zad false 1 t23 H fun t24 =>
 zaj 3 t1 t24 fun t25 =>
 zad true 3 t25 H fun t26 =>
 ACalls tP zhV [t26] H fun t27 H =>
 zak 3 t4 t27 H fun H =>
 zad true 3 t4 H fun r0 =>
 K r0 H)
 (zaf 0 t2 fun t28 =>
 zad false 1 t28 H fun t29 =>
 zaf 1 t2 fun t30 =>
 zad false 1 t30 H fun t31 =>
 zax [(.int .i64 0), (.int .i64 0), .snil] [(0, 1), (1, 1), (2, 1)] [(0, t29), (1, t31)] fun t32 =>
 zau [(.int .i64 0), (.int .i64 0), .snil] H fun t5 H =>
 zak 3 t5 t32 H fun H =>
 zq7 t1 t2 t4 t5 (.int .i64 0) H K)
theorem zML {t1 t2 t4 t5 t6 : AV} {H : zaa} {K : Kt} (Inv : Nat → AV → zaa → Prop) (n : Nat) (h0 : HSc H → Inv n t6 H)
  (round : Rd1 (fun t6 => zlr t1 t2 t4 t5 t6) (fun t6 => fun H Kb5 => zq5 t1 t2 t4 t5 t6 H K Kb5) H Inv) : zq7 t1 t2 t4 t5 t6 H K :=
 lp1 (M := zlq) zMM t6 (by kernel_rfl) Inv n h0 round
theorem zMN {t0 t1 : AV} {H : zaa} {K : Kt} (h : HSc H → zq3 t0 t1 H K) : ACalls tP zir [t0, t1] H K :=
 zam (M := zlq) Tryz.func54 (c := zq6) (by kernel_rfl) (fun hs => Eq.mpr (by kernel_rfl) (h hs))
def zi6 : Nat → List Bool
 | 3 => rl false [1,4,24]
 | _ => []
noncomputable def zow : Code := Tryz.f102.body.getD .skip
noncomputable def zDQ : List ResultVar := Tryz.f102.results.toList
def zi7 (t1 t2 t3 t4 : AV) : List AV := ux 1 (t1 :: t2 :: t3 :: t4 :: ux 24 [])
def zDO : List Bool := zi6 3
noncomputable def zDM : Code := zas [1, 1, 0, 1, 0, 0] zow
def zDL (K : Kt) : AExit → List AV → zaa → Prop := zat tP zi6 [1, 1, 0, 1, 0] zow (zaA tP zDQ K)
def zvJ (t1 t2 t3 t4 : AV) (H : zaa) (K : Kt) : Prop := ALoop tP zDM (zDL K) (zi7 t1 t2 t3 t4) H
def zov (t1 t2 t3 t4 : AV) (H : zaa) (K : Kt) (Kb3 : Lt) : Prop :=
 zaf 2 t1 fun t11 =>
 zad false 1 t11 H fun t12 =>
 zah 1 t12 fun t13 =>
 zac .lss false t4 t13 fun t14 =>
 zag t14
 (zae H (fun K' => zaf 2 t3 (K' · H)) fun t17 =>
 zae H (fun K' => zal false 1 t17 H (K' · H)) fun t18 =>
 zae H (fun K' => zaf 2 t1 (K' · H)) fun t19 =>
 zae H (fun K' => zal false 1 t19 H (K' · H)) fun t20 =>
 zae H (fun K' => K' t4 H) fun t21 =>
 zae H (fun K' => zaj 3 t20 t21 (K' · H)) fun t22 =>
 zae H (fun K' => zal true 3 t22 H (K' · H)) fun t23 =>
 zaG H (fun H K' => ACalls tP zhV [t23] H K') fun t24 =>
 zae H (fun K' => zaz 3 [(.int .i64 0), (.int .i64 0), .snil] 1 [(0, t24)] (K' · H)) fun t25 =>
 zaw zaV 3 40 t18 t25 H fun t26 H =>
 zae H (fun K' => zaf 2 t3 (K' · H)) fun t27 =>
 zak 1 t27 t26 H fun H =>
 zac .add false t4 (.int .i64 1) fun t16 =>
 Kb3 (zi7 t1 t2 t3 t16) H)
 (zad true 3 t3 H fun t28 =>
 zak 3 t2 t28 H fun H =>
 zad true 3 t2 H fun r0 =>
 K r0 H)
def zvI (t0 : AV) (H : zaa) (K : Kt) : Prop :=
 zao t0 H fun t1 H =>
 zau [(.int .i64 0), (.int .i64 0), .snil] H fun t2 H =>
 zaf 0 t1 fun t5 =>
 zad false 1 t5 H fun t6 =>
 zaf 1 t1 fun t7 =>
 zad false 1 t7 H fun t8 =>
 zax [(.int .i64 0), (.int .i64 0), .snil] [(0, 1), (1, 1), (2, 1)] [(0, t6), (1, t8)] fun t9 =>
 zau [(.int .i64 0), (.int .i64 0), .snil] H fun t3 H =>
 zak 3 t3 t9 H fun H =>
 zvJ t1 t2 t3 (.int .i64 0) H K
theorem zDN {t1 t2 t3 t4 : AV} {H : zaa} {K : Kt} (Inv : Nat → AV → zaa → Prop) (n : Nat) (h0 : HSc H → Inv n t4 H)
  (round : Rd1 (fun t4 => zi7 t1 t2 t3 t4) (fun t4 => fun H Kb3 => zov t1 t2 t3 t4 H K Kb3) H Inv) : zvJ t1 t2 t3 t4 H K :=
 lp1 (M := zi6) zDO t4 (by kernel_rfl) Inv n h0 round
theorem zDP {t0 : AV} {H : zaa} {K : Kt} (h : HSc H → zvI t0 H K) : ACalls tP zhV [t0] H K :=
 zam (M := zi6) Tryz.func102 (c := zow) (by kernel_rfl) (fun hs => Eq.mpr (by kernel_rfl) (h hs))
def ze6 : Nat → List Bool
 | 6 => rl false [0,2,6,1,38,3,56]
 | 10 => rl false [0,2,6,2,37,3,28,3,25]
 | _ => []
noncomputable def zri : Code := Tryz.f78.body.getD .skip
noncomputable def zNG : List ResultVar := Tryz.f78.results.toList
def zlB (t0 t1 t8 t47 t48 t49 : AV) : List AV := t0 :: t1 :: ux 6 (t8 :: ux 38 (t47 :: t48 :: t49 :: ux 56 []))
def zzk : List Bool := ze6 6
noncomputable def zrj : Code := zas [1, 1, 1, 1, 0, 1, 0, 0] zri
def zzi (K : Kt) : AExit → List AV → zaa → Prop := zat tP ze6 [1, 1, 1, 1, 0, 1, 0] zri (zaA tP zNG K)
def zzj (t0 t1 t8 t47 t48 t49 : AV) (H : zaa) (K : Kt) : Prop := ALoop tP zrj (zzi K) (zlB t0 t1 t8 t47 t48 t49) H
def zlA (t0 t1 t8 t9 t47 t48 t49 t78 t79 t80 : AV) : List AV := t0 :: t1 :: ux 6 (t8 :: t9 :: ux 37 (t47 :: t48 :: t49 :: ux 28 (t78 :: t79 :: t80 :: ux 25 [])))
def zNE : List Bool := ze6 10
noncomputable def zNB : Code := zas [1, 1, 0, 0, 1, 1, 1, 0, 0] zrj
def zNA (K : Kt) (Kb6 : Lt) : AExit → List AV → zaa → Prop := zat tP ze6 [1, 1, 0, 0, 1, 1, 1, 0] zrj (zbz zzk Kb6 (zzi K))
def zrl (t0 t1 t8 t9 t47 t48 t49 t78 t79 t80 : AV) (H : zaa) (K : Kt) (Kb6 : Lt) : Prop := ALoop tP zNB (zNA K Kb6) (zlA t0 t1 t8 t9 t47 t48 t49 t78 t79 t80) H
def zrk (t0 t1 t8 t9 t47 t48 t49 t78 t79 t80 : AV) (H : zaa) (K : Kt) (Kb6 : Lt) (Kb10 : Lt) : Prop :=
 zac .add false t80 (.int .i64 1) fun t103 =>
 Kb10 (zlA t0 t1 t8 t9 t47 t48 t49 t78 t79 t103) H
def zfV (t0 t1 t8 t9 t47 t48 t49 t78 t79 t80 : AV) (H : zaa) (K : Kt) (Kb6 : Lt) (Kb10 : Lt) : Prop :=
 zrk t0 t1 t8 t9 t47 t48 t49 t78 t79 t80 H K Kb6 Kb10
def zfU (t0 t1 t8 t9 t47 t48 t49 t78 t79 t80 : AV) (H : zaa) (K : Kt) (Kb6 : Lt) (Kb10 : Lt) : Prop :=
 zac .lss false t80 t79 fun t81 =>
 zag t81
 (zaj 3 t78 t80 fun t83 =>
 zad true 3 t83 H fun t84 =>
 zau [(.int .i64 0), (.int .i64 0), .snil] H fun t12 H =>
 zak 3 t12 t84 H fun H =>
 zaf 0 t12 fun t85 =>
 zad false 1 t85 H fun t86 =>
 zac .neq false t86 (.int .i64 4) fun t87 =>
 zab t87 false H (fun K' => zaf 1 t12 (K' · H)) fun t89 H =>
 zab t87 false H (fun K' => zad false 1 t89 H (K' · H)) fun t90 H =>
 zab t87 false H (fun K' => K' t80 H) fun t91 H =>
 zab t87 false H (fun K' => zac .neq false t90 t91 (K' · H)) fun t92 H =>
 zai t87 (.bool true) t92 fun t93 =>
 zab t93 false H (fun K' => zaf 2 t12 (K' · H)) fun t95 H =>
 zab t93 false H (fun K' => zad false 1 t95 H (K' · H)) fun t96 H =>
 zab t93 false H (fun K' => zah 1 t96 (K' · H)) fun t97 H =>
 zab t93 false H (fun K' => zac .gtr false t97 (.int .i64 0) (K' · H)) fun t98 H =>
 zai t93 (.bool true) t98 fun t99 =>
 zag t99
 (zaj 1 t8 t9 fun t102 =>
 zak 1 t102 (.bool false) H fun H =>
 zfV t0 t1 t8 t9 t47 t48 t49 t78 t79 t80 H K Kb6 Kb10)
 (zfV t0 t1 t8 t9 t47 t48 t49 t78 t79 t80 H K Kb6 Kb10))
 (zac .add false t49 (.int .i64 1) fun t104 =>
 Kb6 (zlB t0 t1 t8 t47 t48 t104) H)
def zhp (t0 t1 t8 t47 t48 t49 : AV) (H : zaa) (K : Kt) (Kb6 : Lt) : Prop :=
 zac .lss false t49 t48 fun t50 =>
 zag t50
 (zaj 3 t47 t49 fun t52 =>
 zad true 3 t52 H fun t53 =>
 zau [(.int .i64 0), (.int .i64 0), .snil] H fun t10 H =>
 zak 3 t10 t53 H fun H =>
 zae H (fun K' => K' t8 H) fun t54 =>
 zae H (fun K' => K' t49 H) fun t55 =>
 zae H (fun K' => zaf 0 t10 (K' · H)) fun t56 =>
 zae H (fun K' => zal false 1 t56 H (K' · H)) fun t57 =>
 zae H (fun K' => zac .eql false t57 (.int .i64 5) (K' · H)) fun t58 =>
 zae H (fun K' => K' t58 H) fun t59 =>
 zab t59 true H (fun K' => zae H (fun K'' => zaf 1 t10 (K'' · H)) (K' · H)) fun t60 H =>
 zab t59 true H (fun K' => zae H (fun K'' => zal false 1 t60 H (K'' · H)) (K' · H)) fun t61 H =>
 zab t59 true H (fun K' => zae H (fun K'' => K'' t1 H) (K' · H)) fun t62 H =>
 zab t59 true H (fun K' => zae H (fun K'' => zac .eql false t61 t62 (K'' · H)) (K' · H)) fun t63 H =>
 zae H (fun K' => zai t59 t63 (.bool false) (K' · H)) fun t64 =>
 zae H (fun K' => K' t64 H) fun t65 =>
 zab t65 true H (fun K' => zae H (fun K'' => zaf 2 t10 (K'' · H)) (K' · H)) fun t66 H =>
 zab t65 true H (fun K' => zae H (fun K'' => zal false 1 t66 H (K'' · H)) (K' · H)) fun t67 H =>
 zab t65 true H (fun K' => zae H (fun K'' => zah 1 t67 (K'' · H)) (K' · H)) fun t68 H =>
 zab t65 true H (fun K' => zae H (fun K'' => K'' t0 H) (K' · H)) fun t69 H =>
 zab t65 true H (fun K' => zae H (fun K'' => K'' t1 H) (K' · H)) fun t70 H =>
 zab t65 true H (fun K' => zae H (fun K'' => zaj 3 t69 t70 (K'' · H)) (K' · H)) fun t71 H =>
 zab t65 true H (fun K' => zae H (fun K'' => zaf 1 t71 (K'' · H)) (K' · H)) fun t72 H =>
 zab t65 true H (fun K' => zae H (fun K'' => zal false 1 t72 H (K'' · H)) (K' · H)) fun t73 H =>
 zab t65 true H (fun K' => zae H (fun K'' => zac .eql false t68 t73 (K'' · H)) (K' · H)) fun t74 H =>
 zae H (fun K' => zai t65 t74 (.bool false) (K' · H)) fun t75 =>
 zae H (fun K' => zaj 1 t54 t55 (K' · H)) fun t76 =>
 zak 1 t76 t75 H fun H =>
 zaf 2 t10 fun t77 =>
 zad false 1 t77 H fun t78 =>
 zah 1 t78 fun t79 =>
 zrl t0 t1 t8 t49 t47 t48 t49 t78 t79 (.int .i64 0) H K Kb6)
 (K t8 H)
def zzh (t0 t1 t2 : AV) (H : zaa) (K : Kt) : Prop :=
 zac .lss false t1 (.int .i64 0) fun t14 =>
 zab t14 false H (fun K' => K' t1 H) fun t16 H =>
 zab t14 false H (fun K' => K' t0 H) fun t17 H =>
 zab t14 false H (fun K' => zah 1 t17 (K' · H)) fun t18 H =>
 zab t14 false H (fun K' => zac .geq false t16 t18 (K' · H)) fun t19 H =>
 zai t14 (.bool true) t19 fun t20 =>
 zab t20 false H (fun K' => K' t2 H) fun t22 H =>
 zab t20 false H (fun K' => zac .lss false t22 (.int .i64 0) (K' · H)) fun t23 H =>
 zai t20 (.bool true) t23 fun t24 =>
 zab t24 false H (fun K' => K' t2 H) fun t26 H =>
 zab t24 false H (fun K' => K' t0 H) fun t27 H =>
 zab t24 false H (fun K' => K' t1 H) fun t28 H =>
 zab t24 false H (fun K' => zaj 3 t27 t28 (K' · H)) fun t29 H =>
 zab t24 false H (fun K' => zaf 2 t29 (K' · H)) fun t30 H =>
 zab t24 false H (fun K' => zad false 1 t30 H (K' · H)) fun t31 H =>
 zab t24 false H (fun K' => zah 1 t31 (K' · H)) fun t32 H =>
 zab t24 false H (fun K' => zac .geq false t26 t32 (K' · H)) fun t33 H =>
 zai t24 (.bool true) t33 fun t34 =>
 zag t34
 (K .snil H)
 (zaj 3 t0 t1 fun t37 =>
 zaf 2 t37 fun t38 =>
 zad false 1 t38 H fun t39 =>
 zaj 2 t39 t2 fun t41 =>
 zaf 1 t41 fun t42 =>
 zad false 1 t42 H fun t43 =>
 zah 1 t43 fun t45 =>
 zbp 1 [(.bool false)] t45 t45 H fun t46 H =>
 zah 1 t43 fun t48 =>
 zzj t0 t1 t46 t43 t48 (.int .i64 0) H K)
theorem zNC {t0 t1 t8 t9 t47 t48 t49 t78 t79 t80 : AV} {H : zaa} {K : Kt} {Kb6 : Lt} (Inv : Nat → AV → zaa → Prop) (n : Nat) (h0 : HSc H → Inv n t80 H)
  (round : Rd1 (fun t80 => zlA t0 t1 t8 t9 t47 t48 t49 t78 t79 t80) (fun t80 => fun H Kb10 => zfU t0 t1 t8 t9 t47 t48 t49 t78 t79 t80 H K Kb6 Kb10) H Inv) : zrl t0 t1 t8 t9 t47 t48 t49 t78 t79 t80 H K Kb6 :=
 lp1 (M := ze6) zNE t80 (by kernel_rfl) Inv n h0 round
theorem zND {t0 t1 t8 t47 t48 t49 : AV} {H : zaa} {K : Kt} (Inv : Nat → AV → zaa → Prop) (n : Nat) (h0 : HSc H → Inv n t49 H)
  (round : Rd1 (fun t49 => zlB t0 t1 t8 t47 t48 t49) (fun t49 => fun H Kb6 => zhp t0 t1 t8 t47 t48 t49 H K Kb6) H Inv) : zzj t0 t1 t8 t47 t48 t49 H K :=
 lp1 (M := ze6) zzk t49 (by kernel_rfl) Inv n h0 round
theorem zNF {t0 t1 t2 : AV} {H : zaa} {K : Kt} (h : HSc H → zzh t0 t1 t2 H K) : ACalls tP zdf [t0, t1, t2] H K :=
 zam (M := ze6) Tryz.func78 (c := zri) (by kernel_rfl) (fun hs => Eq.mpr (by kernel_rfl) (h hs))
def zJG (_ : Nat) : List Bool := []
noncomputable def zJH : Code := Tryz.f207.body.getD .skip
def zxW (t0 t1 : AV) (H : zaa) (K : Kt) : Prop :=
 zao t0 H fun t2 H =>
 zao t1 H fun t3 H =>
 zaf 0 t2 fun t5 =>
 zad false 1 t5 H fun t6 =>
 zac .eql false t6 (.int .i64 5) fun t7 =>
 zab t7 true H (fun K' => zaf 1 t2 (K' · H)) fun t9 H =>
 zab t7 true H (fun K' => zad false 1 t9 H (K' · H)) fun t10 H =>
 zab t7 true H (fun K' => zad false 1 t3 H (K' · H)) fun t11 H =>
 zab t7 true H (fun K' => zac .eql false t10 t11 (K' · H)) fun t12 H =>
 zai t7 t12 (.bool false) fun t13 =>
 zab t13 false H (fun K' => zaf 2 t2 (K' · H)) fun t15 H =>
 zab t13 false H (fun K' => zad false 1 t15 H (K' · H)) fun t16 H =>
 zab t13 false H (fun K' => zb2 zid [t3] (K' · H)) fun t17 H =>
 zab t13 false H (fun K' => ACalls tP zeH [t16, t17] H K') fun t18 H =>
 zai t13 (.bool true) t18 fun t19 =>
 K t19 H
theorem zJI {t0 t1 : AV} {H : zaa} {K : Kt} (h : HSc H → zxW t0 t1 H K) : ACalls tP zic [t0, t1] H K :=
 zam (M := zJG) Tryz.func207 (c := zJH) (by kernel_rfl) (fun hs => Eq.mpr (by kernel_rfl) (h hs))
def zJW (_ : Nat) : List Bool := []
noncomputable def zJX : Code := Tryz.f221.body.getD .skip
def zx1 (t0 t1 : AV) (H : zaa) (K : Kt) : Prop :=
 zao t0 H fun t2 H =>
 zad true 3 t2 H fun t4 =>
 zad false 1 t1 H fun t5 =>
 ACalls tP zic [t4, t5] H fun t6 H =>
 K t6 H
theorem zJY {t0 t1 : AV} {H : zaa} {K : Kt} (h : HSc H → zx1 t0 t1 H K) : ACalls tP zid [t0, t1] H K :=
 zam (M := zJW) Tryz.func221 (c := zJX) (by kernel_rfl) (fun hs => Eq.mpr (by kernel_rfl) (h hs))
def zlJ : Nat → List Bool
 | 4 => rl false [3,1,3,1,50]
 | _ => []
noncomputable def zrq : Code := Tryz.f83.body.getD .skip
noncomputable def zN1 : List ResultVar := Tryz.f83.results.toList
def zlK (t3 t7 : AV) : List AV := ux 3 (t3 :: ux 3 (t7 :: ux 50 []))
def zNZ : List Bool := zlJ 4
noncomputable def zNX : Code := zas [1, 1, 0, 1, 0, 0] zrq
def zNW (K : Kt) : AExit → List AV → zaa → Prop := zat tP zlJ [1, 1, 0, 1, 0] zrq (zaA tP zN1 K)
def zzs (t3 t7 : AV) (H : zaa) (K : Kt) : Prop := ALoop tP zNX (zNW K) (zlK t3 t7) H
def zfY (t3 t7 : AV) (H : zaa) (K : Kt) (Kb4 : Lt) : Prop :=
 zaf 2 t3 fun t25 =>
 zad false 1 t25 H fun t26 =>
 zah 1 t26 fun t27 =>
 zac .lss false t7 t27 fun t28 =>
 zag t28
 (zaf 2 t3 fun t31 =>
 zad false 1 t31 H fun t32 =>
 zaj 3 t32 t7 fun t34 =>
 zaf 0 t34 fun t35 =>
 zad false 1 t35 H fun t36 =>
 zac .neq false t36 (.int .i64 4) fun t37 =>
 zab t37 false H (fun K' => zaf 2 t3 (K' · H)) fun t39 H =>
 zab t37 false H (fun K' => zad false 1 t39 H (K' · H)) fun t40 H =>
 zab t37 false H (fun K' => K' t7 H) fun t41 H =>
 zab t37 false H (fun K' => zaj 3 t40 t41 (K' · H)) fun t42 H =>
 zab t37 false H (fun K' => zaf 1 t42 (K' · H)) fun t43 H =>
 zab t37 false H (fun K' => zad false 1 t43 H (K' · H)) fun t44 H =>
 zab t37 false H (fun K' => K' t7 H) fun t45 H =>
 zab t37 false H (fun K' => zac .neq false t44 t45 (K' · H)) fun t46 H =>
 zai t37 (.bool true) t46 fun t47 =>
 zab t47 false H (fun K' => zaf 2 t3 (K' · H)) fun t49 H =>
 zab t47 false H (fun K' => zad false 1 t49 H (K' · H)) fun t50 H =>
 zab t47 false H (fun K' => K' t7 H) fun t51 H =>
 zab t47 false H (fun K' => zaj 3 t50 t51 (K' · H)) fun t52 H =>
 zab t47 false H (fun K' => zaf 2 t52 (K' · H)) fun t53 H =>
 zab t47 false H (fun K' => zad false 1 t53 H (K' · H)) fun t54 H =>
 zab t47 false H (fun K' => zah 1 t54 (K' · H)) fun t55 H =>
 zab t47 false H (fun K' => zac .gtr false t55 (.int .i64 0) (K' · H)) fun t56 H =>
 zai t47 (.bool true) t56 fun t57 =>
 zag t57
 (K (.bool false) H)
 (zac .add false t7 (.int .i64 1) fun t30 =>
 Kb4 (zlK t3 t30) H))
 (K (.bool true) H)
def zzr (t0 t1 t2 : AV) (H : zaa) (K : Kt) : Prop :=
 zao t0 H fun t3 H =>
 zaf 0 t3 fun t8 =>
 zad false 1 t8 H fun t9 =>
 zac .neq false t9 (.int .i64 5) fun t10 =>
 zab t10 false H (fun K' => zaf 1 t3 (K' · H)) fun t12 H =>
 zab t10 false H (fun K' => zad false 1 t12 H (K' · H)) fun t13 H =>
 zab t10 false H (fun K' => K' t1 H) fun t14 H =>
 zab t10 false H (fun K' => zac .neq false t13 t14 (K' · H)) fun t15 H =>
 zai t10 (.bool true) t15 fun t16 =>
 zab t16 false H (fun K' => zaf 2 t3 (K' · H)) fun t18 H =>
 zab t16 false H (fun K' => zad false 1 t18 H (K' · H)) fun t19 H =>
 zab t16 false H (fun K' => zah 1 t19 (K' · H)) fun t20 H =>
 zab t16 false H (fun K' => K' t2 H) fun t21 H =>
 zab t16 false H (fun K' => zac .neq false t20 t21 (K' · H)) fun t22 H =>
 zai t16 (.bool true) t22 fun t23 =>
 zag t23
 (K (.bool false) H)
 (zzs t3 (.int .i64 0) H K)
theorem zNY {t3 t7 : AV} {H : zaa} {K : Kt} (Inv : Nat → AV → zaa → Prop) (n : Nat) (h0 : HSc H → Inv n t7 H)
  (round : Rd1 (fun t7 => zlK t3 t7) (fun t7 => fun H Kb4 => zfY t3 t7 H K Kb4) H Inv) : zzs t3 t7 H K :=
 lp1 (M := zlJ) zNZ t7 (by kernel_rfl) Inv n h0 round
theorem zN0 {t0 t1 t2 : AV} {H : zaa} {K : Kt} (h : HSc H → zzr t0 t1 t2 H K) : ACalls tP ziw [t0, t1, t2] H K :=
 zam (M := zlJ) Tryz.func83 (c := zrq) (by kernel_rfl) (fun hs => Eq.mpr (by kernel_rfl) (h hs))
end Go.Proofs.YtjkkonpjecoieaaGreat

namespace Go.Proofs.YtjkkonpjecoieaaGreat
open Go Go.Abs
set_option maxRecDepth 8000
theorem zzc : ∀ (m : Nat) (v : VT), v.nodes ≤ m → ∀ (left : Int), left ≤ 1000000 → -1 ≤ left → ∀ (H : zaa) (id : Nat), H[id]? = some (.cells [.int .i64 left]) → ∀ (K : AV → zaa → Prop),
  ((v.nodes : Int) ≤ left → K (.bool true) (H.set id (.cells [.int .i64 (left - v.nodes)]))) → (¬ (v.nodes : Int) ≤ left → ∀ l', K (.bool false) (H.set id (.cells [.int .i64 l']))) →
  ACalls tP zgM [.agg v.cs, .ptr id 0] H K := by
 intro m
 induction m with
 | zero => intro v h; have := v.nodes_pos; omega
 | succ m ih =>
  intro v hv left hl1 hl0 H id hid K hK hF
  obtain ⟨k, n, ks⟩ := v
  have hlt := zbY hid
  have hnn : (VT.mk k n ks).nodes = VT.nodesL ks + 1 := by simp [VT.nodes]
  refine ACalls.out (zNc fun hs => ?_)
  have hget : (H ++ [AB.cells [.int .i64 k, .int .i64 n, .sl (VT.css ks) .none]])[id]? = some (.cells [.int .i64 left]) := zbs hid
  have bad : (¬ ((VT.mk k n ks).nodes : Int) ≤ left) → ∀ l' H', H' = H.set id (.cells [.int .i64 l']) ++ [.cells [.int .i64 k, .int .i64 n, .sl (VT.css ks) .none]] → Out H.length K (.bool false) H' := by
   intro h l' H' he
   exact Out.bool he (by simp) (hs.set rfl) (hF h l')
  simp [zza, VT.cs, hget, AV.known]
  rw [zar (by omega) (by omega), zce _ hid, zbs (zbQ _ hid)]
  by_cases h0 : left - 1 < 0
  ·simp [h0]
   exact bad (by omega) _ _ rfl
  ·simp [h0]
   refine zNa (Inv := fun q t5 H' => ∃ i : Nat, i ≤ ks.length ∧ q = ks.length - i ∧ t5 = .int .i64 i ∧ ((VT.nodesL (ks.take i) : Int) + 1 ≤ left) ∧ H' = H.set id (.cells [.int .i64 (left - 1 - VT.nodesL (ks.take i))]) ++ [.cells [.int .i64 k, .int .i64 n, .sl (VT.css ks) .none]]) ks.length ?_ ?_
   ·intro _; exact ⟨0, by omega, by omega, rfl, by simp [VT.nodesL]; omega, by simp [VT.nodesL]⟩
   ·rintro q t5 H' ⟨i, hi, rfl, rfl, hb, rfl⟩ hsc hlen hsF Kb hKb
    by_cases hil : i < ks.length
    ·have hki := VT.kid_lt (k := k) (n := n) hil
     have h1 := VT.nodesL_take hil
     have h2 := VT.nodesL_take_le ks (i + 1)
     have hll := VT.len_le (ks.take i)
     simp only [List.length_take] at hll
     have hge : (H.set id (.cells [.int .i64 (left - 1 - VT.nodesL (ks.take i))]) ++ [AB.cells [.int .i64 k, .int .i64 n, .sl (VT.css ks) .none]])[id]? = some (.cells [.int .i64 (left - 1 - VT.nodesL (ks.take i))]) := zbs (zbQ _ hid)
     simp [zrd, hil]
     refine ih ks[i] (by omega) (left - 1 - VT.nodesL (ks.take i)) (by omega) (by omega) _ id hge _ ?_ ?_
     ·intro hle
      rw [zce _ (zbQ _ hid), List.set_set]
      simp
      rw [zar (by omega) (by omega)]
      refine hKb _ _ ⟨ks.length - (i + 1), by omega, Back.here (by simp) ((hs.set rfl).snoc rfl) ?_ ⟨_, rfl, i + 1, by omega, rfl, by simp, by omega, ?_⟩⟩
      ·simp [zlv, AV.sc, AV.scV, AV.scA, AV.scB]; omega
      ·rw [h1]; congr 5; omega
     ·intro hle l'
      rw [zce _ (zbQ _ hid), List.set_set]
      simp
      exact bad (by omega) _ _ rfl
    ·obtain rfl : i = ks.length := by omega
     rw [List.take_length] at hb ⊢
     simp [zrd]
     refine Out.bool rfl (by simp) (hs.set rfl) ?_
     have := hK (by omega)
     rw [hnn] at this
     rw [show left - 1 - (VT.nodesL ks : Int) = left - ((VT.nodesL ks + 1 : Nat) : Int) by omega]
     exact this
theorem zKQ (v : VT) (H : zaa) (K : AV → zaa → Prop) (hK : ∀ b, (b = true → v.nodes ≤ 250) → K (.bool b) H) : ACalls tP znu [.agg v.cs] H K := by
 refine ACalls.out (zKP fun hs => ?_)
 simp [zyo, AV.known]
 refine zzc _ v (Nat.le_refl _) 250 (by omega) (by omega) _ (H.length + 1) (by simp) _ ?_ ?_
 ·intro h
  exact Out.bool (J := [_, _]) (by simp; exact ⟨rfl, rfl⟩) (Nat.le_refl _) hs (hK true fun _ => by omega)
 ·intro h l'
  exact Out.bool (J := [_, _]) (by simp; exact ⟨rfl, rfl⟩) (Nat.le_refl _) hs (hK false fun h => by cases h)
end Go.Proofs.YtjkkonpjecoieaaGreat
namespace Go.Proofs.YtjkkonpjecoieaaGreat
open Go Go.Abs
set_option maxRecDepth 8000
theorem zy4 : ∀ (m : Nat) (v : VT), v.nodes ≤ m → v.nodes ≤ 1000000000 → ∀ (H : zaa) (K : AV → zaa → Prop), K (.int .i64 v.nodes) H → ACalls tP zgL [.agg v.cs] H K := by
 intro m
 induction m with
 | zero => intro v h; have := v.nodes_pos; omega
 | succ m ih =>
  intro v hv hb H K hK
  obtain ⟨k, n, ks⟩ := v
  have hnl : VT.nodesL ks + 1 ≤ 1000000000 := by simpa [VT.nodes] using hb
  have hll := VT.len_le ks
  refine ACalls.out (zMU fun hs => ?_)
  simp [VT.cs, zy2]
  refine zMS (Inv := fun q t3 t4 H' => ∃ i : Nat, i ≤ ks.length ∧ q = ks.length - i ∧ t4 = .int .i64 i ∧ t3 = .int .i64 (1 + VT.nodesL (ks.take i) : Nat) ∧ H' = H ++ [.cells [.int .i64 k, .int .i64 n, .sl (VT.css ks) .none]]) ks.length ?_ ?_
  ·intro _; exact ⟨0, by omega, by omega, rfl, by simp [VT.nodesL], rfl⟩
  ·rintro q t3 t4 H' ⟨i, hi, rfl, rfl, rfl, rfl⟩ hsc hlen hsF Kb hKb
   by_cases hlt : i < ks.length
   ·have hki := VT.kid_lt (k := k) (n := n) hlt
    have h1 := VT.nodesL_take hlt
    have h2 := VT.nodesL_take_le ks (i + 1)
    simp [zq8, hlt]
    refine ih ks[i] (by omega) (by omega) _ _ ?_
    simp
    rw [zar (by omega) (by omega), zar (by omega) (by omega)]
    refine hKb _ _ ⟨ks.length - (i + 1), by omega, Back.here (by simp) hsc ?_ ⟨_, _, rfl, i + 1, by omega, rfl, by simp, ?_, rfl⟩⟩
    ·simp [zlt, AV.sc, AV.scV, AV.scA, AV.scB]
    ·rw [h1]; congr 1; omega
   ·obtain rfl : i = ks.length := by omega
    simp [zq8]
    refine Out.int rfl (Nat.le_refl _) hs ?_
    simpa [VT.nodes, Int.add_comm] using hK
theorem zOh (data : List Dat) (hdl : data.length ≤ 1000000) (vars : Int) : ∀ (m : Nat) (v : VT), v.nodes ≤ m → v.nodes ≤ 1000000000 → ∀ (H : zaa) (K : AV → zaa → Prop), K (.bool (zaS data vars v)) H → ACalls tP zix [.sl (data.map Dat.cs) .none, .agg v.cs, .int .i64 vars] H K := by
 intro m
 induction m with
 | zero => intro v h; have := v.nodes_pos; omega
 | succ m ih =>
  intro v hv hb H K hK
  obtain ⟨k, n, ks⟩ := v
  have hnl : VT.nodesL ks + 1 ≤ 1000000000 := by simpa [VT.nodes] using hb
  have hll := VT.len_le ks
  refine ACalls.out (zOe fun hs => ?_)
  have hO : ∀ J, Out H.length K (.bool (za6 data vars k n ks.length && za7 data vars ks)) (H ++ J) := fun J => Out.bool rfl (Nat.le_refl _) hs (by simpa [zaS] using hK)
  have hF : za6 data vars k n ks.length = false → ∀ J, Out H.length K (.bool false) (H ++ J) := fun h J => by have := hO J; rwa [h, Bool.false_and] at this
  have loop : za6 data vars k n ks.length = true → zrx (.sl (data.map Dat.cs) .none) (.int .i64 vars) (.ptr H.length 0) (.int .i64 ks.length) (.int .i64 0) (H ++ [.cells [.int .i64 k, .int .i64 n, .sl (VT.css ks) .none]]) (Out H.length K) := by
   intro hsh
   rw [hsh] at hO
   simp only [Bool.true_and] at hO
   refine zOc (Inv := fun q t8 H' => ∃ i : Nat, i ≤ ks.length ∧ q = ks.length - i ∧ t8 = .int .i64 i ∧ za7 data vars (ks.drop i) = za7 data vars ks ∧ H' = H ++ [.cells [.int .i64 k, .int .i64 n, .sl (VT.css ks) .none]]) ks.length ?_ ?_
   ·intro _; exact ⟨0, by omega, by omega, rfl, by simp, rfl⟩
   ·rintro q t8 H' ⟨i, hi, rfl, rfl, ho, rfl⟩ hsc hlen hsF Kb hKb
    by_cases hlt : i < ks.length
    ·have hki := VT.kid_lt (k := k) (n := n) hlt
     rw [List.drop_eq_getElem_cons hlt, za7] at ho
     simp [zrv, hlt]
     refine ih ks[i] (by omega) (by omega) _ _ ?_
     cases hb : zaS data vars ks[i] with
     | false =>
      rw [hb, Bool.false_and] at ho
      rw [← ho] at hO
      simp
      exact hO _
     | true =>
      rw [hb, Bool.true_and] at ho
      simp
      rw [zar (by omega) (by omega)]
      refine hKb _ _ ⟨ks.length - (i + 1), by omega, Back.here (by simp) hsc ?_ ⟨_, rfl, i + 1, by omega, rfl, by simp, ho, rfl⟩⟩
      simp [zlO, AV.sc, AV.scV, AV.scA, AV.scB]
    ·obtain rfl : i = ks.length := by omega
     rw [List.drop_length, za7] at ho
     rw [← ho] at hO
     simp [zrv]
     exact hO _
  have prim : (k = 1 ∨ k = 2 ∨ k = 3) → Out H.length K (.bool (n == 0 && ks.length == 0)) (H ++ [.cells [.int .i64 k, .int .i64 n, .sl (VT.css ks) .none]]) := by
   intro h
   have hsh : za6 data vars k n ks.length = (n == 0 && ks.length == 0) := by rcases h with rfl | rfl | rfl <;> rfl
   have := hO [.cells [.int .i64 k, .int .i64 n, .sl (VT.css ks) .none]]
   rw [hsh] at this
   cases ks with
   | nil => simpa [za7] using this
   | cons x l => simpa using this
  by_cases h123 : k = 1 ∨ k = 2 ∨ k = 3
  ·have := prim h123
   cases hn : (n == 0) with
   | false => rw [hn, Bool.false_and] at this; rcases h123 with rfl | rfl | rfl <;> simp [zco, VT.cs, zbE, hn] <;> exact this
   | true =>
    rw [hn, Bool.true_and] at this
    have e : ((ks.length : Int) == 0) = (ks.length == 0) := by rw [Bool.eq_iff_iff]; simp
    rw [← e] at this
    rcases h123 with rfl | rfl | rfl <;> simp only [zco, VT.cs] <;> simp [zbE, hn] <;> simpa using this
  by_cases h4 : k = 4
  ·subst h4
   have hsh : za6 data vars 4 n ks.length = (decide (0 ≤ n) && decide (n < vars) && ks.length == 0) := rfl
   have hO' : ∀ J, Out H.length K (.bool (decide (0 ≤ n) && decide (n < vars) && ks.length == 0)) (H ++ J) := fun J => by
    have := hO J
    rw [hsh] at this
    cases ks with
    | nil => simpa [za7] using this
    | cons x l => simpa using this
   have e : ((ks.length : Int) == 0) = (ks.length == 0) := by rw [Bool.eq_iff_iff]; simp
   rw [← e] at hO'
   by_cases g1 : 0 ≤ n
   ·by_cases g2 : n < vars
    ·simp only [zco, VT.cs]
     simp [zbE, g1, g2]
     simpa [g1, g2] using hO' _
    ·simp only [zco, VT.cs]
     simp [zbE, g1, g2]
     simpa [g1, g2] using hO' _
   ·simp only [zco, VT.cs]
    simp [zbE, g1]
    simpa [g1] using hO' _
  by_cases h5 : k = 5
  ·subst h5
   have hsh : za6 data vars 5 n ks.length = (decide (0 ≤ n) && (match data[n.toNat]? with | some d => (ks.length : Int) == d.vars | none => false)) := rfl
   by_cases g1 : 0 ≤ n
   ·have g1' : ¬ n < 0 := by omega
    by_cases g2 : n < data.length
    ·have hnl : n.toNat < data.length := by omega
     have g2' : ¬ (data.length : Int) ≤ n := by omega
     have hat : (data.map Dat.cs)[n.toNat]?.getD [] = [.str data[n.toNat].name, .int .i64 data[n.toNat].vars, .sl (data[n.toNat].cons.map Con.cs) .none] := by simp [hnl, Dat.cs]
     rw [List.getElem?_eq_getElem hnl] at hsh
     simp only [g1, decide_true, Bool.true_and] at hsh
     cases hv : ((ks.length : Int) == data[n.toNat].vars) with
     | false =>
      rw [hv] at hsh
      have hv' : ((ks.length : Int) != data[n.toNat].vars) = true := by simp [bne, hv]
      simp only [zco, VT.cs]
      simp [zbE, g1', g2', g1, g2, hnl, Dat.cs, hv']
      exact hF hsh _
     | true =>
      rw [hv] at hsh
      have hv' : ((ks.length : Int) != data[n.toNat].vars) = false := by simp [bne, hv]
      simp only [zco, VT.cs]
      simp [zbE, g1', g2', g1, g2, hnl, Dat.cs, hv', zep, zhr]
      exact loop hsh
    ·have g2' : (data.length : Int) ≤ n := by omega
     rw [List.getElem?_eq_none (by omega)] at hsh
     simp only [zco, VT.cs]
     simp [zbE, g1', g2']
     exact hF (by rw [hsh]; simp) _
   ·have g1' : n < 0 := by omega
    simp only [zco, VT.cs]
    simp [zbE, g1']
    exact hF (by rw [hsh]; simp [g1]) _
  by_cases h6 : k = 6
  ·subst h6
   have hsh : za6 data vars 6 n ks.length = (n == 0 && decide (2 ≤ ks.length) && decide (ks.length ≤ 6)) := rfl
   simp only [zco, VT.cs]
   cases hn : (n == 0) with
   | false =>
    have : (n != 0) = true := by simp [bne, hn]
    simp [zbE, this]
    exact hF (by rw [hsh, hn]; rfl) _
   | true =>
    have hn' : (n != 0) = false := by simp [bne, hn]
    by_cases g1 : ks.length < 2
    ·have : (ks.length : Int) < 2 := by omega
     simp [zbE, hn', this]
     exact hF (by rw [hsh]; simp; omega) _
    ·have g1' : ¬ (ks.length : Int) < 2 := by omega
     by_cases g2 : 6 < ks.length
     ·have : (6 : Int) < ks.length := by omega
      simp [zbE, hn', g1', this]
      exact hF (by rw [hsh]; simp; omega) _
     ·have : ¬ (6 : Int) < ks.length := by omega
      simp [zbE, hn', g1', this, zep, zhr]
      exact loop (by rw [hsh, hn]; simp; omega)
  by_cases h78 : k = 7 ∨ k = 8
  ·have hsh : za6 data vars k n ks.length = (n == 0 && ks.length == 1) := by rcases h78 with rfl | rfl <;> rfl
   cases hn : (n == 0) with
   | false =>
    have : (n != 0) = true := by simp [bne, hn]
    have fin := hF (by rw [hsh, hn]; rfl)
    simp only [zco, VT.cs]
    rcases h78 with rfl | rfl <;> simp [zbE, zdD, this] <;> exact fin _
   | true =>
    have hn' : (n != 0) = false := by simp [bne, hn]
    by_cases g1 : ks.length = 1
    ·have g1' : ((ks.length : Int) != 1) = false := by simp [g1]
     have fin := loop (by rw [hsh, hn, g1]; rfl)
     simp only [zco, VT.cs]
     rcases h78 with rfl | rfl <;> simp [zbE, zdD, hn', g1', zep, zhr] <;> exact fin
    ·have g1' : ((ks.length : Int) != 1) = true := by simp; omega
     have fin := hF (by rw [hsh]; simp [g1])
     simp only [zco, VT.cs]
     rcases h78 with rfl | rfl <;> simp [zbE, zdD, hn', g1'] <;> exact fin _
  have b1 : (k == 1) = false := by simp; omega
  have b2 : (k == 2) = false := by simp; omega
  have b3 : (k == 3) = false := by simp; omega
  have b4 : (k == 4) = false := by simp; omega
  have b5 : (k == 5) = false := by simp; omega
  have b6 : (k == 6) = false := by simp; omega
  have b7 : (k == 7) = false := by simp; omega
  have b8 : (k == 8) = false := by simp; omega
  by_cases h9 : k = 9
  ·subst h9
   have hsh : za6 data vars 9 n ks.length = (n == 0 && decide (1 ≤ ks.length) && decide (ks.length ≤ 7)) := rfl
   simp only [zco, VT.cs]
   cases hn : (n == 0) with
   | false =>
    have : (n != 0) = true := by simp [bne, hn]
    simp [zbE, zdD, this]
    exact hF (by rw [hsh, hn]; rfl) _
   | true =>
    have hn' : (n != 0) = false := by simp [bne, hn]
    by_cases g1 : ks.length < 1
    ·have : (ks.length : Int) < 1 := by omega
     simp [zbE, zdD, hn', this]
     exact hF (by rw [hsh]; simp; omega) _
    ·have g1' : ¬ (ks.length : Int) < 1 := by omega
     by_cases g2 : 7 < ks.length
     ·have : (7 : Int) < ks.length := by omega
      simp [zbE, zdD, hn', g1', this]
      exact hF (by rw [hsh]; simp; omega) _
     ·have : ¬ (7 : Int) < ks.length := by omega
      simp [zbE, zdD, hn', g1', this, zep, zhr]
      exact loop (by rw [hsh, hn]; simp; omega)
  ·have b9 : (k == 9) = false := by simp; omega
   simp only [zco, VT.cs]
   simp [zbE, zdD, b1, b2, b3, b4, b5, b6, b7, b8, b9]
   exact hF (by unfold za6; simp [b1, b2, b3, b4, b5, b6, b7, b8, b9]) _
theorem zqJ (data : List Dat) (hdl : data.length ≤ 1000000) (vars : Int) (v : VT) (hb : v.nodes ≤ 1000000000) (H : zaa) (K : AV → zaa → Prop) (hK : K (.bool (zaQ data vars v)) H) : ACalls tP zgJ [.sl (data.map Dat.cs) .none, .agg v.cs, .int .i64 vars] H K := by
 refine ACalls.out (zLB fun hs => ?_)
 have hO : ∀ J, Out H.length K (.bool (zaQ data vars v)) (H ++ J) := fun J => Out.bool rfl (Nat.le_refl _) hs hK
 unfold zaQ at hO
 simp [zyH]
 refine zy4 _ v (Nat.le_refl _) hb _ _ ?_
 by_cases h : v.nodes ≤ 200
 ·have h' : (v.nodes : Int) ≤ 200 := by omega
  simp [h']
  refine zOh data hdl vars _ v (Nat.le_refl _) hb _ _ ?_
  simpa [h] using hO _
 ·have h' : ¬ (v.nodes : Int) ≤ 200 := by omega
  simp [h']
  simpa [h] using hO _
def zbI (es : List (List AV)) (id : Nat) : AV := match es with | [] => .snil | _ => .sl es (.own id)
def zcA (e s : Nat) (n : Nat) : zaa := match n with | 0 => [] | n => [.perm e s n]
theorem zz6 (es : List (List AV)) (id : Nat) : WkA (zbI es id) (.sl es .none) := by
 cases es with
 | nil => exact .snil
 | cons e es => exact .sl _ _
theorem zr8 (es : List (List AV)) {id n : Nat} (h : es = [] ∨ id < n) : (zbI es id).scA n = true := by
 cases es with
 | nil => rfl
 | cons e es =>
  rcases h with h | h
  ·cases h
  ·simpa [zbI, AV.scA, AV.scB] using h
theorem zz5 (es : List (List AV)) (id : Nat) : (zbI es id).known = true := by cases es <;> rfl
theorem zz4 (es : List (List AV)) (id : Nat) : (zbI es id).cs? = some [zbI es id] := by cases es <;> rfl
theorem zz7 {e s bytes : Nat} {es : List (List AV)} {y : List AV} {t : Tok} {H : zaa} {K : AV → zaa → Prop} (hy : y.length = s) (hb : (es.length + 1) * bytes ≤ 140737488355328) (hl : es.length + 1 ≤ 9223372036854775807)
  (hk : K (zbI (es ++ [y]) H.length) (H ++ zcA e s (es.length + 1))) : zaw e s bytes (zbI es H.length) (.sl [y] t) (H ++ zcA e s es.length) K := by
 unfold zaw zaX
 refine ⟨by simpa using hy, ?_⟩
 cases es with
 | nil =>
  unfold zaO
  simp [zbI, zcA] at *
  exact ⟨by omega, hk⟩
 | cons x es =>
  unfold zaO
  simp [zbI, zcA] at *
  refine ⟨⟨by omega, by omega⟩, hk⟩
theorem zr9 {e s bytes id n : Nat} {es : List (List AV)} {y : List AV} {t : Tok} {H0 Hh : zaa} {K : AV → zaa → Prop} (hn : n = es.length) (he : Hh = H0 ++ zcA e s n) (hid : id = H0.length) (hy : y.length = s) (hb : (es.length + 1) * bytes ≤ 140737488355328) (hl : es.length + 1 ≤ 9223372036854775807)
  (hk : K (zbI (es ++ [y]) id) (H0 ++ zcA e s (n + 1))) : zaw e s bytes (zbI es id) (.sl [y] t) Hh K := by
 subst he hid hn
 exact zz7 hy hb hl hk
@[simp] theorem zRR (es : List (List AV)) (id : Nat) : (zbI es id).cs? = some [zbI es id] := zz4 es id
@[simp] theorem zRS (es : List (List AV)) (id : Nat) : (zbI es id).known = true := zz5 es id
theorem zev {v : VT} {k : AV → Prop} : zaz 3 [.int .i64 0, .int .i64 0, .snil] 1 [(0, .agg v.cs)] k = k (.sl [v.cs] .full) := by
 cases v
 exact propext Iff.rfl
theorem zge {l : List VT} {i : Nat} (h : i < l.length) : VT.css (l.take (i + 1)) = VT.css (l.take i) ++ [(l[i]).cs] := by
 rw [VT.css_map, VT.css_map, List.take_succ_eq_append_getElem h, List.map_append]
 rfl
theorem zt0 {H J : zaa} {K : AV → zaa → Prop} {k n : Int} {ks : List VT} {id : Nat} (hs : HSc H) (hK : K (.agg (VT.mk k n ks).cs) H) : Out H.length K (.agg [.int .i64 k, .int .i64 n, zbI (VT.css ks) id]) (H ++ J) :=
 Out.at rfl (Nat.le_refl _) hs (WkV.agg (ds := [.int .i64 k, .int .i64 n, .sl (VT.css ks) .none]) ⟨.refl _, .refl _, zz6 _ _, trivial⟩) rfl (by simp [AV.scV, AV.scA, AV.scB]) (by simpa [VT.cs] using hK)
theorem zAH : ∀ (m : Nat) (v : VT), v.nodes ≤ m → v.nodes ≤ 1000000 → ∀ (H : zaa) (K : AV → zaa → Prop), K (.agg v.cs) H → ACalls tP zhV [.agg v.cs] H K := by
 intro m
 induction m with
 | zero => intro v h; have := v.nodes_pos; omega
 | succ m ih =>
  intro v hv hb H K hK
  obtain ⟨k, n, ks⟩ := v
  have hnl : VT.nodesL ks + 1 ≤ 1000000 := by simpa [VT.nodes] using hb
  have hll := VT.len_le ks
  refine ACalls.out (zDP fun hs => ?_)
  simp [VT.cs, zvI, zax, zaP, Nat.add_assoc]
  refine zDN (Inv := fun q t4 H' => ∃ i : Nat, i ≤ ks.length ∧ q = ks.length - i ∧ t4 = .int .i64 i ∧ H' = H ++ [.cells [.int .i64 k, .int .i64 n, .sl (VT.css ks) .none], .cells [.int .i64 0, .int .i64 0, .snil], .cells [.int .i64 k, .int .i64 n, zbI (VT.css (ks.take i)) (H.length + 3)]] ++ zcA zaV 3 i) ks.length ?_ ?_
  ·intro _; exact ⟨0, by omega, by omega, rfl, by simp [zcA, zbI, VT.css]⟩
  ·rintro q t4 H' ⟨i, hi, rfl, rfl, rfl⟩ hsc hlen hsF Kb hKb
   by_cases hlt : i < ks.length
   ·have hki := VT.kid_lt (k := k) (n := n) hlt
    simp [zov, hlt]
    refine zaF (.agg (ks[i]).cs) (fun J => ih ks[i] (by omega) (by omega) _ _ ⟨rfl, rfl⟩) ?_
    rw [zev]
    refine zr9 (H0 := H ++ [.cells [.int .i64 k, .int .i64 n, .sl (VT.css ks) .none], .cells [.int .i64 0, .int .i64 0, .snil], .cells [.int .i64 k, .int .i64 n, zbI (VT.css (ks.take i)) (H.length + 3)]]) (n := i) (by simp; omega) (by simp) (by simp) (by simp) (by simp; omega) (by simp; omega) ?_
    rw [← zge hlt]
    simp
    rw [zar (by omega) (by omega)]
    refine hKb _ _ ⟨ks.length - (i + 1), by omega, Back.here (by simp [zcA]) ?_ ?_ ⟨_, rfl, i + 1, by omega, rfl, by simp, by simp⟩⟩
    ·refine hs.append ?_
     simp [AB.sc, zcA, AV.scA, AV.scB]
     exact zr8 _ (.inr (by omega))
    ·simp [zi7, AV.sc, AV.scV, AV.scA, AV.scB]
   ·obtain rfl : i = ks.length := by omega
    rw [List.take_length] at *
    simp [zov]
    exact zt0 hs hK
theorem zdO (args : List VT) : ∀ l : List VT, zaJ args l = l.map (subst args)
 | [] => rfl
 | t :: ts => by rw [zaJ, zdO args ts]; rfl
theorem zMP (args : List VT) (ha : ∀ x ∈ args, x.nodes ≤ 1000000) (hal : args.length ≤ 1000000) : ∀ (m : Nat) (v : VT), v.nodes ≤ m → v.nodes ≤ 1000000 → ∀ (H : zaa) (K : AV → zaa → Prop), K (.agg (subst args v).cs) H → ACalls tP zir [.agg v.cs, .sl (VT.css args) .none] H K := by
 intro m
 induction m with
 | zero => intro v h; have := v.nodes_pos; omega
 | succ m ih =>
  intro v hv hb H K hK
  obtain ⟨k, n, ks⟩ := v
  have hnl : VT.nodesL ks + 1 ≤ 1000000 := by simpa [VT.nodes] using hb
  have hll := VT.len_le ks
  refine ACalls.out (zMN fun hs => ?_)
  by_cases hvar : k = 4 ∧ 0 ≤ n ∧ n < args.length
  ·obtain ⟨rfl, h0, h1⟩ := hvar
   have hn : n.toNat < args.length := by omega
   have hK' : K (.agg (args[n.toNat]).cs) H := by
    rw [subst, if_pos ⟨rfl, h0, h1⟩, List.getElem?_eq_getElem hn] at hK
    exact hK
   simp [VT.cs, zq3, h0, h1, hn]
   refine zAH _ _ (Nat.le_refl _) (ha _ (List.getElem_mem hn)) _ _ ?_
   generalize args[n.toNat] = x at *
   obtain ⟨k', n', ks'⟩ := x
   simp [VT.cs]
   exact Out.at rfl (Nat.le_refl _) hs .rfl' rfl rfl hK'
  ·have hK' : K (.agg (VT.mk k n (zaJ args ks)).cs) H := by
    rw [subst, if_neg hvar] at hK
    exact hK
   have go : ∀ H1, H1 = H ++ [.cells [.int .i64 k, .int .i64 n, .sl (VT.css ks) .none], .cells [.int .i64 0, .int .i64 0, .snil], .cells [.int .i64 k, .int .i64 n, .snil]] → zq7 (.sl (VT.css args) .none) (.ptr H.length 0) (.ptr (H.length + 1) 0) (.ptr (H.length + 2) 0) (.int .i64 0) H1 (Out H.length K) := by
    rintro _ rfl
    refine zML (Inv := fun q t6 H' => ∃ i : Nat, i ≤ ks.length ∧ q = ks.length - i ∧ t6 = .int .i64 i ∧ H' = H ++ [.cells [.int .i64 k, .int .i64 n, .sl (VT.css ks) .none], .cells [.int .i64 0, .int .i64 0, .snil], .cells [.int .i64 k, .int .i64 n, zbI (VT.css ((zaJ args ks).take i)) (H.length + 3)]] ++ zcA zaV 3 i) ks.length ?_ ?_
    ·intro _; exact ⟨0, by omega, by omega, rfl, by simp [zcA, zbI, VT.css]⟩
    ·rintro q t6 H' ⟨i, hi, rfl, rfl, rfl⟩ hsc hlen hsF Kb hKb
     by_cases hlt : i < ks.length
     ·have hki := VT.kid_lt (k := k) (n := n) hlt
      have hlt' : i < (zaJ args ks).length := by rw [zdO]; simpa using hlt
      have hsi : (zaJ args ks)[i] = subst args ks[i] := by simp [zdO]
      simp [zq5, hlt]
      refine zaF (.agg (subst args ks[i]).cs) (fun J => ih ks[i] (by omega) (by omega) _ _ ⟨rfl, rfl⟩) ?_
      rw [zev, ← hsi]
      refine zr9 (H0 := H ++ [.cells [.int .i64 k, .int .i64 n, .sl (VT.css ks) .none], .cells [.int .i64 0, .int .i64 0, .snil], .cells [.int .i64 k, .int .i64 n, zbI (VT.css ((zaJ args ks).take i)) (H.length + 3)]]) (n := i) (by simp; omega) (by simp) (by simp) (by simp) (by simp; omega) (by simp; omega) ?_
      rw [← zge hlt']
      simp
      rw [zar (by omega) (by omega)]
      refine hKb _ _ ⟨ks.length - (i + 1), by omega, Back.here (by simp [zcA]) ?_ ?_ ⟨_, rfl, i + 1, by omega, rfl, by simp, by simp⟩⟩
      ·refine hs.append ?_
       simp [AB.sc, zcA, AV.scA, AV.scB]
       exact zr8 _ (.inr (by omega))
      ·simp [zlr, AV.sc, AV.scV, AV.scA, AV.scB]
     ·obtain rfl : i = ks.length := by omega
      have e : (zaJ args ks).take ks.length = zaJ args ks := List.take_of_length_le (by rw [zdO]; simp)
      rw [e]
      simp [zq5]
      exact zt0 hs hK'
   simp only [VT.cs, zq3]
   by_cases h4 : k = 4
   ·subst h4
    by_cases h0 : 0 ≤ n
    ·have h1 : ¬ n < args.length := fun h => hvar ⟨rfl, h0, h⟩
     simp [h0, h1, zax, zaP, Nat.add_assoc]
     exact go _ rfl
    ·simp [h0, zax, zaP, Nat.add_assoc]
     exact go _ rfl
   ·have h4' : (k == 4) = false := by simpa using h4
    simp [h4', zax, zaP, Nat.add_assoc]
    exact go _ rfl
mutual
theorem zu1 {args : List VT} {M : Nat} (h1 : 1 ≤ M) (ha : ∀ x ∈ args, x.nodes ≤ M) : ∀ v : VT, (subst args v).nodes ≤ v.nodes * M
 | .mk k n ks => by
  unfold subst
  split
  ·rename_i h
   have hn : n.toNat < args.length := by omega
   rw [List.getElem?_eq_getElem hn]
   have := ha _ (List.getElem_mem hn)
   have h2 : M ≤ (VT.mk k n ks).nodes * M := by
    have := (VT.mk k n ks).nodes_pos
    exact Nat.le_mul_of_pos_left M this
   simp only [Option.getD_some]
   omega
  ·have := zuY h1 ha ks
   simp only [VT.nodes, Nat.succ_mul]
   omega
theorem zuY {args : List VT} {M : Nat} (h1 : 1 ≤ M) (ha : ∀ x ∈ args, x.nodes ≤ M) : ∀ l : List VT, VT.nodesL (zaJ args l) ≤ VT.nodesL l * M
 | [] => by simp [zaJ, VT.nodesL]
 | t :: ts => by
  have h2 := zu1 h1 ha t
  have h3 := zuY h1 ha ts
  simp only [zaJ, VT.nodesL, Nat.add_mul]
  omega
end
theorem zfm {k n : Int} {ks : List VT} : ∀ x ∈ ks, x.nodes ≤ (VT.mk k n ks).nodes := by
 intro x hx
 obtain ⟨i, hi, rfl⟩ := List.mem_iff_getElem.1 hx
 exact Nat.le_of_lt (VT.kid_lt hi)
theorem zd8 {k n : Int} {ks : List VT} : ∀ x ∈ ks, x.nodes < (VT.mk k n ks).nodes := by
 intro x hx
 obtain ⟨i, hi, rfl⟩ := List.mem_iff_getElem.1 hx
 exact VT.kid_lt hi
theorem zvg {H : zaa} {x y : AB} : H ++ [x, y] = (H ++ [x]) ++ [y] := by simp
theorem zcO (data : List Dat) (k n : Int) (ks : List VT) (c : Int) : zaR data (.mk k n ks) c = (if k = 5 ∧ 0 ≤ n ∧ 0 ≤ c then
  match data[n.toNat]? with
  | some d => if (ks.length : Int) = d.vars then
    match d.cons[c.toNat]? with
    | some co => if (co.args.map (subst ks)).all (fun x => decide (x.nodes ≤ 200)) = true then some (co.args.map (subst ks)) else none
    | none => none
   else none
  | none => none
 else none) := rfl
def zbN (o : Option (List VT)) : AV := match o with
 | some l => .tup [.sl (VT.css l) .none, .bool true]
 | none => .tup [.sl [] .none, .bool false]
theorem ztz {α : Type} {l : List α} {i : Nat} (h : i < l.length) {p : α → Prop} (h1 : ∀ x ∈ l.take i, p x) (h2 : p l[i]) : ∀ x ∈ l.take (i + 1), p x := by
 rw [List.take_succ_eq_append_getElem h]
 intro x hx
 rcases List.mem_append.1 hx with hx | hx
 ·exact h1 x hx
 ·simp at hx; subst hx; exact h2
theorem zaK (v : VT) : ∃ a b c, v.cs = [a, b, c] ∧ a.known = true ∧ b.known = true ∧ c.known = true := by
 obtain ⟨k, n, ks⟩ := v; exact ⟨_, _, _, rfl, rfl, rfl, rfl⟩
theorem zpW (data : List Dat) (hdl : data.length ≤ 1000000) (hda : ∀ d ∈ data, ∀ c ∈ d.cons, c.args.length ≤ 1000 ∧ ∀ x ∈ c.args, x.nodes ≤ 1000) (hdc : ∀ d ∈ data, d.cons.length ≤ 1000000) (t : VT) (ht : t.nodes ≤ 1000) (c : Int) (H : zaa) (K : AV → zaa → Prop) (hK : K (zbN (zaR data t c)) H) :
  ACalls tP zgD [.sl (data.map Dat.cs) .none, .agg t.cs, .int .i64 c] H K := by
 refine ACalls.out (zIL fun hs => ?_)
 obtain ⟨k, n, ks⟩ := t
 have hkn : VT.nodesL ks + 1 ≤ 1000 := by simpa [VT.nodes] using ht
 have hkl := VT.len_le ks
 have hF : zaR data (.mk k n ks) c = none → ∀ J, Out H.length K (.tup [.snil, .bool false]) (H ++ J) := fun h J => by
  rw [h] at hK
  exact Out.tup hs hK ⟨zeg, za1 rfl rfl, trivial⟩
 have hFF : ∀ J, zaR data (.mk k n ks) c = none → Out H.length K (.tup [.snil, .bool false]) (H ++ J) := fun J h => hF h J
 simp only [VT.cs, zxq]
 by_cases h5 : k = 5
 case neg =>
  have : (k != 5) = true := by simpa using h5
  simp [this, AV.isV]
  exact hF (by rw [zcO, if_neg (fun h => h5 h.1)]) _
 subst h5
 by_cases h0 : n < 0
 ·simp [h0, AV.isV]
  exact hF (by rw [zcO, if_neg (fun h => by have := h.2.1; omega)]) _
 by_cases h1 : (data.length : Int) ≤ n
 ·simp [h0, h1, AV.isV]
  exact hF (by
   rw [zcO]
   split
   ·rw [List.getElem?_eq_none (by omega)]
   ·rfl) _
 have hn : n.toNat < data.length := by omega
 have h1' : n < data.length := by omega
 have h0' : 0 ≤ n := by omega
 generalize hdd : data[n.toNat] = d at *
 have hd : d ∈ data := by rw [← hdd]; exact List.getElem_mem hn
 have hget : data[n.toNat]? = some d := by rw [List.getElem?_eq_getElem hn, hdd]
 cases hv : ((ks.length : Int) == d.vars) with
 | false =>
  have hv' : ((ks.length : Int) != d.vars) = true := by simp [bne, hv]
  simp [h0, h1, h0', h1', hn, hdd, Dat.cs, hv', AV.isV, hget]
  exact hF (by
   rw [zcO]
   split
   ·rw [hget]
    simp only
    rw [if_neg (by simpa using hv)]
   ·rfl) _
 | true =>
 have hv' : ((ks.length : Int) != d.vars) = false := by simp [bne, hv]
 have hve : (ks.length : Int) = d.vars := by simpa using hv
 by_cases hc0 : c < 0
 ·simp [h0, h1, h0', h1', hn, hdd, Dat.cs, hv', AV.isV, hget, hc0]
  exact hF (by rw [zcO, if_neg (fun h => by have := h.2.2; omega)]) _
 have hfe : ∀ o, (match d.cons[c.toNat]? with | some k => if (k.args.map (subst ks)).all (fun x => decide (x.nodes ≤ 200)) = true then some (k.args.map (subst ks)) else none | none => none) = o → zaR data (.mk 5 n ks) c = o := fun o h => by
  rw [zcO, if_pos ⟨rfl, h0', by omega⟩, hget]
  simp only
  rw [if_pos hve]
  exact h
 by_cases hc1 : (d.cons.length : Int) ≤ c
 ·simp [h0, h1, h0', h1', hn, hdd, Dat.cs, hv', AV.isV, hget, hc0, hc1]
  exact hF (hfe none (by rw [List.getElem?_eq_none (by omega)])) _
 have hcn : c.toNat < d.cons.length := by omega
 have hc1' : c < d.cons.length := by omega
 have hc0' : 0 ≤ c := by omega
 generalize hcc : d.cons[c.toNat] = co at *
 have hco : co ∈ d.cons := by rw [← hcc]; exact List.getElem_mem hcn
 have hgc : d.cons[c.toNat]? = some co := by rw [List.getElem?_eq_getElem hcn, hcc]
 obtain ⟨hal, han⟩ := hda d hd co hco
 have hfe' := fun o => hfe o
 rw [hgc] at hfe'
 simp only at hfe'
 have hsub : ∀ x ∈ co.args, (subst ks x).nodes ≤ 1000000 := fun x hx => by
  have h2 := zu1 (M := 1000) (by omega) (fun y hy => Nat.le_trans (zfm (k := 5) (n := n) y hy) ht) x
  have h3 := han x hx
  have : x.nodes * 1000 ≤ 1000 * 1000 := Nat.mul_le_mul_right _ h3
  omega
 simp [h0, h1, h0', h1', hn, hdd, Dat.cs, hv', AV.isV, hget, hc0, hc1, hc0', hc1', hcn, hcc, Con.cs, hgc]
 have hperm : ∀ m, HSc (H ++ [.cells [.int .i64 5, .int .i64 n, .sl (VT.css ks) .none], .perm zaV 3 m]) := fun m => hs.append rfl
 unfold zku
 refine ALoop.own 8 zaV 3 rfl ?_
 have hlen1 : (H ++ [AB.cells [.int .i64 5, .int .i64 n, .sl (VT.css ks) .none]]).length = H.length + 1 := by simp
 rw [hlen1, List.append_assoc]
 show zku (.ptr H.length 0) (.sl [] (.own (H.length + 1))) (.sl (VT.css co.args) .none) (.int .i64 co.args.length) (.int .i64 0) (H ++ [.cells [.int .i64 5, .int .i64 n, .sl (VT.css ks) .none], .perm zaV 3 0]) (Out H.length K)
 refine zIJ (Inv := fun q t8 t65 H' => ∃ i : Nat, i ≤ co.args.length ∧ q = co.args.length - i ∧ t65 = .int .i64 i ∧ t8 = .sl (VT.css ((co.args.map (subst ks)).take i)) (.own (H.length + 1)) ∧ (∀ x ∈ co.args.take i, (subst ks x).nodes ≤ 200) ∧ H' = H ++ [.cells [.int .i64 5, .int .i64 n, .sl (VT.css ks) .none], .perm zaV 3 i]) co.args.length ?_ ?_
 ·intro _; exact ⟨0, by omega, by omega, rfl, by simp [VT.css], by simp, rfl⟩
 ·rintro q t8 t65 H' ⟨i, hi, rfl, rfl, rfl, hall, rfl⟩ hsc hlen hsF Kb hKb
  by_cases hlt : i < co.args.length
  ·have hmem := List.getElem_mem hlt
   have hx3 := hsub _ hmem
   obtain ⟨x, y, z, hvx, hx, hy, hz⟩ := zaK co.args[i]
   simp [zpU, hlt, hvx, hx, hy, hz]
   rw [← hvx]
   refine zMP ks (fun y hy => by have := zfm (k := 5) (n := n) y hy; omega) (by omega) _ co.args[i] (Nat.le_refl _) (by have := han _ hmem; omega) _ _ ?_
   obtain ⟨x', y', z', hvx', hx', hy', hz'⟩ := zaK (subst ks co.args[i])
   simp [hvx', hx', hy', hz']
   rw [← hvx']
   refine zy4 _ _ (Nat.le_refl _) (by omega) _ _ ?_
   by_cases h200 : (subst ks co.args[i]).nodes ≤ 200
   ·have h200' : ¬ (200 : Int) < (subst ks co.args[i]).nodes := by omega
    simp [h200']
    rw [zev]
    simp [zaw, zaX, zaO]
    refine ⟨by omega, by omega, ?_⟩
    rw [zar (by omega) (by omega), show min i co.args.length = i by omega]
    refine hKb _ _ ⟨co.args.length - (i + 1), by omega, Back.at (H2 := H ++ [.cells [.int .i64 5, .int .i64 n, .sl (VT.css ks) .none], .perm zaV 3 (i + 1)]) (J := [_, _]) (by simp; exact ⟨rfl, rfl⟩) (by simp) (hperm _) ?_ ⟨_, _, rfl, i + 1, by omega, rfl, by simp, ?_, ztz hlt hall h200, rfl⟩⟩
    ·simp [zkt, AV.sc, AV.scV, AV.scA, AV.scB]
    ·rw [zge (by simpa using hlt)]; simp
   ·have h200' : (200 : Int) < (subst ks co.args[i]).nodes := by omega
    simp [h200', AV.isV]
    refine hF (hfe' none ?_) _
    rw [if_neg]
    intro hal2
    have := List.all_eq_true.1 hal2 (subst ks co.args[i]) (List.mem_map.2 ⟨_, hmem, rfl⟩)
    exact h200 (of_decide_eq_true this)
  ·obtain rfl : i = co.args.length := by omega
   rw [List.take_length] at hall
   rw [List.take_of_length_le (by simp)]
   simp [zpU, AV.isV]
   have hfs := hfe' (some (co.args.map (subst ks))) (if_pos (List.all_eq_true.2 fun y hy => by
    obtain ⟨x, hx, rfl⟩ := List.mem_map.1 hy
    exact decide_eq_true (hall x hx)))
   rw [hfs] at hK
   exact Out.tup hs hK ⟨slV, za1 rfl rfl, trivial⟩
theorem zOF : ∀ (m : Nat) (v : VT), v.nodes ≤ m → v.nodes ≤ 1000000000 → ∀ (H : zaa) (K : AV → zaa → Prop), K (.int .i64 v.nodes) H → ACalls tP ziA [.agg v.cs] H K := by
 intro m
 induction m with
 | zero => intro v h; have := v.nodes_pos; omega
 | succ m ih =>
  intro v hv hb H K hK
  obtain ⟨k, n, ks⟩ := v
  have hnl : VT.nodesL ks + 1 ≤ 1000000000 := by simpa [VT.nodes] using hb
  have hll := VT.len_le ks
  refine ACalls.out (zOD fun hs => ?_)
  simp [VT.cs, zzC]
  refine zOB (Inv := fun q t3 t4 H' => ∃ i : Nat, i ≤ ks.length ∧ q = ks.length - i ∧ t4 = .int .i64 i ∧ t3 = .int .i64 (1 + VT.nodesL (ks.take i) : Nat) ∧ H' = H ++ [.cells [.int .i64 k, .int .i64 n, .sl (VT.css ks) .none]]) ks.length ?_ ?_
  ·intro _; exact ⟨0, by omega, by omega, rfl, by simp [VT.nodesL], rfl⟩
  ·rintro q t3 t4 H' ⟨i, hi, rfl, rfl, rfl, rfl⟩ hsc hlen hsF Kb hKb
   by_cases hlt : i < ks.length
   ·have hki := VT.kid_lt (k := k) (n := n) hlt
    have h1 := VT.nodesL_take hlt
    have h2 := VT.nodesL_take_le ks (i + 1)
    obtain ⟨x, y, z, hvx, hx, hy, hz⟩ := zaK ks[i]
    simp [zrD, hlt, hvx, hx, hy, hz]
    rw [← hvx]
    refine ih ks[i] (by omega) (by omega) _ _ ?_
    simp
    rw [zar (by omega) (by omega), zar (by omega) (by omega), zvg]
    refine hKb _ _ ⟨ks.length - (i + 1), by omega, Back.same (by simp) hsc ?_ ⟨_, _, rfl, i + 1, by omega, rfl, by simp, ?_, rfl⟩⟩
    ·simp [zlU, AV.sc, AV.scV, AV.scA, AV.scB]
    ·rw [h1]; congr 1; omega
   ·obtain rfl : i = ks.length := by omega
    simp [zrD]
    refine Out.int rfl (Nat.le_refl _) hs ?_
    simpa [VT.nodes, Int.add_comm] using hK
def zbT (f : VT → VT → Bool) : List VT → List VT → Bool
 | [], [] => true
 | a :: x, b :: y => f a b && zbT f x y
 | _, _ => false
theorem zhL {f : VT → VT → Bool} : ∀ {x y : List VT}, x.length ≠ y.length → zbT f x y = false
 | [], [], h => (h rfl).elim
 | a :: x, b :: y, h => by
  have : x.length ≠ y.length := fun e => h (by simp [e])
  simp [zbT, zhL this]
 | [], _ :: _, _ => rfl
 | _ :: _, [], _ => rfl
end Go.Proofs.YtjkkonpjecoieaaGreat
