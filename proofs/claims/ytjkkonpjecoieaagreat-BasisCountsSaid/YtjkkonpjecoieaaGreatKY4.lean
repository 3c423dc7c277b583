import Derived.Test.YtjkkonpjecoieaaGreatKNum
import Derived.Test.YtjkkonpjecoieaaGreatProg
import Derived.KernelRfl
import Derived.Test.YtjkkonpjecoieaaGreatAbsQ1
set_option linter.unusedSimpArgs false
set_option linter.unusedVariables false
namespace Go.Proofs.YtjkkonpjecoieaaGreat
open Go Go.Abs
set_option maxRecDepth 100000
def zjy : Nat → List Bool
 | 5 => rl false [1,2,2,1,24]
 | _ => []
noncomputable def zog : Code := Tryz.f72.body.getD .skip
noncomputable def zHQ : List ResultVar := Tryz.f72.results.toList
def zjz (t1 t2 t5 : AV) : List AV := ux 1 (t1 :: t2 :: ux 2 (t5 :: ux 24 []))
def zHO : List Bool := zjy 5
noncomputable def zHM : Code := zar [1, 1, 1, 0, 1, 0, 0] zog
def zHL (K : Kt) : AExit → List AV → zaa → Prop := zas tP zjy [1, 1, 1, 0, 1, 0] zog (zaw tP zHQ K)
def zu8 (t1 t2 t5 : AV) (H : zaa) (K : Kt) : Prop := ALoop tP zHM (zHL K) (zjz t1 t2 t5) H
def zof (t1 t2 t5 : AV) (H : zaa) (K : Kt) (Kb5 : Lt) : Prop :=
 zaf 2 t2 fun t16 =>
 zad false 1 t16 H fun t17 =>
 zah 1 t17 fun t18 =>
 zac .lss false t5 t18 fun t19 =>
 zag t19
 (zaf 2 t2 fun t22 =>
 zad false 1 t22 H fun t23 =>
 zaj 3 t23 t5 fun t25 =>
 zad true 3 t25 H fun t26 =>
 ACalls tP zfD [t26, t1] H fun t28 H =>
 aUn .not t28 fun t29 =>
 zag t29
 (K (.bool false) H)
 (zac .add false t5 (.int .i64 1) fun t21 =>
 Kb5 (zjz t1 t2 t21) H))
 (K (.bool true) H)
def zu7 (t0 t1 : AV) (H : zaa) (K : Kt) : Prop :=
 zap t0 H fun t2 H =>
 zaU t1 fun t7 =>
 zad false 1 t7 H fun t8 =>
 zac .sub false t8 (.int .i64 1) fun t9 =>
 zaU t1 fun t10 =>
 zak 1 t10 t9 H fun H =>
 zaU t1 fun t12 =>
 zad false 1 t12 H fun t13 =>
 zac .lss false t13 (.int .i64 0) fun t14 =>
 zag t14
 (K (.bool false) H)
 (zu8 t1 t2 (.int .i64 0) H K)
theorem zHN {t1 t2 t5 : AV} {H : zaa} {K : Kt} (Inv : Nat → AV → zaa → Prop) (n : Nat) (h0 : HSc H → Inv n t5 H)
  (round : Rd1 (fun t5 => zjz t1 t2 t5) (fun t5 => fun H Kb5 => zof t1 t2 t5 H K Kb5) H Inv) : zu8 t1 t2 t5 H K :=
 lp1 (M := zjy) zHO t5 (by kernel_rfl) Inv n h0 round
theorem zHP {t0 t1 : AV} {H : zaa} {K : Kt} (h : HSc H → zu7 t0 t1 H K) : ACalls tP zfD [t0, t1] H K :=
 zam (M := zjy) Tryz.func72 (c := zog) (by kernel_rfl) (fun hs => Eq.mpr (by kernel_rfl) (h hs))
def zFE (_ : Nat) : List Bool := []
noncomputable def zFF : Code := Tryz.f30.body.getD .skip
def zut (t0 : AV) (H : zaa) (K : Kt) : Prop :=
 zap t0 H fun t1 H =>
 zau [(.int .i64 0)] H fun t3 H =>
 zak 1 t3 (.int .i64 250) H fun H =>
 zad true 3 t1 H fun t4 =>
 ACalls tP zfD [t4, t3] H fun t5 H =>
 K t5 H
theorem zFG {t0 : AV} {H : zaa} {K : Kt} (h : HSc H → zut t0 H K) : ACalls tP zlj [t0] H K :=
 zam (M := zFE) Tryz.func30 (c := zFF) (by kernel_rfl) (fun hs => Eq.mpr (by kernel_rfl) (h hs))
def zcZ : Nat → List Bool
 | 4 => rl false [13,3,43]
 | 9 => rl false [13,3,14,3,26]
 | 15 => rl false [7,1,5,3,14,3,14,3,9]
 | _ => []
noncomputable def znC : Code := Tryz.f29.body.getD .skip
noncomputable def zFC : List ResultVar := Tryz.f29.results.toList
def zfZ (t13 t14 t15 : AV) : List AV := ux 13 (t13 :: t14 :: t15 :: ux 43 [])
def zur : List Bool := zcZ 4
noncomputable def znD : Code := zar [1, 1, 0, 1, 0, 0] znC
def zum (K : Kt) : AExit → List AV → zaa → Prop := zas tP zcZ [1, 1, 0, 1, 0] znC (zaw tP zFC K)
def zup (t13 t14 t15 : AV) (H : zaa) (K : Kt) : Prop := ALoop tP znD (zum K) (zfZ t13 t14 t15) H
def ziZ (t13 t14 t15 t30 t31 t32 : AV) : List AV := ux 13 (t13 :: t14 :: t15 :: ux 14 (t30 :: t31 :: t32 :: ux 26 []))
def zus : List Bool := zcZ 9
noncomputable def znE : Code := zar [1, 1, 0, 0, 1, 1, 1, 0, 0] znD
def zun (K : Kt) (Kb4 : Lt) : AExit → List AV → zaa → Prop := zas tP zcZ [1, 1, 0, 0, 1, 1, 1, 0] znD (zbQ zur Kb4 (zum K))
def zuq (t13 t14 t15 t30 t31 t32 : AV) (H : zaa) (K : Kt) (Kb4 : Lt) : Prop := ALoop tP znE (zun K Kb4) (ziZ t13 t14 t15 t30 t31 t32) H
def ziY (t7 t13 t14 t15 t30 t31 t32 t47 t48 t49 : AV) : List AV := ux 7 (t7 :: ux 5 (t13 :: t14 :: t15 :: ux 14 (t30 :: t31 :: t32 :: ux 14 (t47 :: t48 :: t49 :: ux 9 []))))
def zFA : List Bool := zcZ 15
noncomputable def zFw : Code := zar [1, 1, 0, 0, 1, 1, 1, 1, 0, 0] znE
def zFv (K : Kt) (Kb4 : Lt) (Kb9 : Lt) : AExit → List AV → zaa → Prop := zas tP zcZ [1, 1, 0, 0, 1, 1, 1, 1, 0] znE (zbQ zus Kb9 (zun K Kb4))
def zuo (t7 t13 t14 t15 t30 t31 t32 t47 t48 t49 : AV) (H : zaa) (K : Kt) (Kb4 : Lt) (Kb9 : Lt) : Prop := ALoop tP zFw (zFv K Kb4 Kb9) (ziY t7 t13 t14 t15 t30 t31 t32 t47 t48 t49) H
def znz (t7 t13 t14 t15 t30 t31 t32 t47 t48 t49 : AV) (H : zaa) (K : Kt) (Kb4 : Lt) (Kb9 : Lt) (Kb15 : Lt) : Prop :=
 zac .lss false t49 t48 fun t50 =>
 zag t50
 (zaj 3 t47 t49 fun t51 =>
 zad true 3 t51 H fun t52 =>
 zau [(.int .i64 0), (.int .i64 0), .snil] H fun t9 H =>
 zak 3 t9 t52 H fun H =>
 zad true 3 t9 H fun t53 =>
 ACalls tP zfD [t53, t7] H fun t54 H =>
 aUn .not t54 fun t55 =>
 zag t55
 (K (.bool false) H)
 (zac .add false t49 (.int .i64 1) fun t56 =>
 Kb15 (ziY t7 t13 t14 t15 t30 t31 t32 t47 t48 t56) H))
 (zac .add false t32 (.int .i64 1) fun t57 =>
 Kb9 (ziZ t13 t14 t15 t30 t31 t57) H)
def znB (t13 t14 t15 t30 t31 t32 : AV) (H : zaa) (K : Kt) (Kb4 : Lt) (Kb9 : Lt) : Prop :=
 zac .lss false t32 t31 fun t33 =>
 zag t33
 (zaj 2 t30 t32 fun t34 =>
 zad true 2 t34 H fun t35 =>
 zau [(.str []), .snil] H fun t6 H =>
 zak 2 t6 t35 H fun H =>
 zaf 0 t6 fun t36 =>
 zad false 1 t36 H fun t37 =>
 zah 0 t37 fun t38 =>
 zac .gtr false t38 (.int .i64 40) fun t39 =>
 zab t39 false H (fun K' => zaf 1 t6 (K' · H)) fun t41 H =>
 zab t39 false H (fun K' => zad false 1 t41 H (K' · H)) fun t42 H =>
 zab t39 false H (fun K' => zah 1 t42 (K' · H)) fun t43 H =>
 zab t39 false H (fun K' => zac .gtr false t43 (.int .i64 8) (K' · H)) fun t44 H =>
 zai t39 (.bool true) t44 fun t45 =>
 zag t45
 (K (.bool false) H)
 (zau [(.int .i64 0)] H fun t7 H =>
 zak 1 t7 (.int .i64 20) H fun H =>
 zaf 1 t6 fun t46 =>
 zad false 1 t46 H fun t47 =>
 zah 1 t47 fun t48 =>
 zuo t7 t13 t14 t15 t30 t31 t32 t47 t48 (.int .i64 0) H K Kb4 Kb9))
 (zac .add false t15 (.int .i64 1) fun t58 =>
 Kb4 (zfZ t13 t14 t58) H)
def znA (t13 t14 t15 : AV) (H : zaa) (K : Kt) (Kb4 : Lt) : Prop :=
 zac .lss false t15 t14 fun t16 =>
 zag t16
 (zaj 3 t13 t15 fun t17 =>
 zad true 3 t17 H fun t18 =>
 zau [(.str []), (.int .i64 0), .snil] H fun t4 H =>
 zak 3 t4 t18 H fun H =>
 zaf 0 t4 fun t19 =>
 zad false 1 t19 H fun t20 =>
 zah 0 t20 fun t21 =>
 zac .gtr false t21 (.int .i64 40) fun t22 =>
 zab t22 false H (fun K' => zaf 2 t4 (K' · H)) fun t24 H =>
 zab t22 false H (fun K' => zad false 1 t24 H (K' · H)) fun t25 H =>
 zab t22 false H (fun K' => zah 1 t25 (K' · H)) fun t26 H =>
 zab t22 false H (fun K' => zac .gtr false t26 (.int .i64 10) (K' · H)) fun t27 H =>
 zai t22 (.bool true) t27 fun t28 =>
 zag t28
 (K (.bool false) H)
 (zaf 2 t4 fun t29 =>
 zad false 1 t29 H fun t30 =>
 zah 1 t30 fun t31 =>
 zuq t13 t14 t15 t30 t31 (.int .i64 0) H K Kb4))
 (K (.bool true) H)
def zny (t0 : AV) (H : zaa) (K : Kt) : Prop :=
 zah 1 t0 fun t11 =>
 zac .gtr false t11 (.int .i64 14) fun t12 =>
 zag t12
 (K (.bool false) H)
 (zah 1 t0 fun t14 =>
 zup t0 t14 (.int .i64 0) H K)
theorem zFx {t7 t13 t14 t15 t30 t31 t32 t47 t48 t49 : AV} {H : zaa} {K : Kt} {Kb4 : Lt} {Kb9 : Lt} (Inv : Nat → AV → zaa → Prop) (n : Nat) (h0 : HSc H → Inv n t49 H)
  (round : Rd1 (fun t49 => ziY t7 t13 t14 t15 t30 t31 t32 t47 t48 t49) (fun t49 => fun H Kb15 => znz t7 t13 t14 t15 t30 t31 t32 t47 t48 t49 H K Kb4 Kb9 Kb15) H Inv) : zuo t7 t13 t14 t15 t30 t31 t32 t47 t48 t49 H K Kb4 Kb9 :=
 lp1 (M := zcZ) zFA t49 (by kernel_rfl) Inv n h0 round
theorem zFz {t13 t14 t15 t30 t31 t32 : AV} {H : zaa} {K : Kt} {Kb4 : Lt} (Inv : Nat → AV → zaa → Prop) (n : Nat) (h0 : HSc H → Inv n t32 H)
  (round : Rd1 (fun t32 => ziZ t13 t14 t15 t30 t31 t32) (fun t32 => fun H Kb9 => znB t13 t14 t15 t30 t31 t32 H K Kb4 Kb9) H Inv) : zuq t13 t14 t15 t30 t31 t32 H K Kb4 :=
 lp1 (M := zcZ) zus t32 (by kernel_rfl) Inv n h0 round
theorem zFy {t13 t14 t15 : AV} {H : zaa} {K : Kt} (Inv : Nat → AV → zaa → Prop) (n : Nat) (h0 : HSc H → Inv n t15 H)
  (round : Rd1 (fun t15 => zfZ t13 t14 t15) (fun t15 => fun H Kb4 => znA t13 t14 t15 H K Kb4) H Inv) : zup t13 t14 t15 H K :=
 lp1 (M := zcZ) zur t15 (by kernel_rfl) Inv n h0 round
theorem zFB {t0 : AV} {H : zaa} {K : Kt} (h : HSc H → zny t0 H K) : ACalls tP zli [t0] H K :=
 zam (M := zcZ) Tryz.func29 (c := znC) (by kernel_rfl) (fun hs => Eq.mpr (by kernel_rfl) (h hs))
def zz8 (_ : Nat) : List Bool := []
noncomputable def zz9 : Code := Tryz.f121.body.getD .skip
def zss (t0 t1 t2 : AV) (H : zaa) (K : Kt) : Prop :=
 zap t1 H fun t4 H =>
 zav [.snil, (.int .i64 0), (.int .i64 0)] [(0, 1), (1, 1), (2, 1)] [(0, t0), (1, t2), (2, (.int .i64 200))] fun t10 =>
 zap t10 H fun t11 H =>
 zad true 3 t4 H fun t13 =>
 ACalls tP zgG [t11, t13] H fun t14 H =>
 K t14 H
theorem zAa {t0 t1 t2 : AV} {H : zaa} {K : Kt} (h : HSc H → zss t0 t1 t2 H K) : ACalls tP zex [t0, t1, t2] H K :=
 zam (M := zz8) Tryz.func121 (c := zz9) (by kernel_rfl) (fun hs => Eq.mpr (by kernel_rfl) (h hs))
def zdg : Nat → List Bool
 | 171022 => rl false [2,2,16,1,53,1,34]
 | 150010 => rl false [2,2,1,2,13,2,87]
 | 100007 => rl false [2,2,1,2,13,1,88]
 | 100002 => rl false [2,2,105]
 | _ => []
noncomputable def zdh : Code := Tryz.f165.body.getD .skip
noncomputable def zih : List ResultVar := Tryz.f165.results.toList
def zeR (t2 t3 t5 t6 : AV) (H : zaa) (K : Kt) : Prop :=
 zaf 0 t3 fun t79 =>
 zad false 1 t79 H fun t80 =>
 zac .neq false t80 (.int .i64 4) fun t81 =>
 zab t81 true H (fun K' => zaf 0 t3 (K' · H)) fun t83 H =>
 zab t81 true H (fun K' => zad false 1 t83 H (K' · H)) fun t84 H =>
 zab t81 true H (fun K' => zac .neq false t84 (.int .i64 5) (K' · H)) fun t85 H =>
 zai t81 t85 (.bool false) fun t86 =>
 zab t86 true H (fun K' => zaf 1 t3 (K' · H)) fun t88 H =>
 zab t86 true H (fun K' => zad false 1 t88 H (K' · H)) fun t89 H =>
 zab t86 true H (fun K' => zac .neq false t89 (.int .i64 0) (K' · H)) fun t90 H =>
 zai t86 t90 (.bool false) fun t91 =>
 zag t91
 (K (.bool false) H)
 (zaf 2 t3 fun t92 =>
 zad false 1 t92 H fun t93 =>
 zah 1 t93 fun t94 =>
 zac .lss false t94 t5 fun t96 =>
 zab t96 false H (fun K' => zaf 2 t3 (K' · H)) fun t98 H =>
 zab t96 false H (fun K' => zad false 1 t98 H (K' · H)) fun t99 H =>
 zab t96 false H (fun K' => zah 1 t99 (K' · H)) fun t100 H =>
 zab t96 false H (fun K' => K' t6 H) fun t101 H =>
 zab t96 false H (fun K' => zac .gtr false t100 t101 (K' · H)) fun t102 H =>
 zai t96 (.bool true) t102 fun t103 =>
 zag t103
 (K (.bool false) H)
 (zaf 2 t3 fun t104 =>
 zad false 1 t104 H fun t105 =>
 zbM zgM [t2] fun t106 =>
 ACalls tP zdY [t105, t106] H fun t107 H =>
 aUn .not t107 fun t108 =>
 K t108 H))
def zcJ (t2 t3 t5 t6 : AV) (H : zaa) (K : Kt) : Prop :=
 zeR t2 t3 t5 t6 H K
noncomputable def zCw : Code := zar [1, 1, 1, 1, 0, 1, 0, 1, 1, 1, 1, 1, 1, 1, 1, 1] zdh
def zCv (K : Kt) : AExit → List AV → zaa → Prop := zas tP zdg [1, 1, 1, 1, 0, 1, 0, 1, 1, 1, 1, 1, 1, 1, 1, 1] zdh (zaw tP zih K)
def zmQ (t2 t3 t20 t74 : AV) (H : zaa) (K : Kt) : Prop := AWp tP zCw (zCv K) (ux 2 (t2 :: t3 :: ux 16 (t20 :: ux 53 (t74 :: ux 34 [])))) H
def zig (t2 t3 t20 t74 : AV) (H : zaa) (K : Kt) : Prop :=
 zag t74
 (zcJ t2 t3 (.int .i64 1) (.int .i64 1) H K)
 (zac .eql false t20 (.int .i64 9) fun t78 =>
 zag t78
 (zcJ t2 t3 (.int .i64 1) (.int .i64 7) H K)
 (K (.bool false) H))
noncomputable def zCu : Code := zar [1, 1, 1, 1, 0, 1, 0, 1] zdh
def zCt (K : Kt) : AExit → List AV → zaa → Prop := zas tP zdg [1, 1, 1, 1, 0, 1, 0, 1] zdh (zaw tP zih K)
def zif (t2 t3 t5 t6 t20 t21 : AV) (H : zaa) (K : Kt) : Prop := AWp tP zCu (zCt K) (ux 2 (t2 :: t3 :: ux 1 (t5 :: t6 :: ux 13 (t20 :: t21 :: ux 87 [])))) H
def zcR (t2 t3 t5 t6 t20 t21 : AV) (H : zaa) (K : Kt) : Prop :=
 zag t21
 (zcJ t2 t3 t5 t6 H K)
 (zac .eql false t20 (.int .i64 4) fun t26 =>
 zag t26
 (zae H (fun K' => zaf 1 t3 (K' · H)) fun t27 =>
 zae H (fun K' => zan false 1 t27 H (K' · H)) fun t28 =>
 zae H (fun K' => zac .lss false t28 (.int .i64 0) (K' · H)) fun t29 =>
 zae H (fun K' => K' t29 H) fun t30 =>
 zab t30 false H (fun K' => zae H (fun K'' => zaf 1 t3 (K'' · H)) (K' · H)) fun t31 H =>
 zab t30 false H (fun K' => zae H (fun K'' => zan false 1 t31 H (K'' · H)) (K' · H)) fun t32 H =>
 zab t30 false H (fun K' => zae H (fun K'' => zan false 1 t2 H (K'' · H)) (K' · H)) fun t33 H =>
 zab t30 false H (fun K' => zae H (fun K'' => zaU t33 (K'' · H)) (K' · H)) fun t34 H =>
 zab t30 false H (fun K' => zae H (fun K'' => zaf 1 t34 (K'' · H)) (K' · H)) fun t35 H =>
 zab t30 false H (fun K' => zae H (fun K'' => zan false 1 t35 H (K'' · H)) (K' · H)) fun t36 H =>
 zab t30 false H (fun K' => zae H (fun K'' => zac .geq false t32 t36 (K'' · H)) (K' · H)) fun t37 H =>
 zae H (fun K' => zai t30 (.bool true) t37 (K' · H)) fun t38 =>
 zag t38
 (K (.bool false) H)
 (zcJ t2 t3 t5 t6 H K))
 (zac .eql false t20 (.int .i64 5) fun t40 =>
 zag t40
 (zae H (fun K' => zaf 1 t3 (K' · H)) fun t41 =>
 zae H (fun K' => zan false 1 t41 H (K' · H)) fun t42 =>
 zae H (fun K' => zac .lss false t42 (.int .i64 0) (K' · H)) fun t43 =>
 zae H (fun K' => K' t43 H) fun t44 =>
 zab t44 false H (fun K' => zae H (fun K'' => zaf 1 t3 (K'' · H)) (K' · H)) fun t45 H =>
 zab t44 false H (fun K' => zae H (fun K'' => zan false 1 t45 H (K'' · H)) (K' · H)) fun t46 H =>
 zab t44 false H (fun K' => zae H (fun K'' => zan false 1 t2 H (K'' · H)) (K' · H)) fun t47 H =>
 zab t44 false H (fun K' => zae H (fun K'' => zaU t47 (K'' · H)) (K' · H)) fun t48 H =>
 zab t44 false H (fun K' => zae H (fun K'' => zaf 0 t48 (K'' · H)) (K' · H)) fun t49 H =>
 zab t44 false H (fun K' => zae H (fun K'' => zan false 1 t49 H (K'' · H)) (K' · H)) fun t50 H =>
 zab t44 false H (fun K' => zae H (fun K'' => zah 1 t50 (K'' · H)) (K' · H)) fun t51 H =>
 zab t44 false H (fun K' => zae H (fun K'' => zac .geq false t46 t51 (K'' · H)) (K' · H)) fun t52 H =>
 zae H (fun K' => zai t44 (.bool true) t52 (K' · H)) fun t53 =>
 zag t53
 (K (.bool false) H)
 (zae H (fun K' => zan false 1 t2 H (K' · H)) fun t54 =>
 zae H (fun K' => zaU t54 (K' · H)) fun t55 =>
 zae H (fun K' => zaf 0 t55 (K' · H)) fun t56 =>
 zae H (fun K' => zan false 1 t56 H (K' · H)) fun t57 =>
 zae H (fun K' => zaf 1 t3 (K' · H)) fun t58 =>
 zae H (fun K' => zan false 1 t58 H (K' · H)) fun t59 =>
 zae H (fun K' => zaj 3 t57 t59 (K' · H)) fun t60 =>
 zae H (fun K' => zaf 1 t60 (K' · H)) fun t61 =>
 zae H (fun K' => zan false 1 t61 H (K' · H)) fun t62 =>
 zae H (fun K' => zan false 1 t2 H (K' · H)) fun t63 =>
 zae H (fun K' => zaU t63 (K' · H)) fun t64 =>
 zae H (fun K' => zaf 0 t64 (K' · H)) fun t65 =>
 zae H (fun K' => zan false 1 t65 H (K' · H)) fun t66 =>
 zae H (fun K' => zaf 1 t3 (K' · H)) fun t67 =>
 zae H (fun K' => zan false 1 t67 H (K' · H)) fun t68 =>
 zae H (fun K' => zaj 3 t66 t68 (K' · H)) fun t69 =>
 zae H (fun K' => zaf 1 t69 (K' · H)) fun t70 =>
 zae H (fun K' => zan false 1 t70 H (K' · H)) fun t71 =>
 zae H (fun K' => K' t62 H) fun t5 =>
 zae H (fun K' => K' t71 H) fun t6 =>
 zcJ t2 t3 t5 t6 H K))
 (zac .eql false t20 (.int .i64 6) fun t73 =>
 zag t73
 (zcJ t2 t3 (.int .i64 2) (.int .i64 6) H K)
 (zac .eql false t20 (.int .i64 7) fun t75 =>
 zag t75
 (zmQ t2 t3 t20 t75 H K)
 (zac .eql false t20 (.int .i64 8) fun t76 =>
 zmQ t2 t3 t20 t76 H K)))))
noncomputable def zCr : Code := zar [1, 1, 1, 1, 0, 1] zdh
def zCq (K : Kt) : AExit → List AV → zaa → Prop := zas tP zdg [1, 1, 1, 1, 0, 1] zdh (zaw tP zih K)
def ztp (t2 t3 t5 t6 t20 : AV) (H : zaa) (K : Kt) : Prop := AWp tP zCr (zCq K) (ux 2 (t2 :: t3 :: ux 1 (t5 :: t6 :: ux 13 (t20 :: ux 88 [])))) H
def zmP (t2 t3 t5 t6 t20 : AV) (H : zaa) (K : Kt) : Prop :=
 zac .eql false t20 (.int .i64 1) fun t22 =>
 zag t22
 (zif t2 t3 t5 t6 t20 t22 H K)
 (zac .eql false t20 (.int .i64 2) fun t23 =>
 zag t23
 (zif t2 t3 t5 t6 t20 t23 H K)
 (zac .eql false t20 (.int .i64 3) fun t24 =>
 zif t2 t3 t5 t6 t20 t24 H K))
noncomputable def zCo : Code := zar [1, 1] zdh
def zCn (K : Kt) : AExit → List AV → zaa → Prop := zas tP zdg [1, 1] zdh (zaw tP zih K)
def zmN (t2 t3 : AV) (H : zaa) (K : Kt) : Prop := AWp tP zCo (zCn K) (ux 2 (t2 :: t3 :: ux 105 [])) H
def zmO (t2 t3 : AV) (H : zaa) (K : Kt) : Prop :=
 zad false 1 t2 H fun t14 =>
 zaU t14 fun t15 =>
 zaf 2 t15 fun t16 =>
 zad false 1 t16 H fun t17 =>
 zac .lss false t17 (.int .i64 0) fun t18 =>
 zag t18
 (K (.bool false) H)
 (zaf 0 t3 fun t19 =>
 zad false 1 t19 H fun t20 =>
 ztp t2 t3 (.int .i64 0) (.int .i64 0) t20 H K)
def zto (t0 t1 : AV) (H : zaa) (K : Kt) : Prop :=
 zap t0 H fun t2 H =>
 zap t1 H fun t3 H =>
 zad false 1 t2 H fun t7 =>
 zaU t7 fun t8 =>
 zaf 2 t8 fun t9 =>
 zad false 1 t9 H fun t10 =>
 zac .sub false t10 (.int .i64 1) fun t11 =>
 zaU t7 fun t12 =>
 zaf 2 t12 fun t13 =>
 zak 1 t13 t11 H fun H =>
 zmN t2 t3 H K
theorem ztr {t2 t3 t20 t74 : AV} {H : zaa} {K : Kt} (h : HSc H → zig t2 t3 t20 t74 H K) : zmQ t2 t3 t20 t74 H K :=
 fun B w G a hH hF hd => zem (M := zdg) _ _ _ _ (Eq.mpr (by kernel_rfl) (h hH.sc)) B w G a hH hF hd
theorem ztq {t2 t3 t5 t6 t20 t21 : AV} {H : zaa} {K : Kt} (h : HSc H → zcR t2 t3 t5 t6 t20 t21 H K) : zif t2 t3 t5 t6 t20 t21 H K :=
 fun B w G a hH hF hd => zem (M := zdg) _ _ _ _ (Eq.mpr (by kernel_rfl) (h hH.sc)) B w G a hH hF hd
theorem zCs {t2 t3 t5 t6 t20 : AV} {H : zaa} {K : Kt} (h : HSc H → zmP t2 t3 t5 t6 t20 H K) : ztp t2 t3 t5 t6 t20 H K :=
 fun B w G a hH hF hd => zem (M := zdg) _ _ _ _ (Eq.mpr (by kernel_rfl) (h hH.sc)) B w G a hH hF hd
theorem zCp {t2 t3 : AV} {H : zaa} {K : Kt} (h : HSc H → zmO t2 t3 H K) : zmN t2 t3 H K :=
 fun B w G a hH hF hd => zem (M := zdg) _ _ _ _ (Eq.mpr (by kernel_rfl) (h hH.sc)) B w G a hH hF hd
theorem zCx {t0 t1 : AV} {H : zaa} {K : Kt} (h : HSc H → zto t0 t1 H K) : ACalls tP zgG [t0, t1] H K :=
 zam (M := zdg) Tryz.func165 (c := zdh) (by kernel_rfl) (fun hs => Eq.mpr (by kernel_rfl) (h hs))
def zEb (_ : Nat) : List Bool := []
noncomputable def zEc : Code := Tryz.f199.body.getD .skip
def ztW (t0 t1 : AV) (H : zaa) (K : Kt) : Prop :=
 zap t0 H fun t2 H =>
 zad false 1 t1 H fun t4 =>
 zad true 3 t2 H fun t5 =>
 ACalls tP zgG [t4, t5] H fun t6 H =>
 aUn .not t6 fun t7 =>
 K t7 H
theorem zEd {t0 t1 : AV} {H : zaa} {K : Kt} (h : HSc H → ztW t0 t1 H K) : ACalls tP zgM [t0, t1] H K :=
 zam (M := zEb) Tryz.func199 (c := zEc) (by kernel_rfl) (fun hs => Eq.mpr (by kernel_rfl) (h hs))
def zD4 (_ : Nat) : List Bool := []
noncomputable def zD5 : Code := Tryz.f191.body.getD .skip
def ztV (t0 t1 : AV) (H : zaa) (K : Kt) : Prop :=
 ACalls tP zlc [t0, t1] H fun t7 H =>
 zac .geq false t7 (.int .i64 0) fun t8 =>
 K t8 H
theorem zD6 {t0 t1 : AV} {H : zaa} {K : Kt} (h : HSc H → ztV t0 t1 H K) : ACalls tP zdY [t0, t1] H K :=
 zam (M := zD4) Tryz.func191 (c := zD5) (by kernel_rfl) (fun hs => Eq.mpr (by kernel_rfl) (h hs))
def ziQ : Nat → List Bool
 | 2 => rl false [0,2,5,2,10]
 | _ => []
noncomputable def zns : Code := Tryz.f208.body.getD .skip
noncomputable def zEN : List ResultVar := Tryz.f208.results.toList
def ziR (t0 t1 t7 t8 : AV) : List AV := t0 :: t1 :: ux 5 (t7 :: t8 :: ux 10 [])
def zEL : List Bool := ziQ 2
noncomputable def zEJ : Code := zar [1, 0, 1, 0, 0] zns
def zEI (K : Kt) : AExit → List AV → zaa → Prop := zas tP ziQ [1, 0, 1, 0] zns (zaw tP zEN K)
def zt8 (t0 t1 t7 t8 : AV) (H : zaa) (K : Kt) : Prop := ALoop tP zEJ (zEI K) (ziR t0 t1 t7 t8) H
def znr (t0 t1 t7 t8 : AV) (H : zaa) (K : Kt) (Kb2 : Lt) : Prop :=
 zac .lss false t8 t7 fun t9 =>
 zag t9
 (zaj 3 t0 t8 fun t14 =>
 zad true 3 t14 H fun t15 =>
 aCallV tP t1 [t15] H fun t16 H =>
 zag t16
 (K t8 H)
 (zac .add false t8 (.int .i64 1) fun t18 =>
 Kb2 (ziR t0 t1 t7 t18) H))
 (K (.int .i64 (-1)) H)
def zt7 (t0 t1 : AV) (H : zaa) (K : Kt) : Prop :=
 zah 1 t0 fun t7 =>
 zt8 t0 t1 t7 (.int .i64 0) H K
theorem zEK {t0 t1 t7 t8 : AV} {H : zaa} {K : Kt} (Inv : Nat → AV → zaa → Prop) (n : Nat) (h0 : HSc H → Inv n t8 H)
  (round : Rd1 (fun t8 => ziR t0 t1 t7 t8) (fun t8 => fun H Kb2 => znr t0 t1 t7 t8 H K Kb2) H Inv) : zt8 t0 t1 t7 t8 H K :=
 lp1 (M := ziQ) zEL t8 (by kernel_rfl) Inv n h0 round
theorem zEM {t0 t1 : AV} {H : zaa} {K : Kt} (h : HSc H → zt7 t0 t1 H K) : ACalls tP zlc [t0, t1] H K :=
 zam (M := ziQ) Tryz.func208 (c := zns) (by kernel_rfl) (fun hs => Eq.mpr (by kernel_rfl) (h hs))
def zc1 : Nat → List Bool
 | 8 => rl false [2,1,1,1,3,2,49,3,46]
 | 13 => rl false [2,1,1,1,3,2,67,3,28]
 | 20 => rl false [4,1,9,1,78,3,12]
 | _ => []
noncomputable def zeg : Code := Tryz.f45.body.getD .skip
noncomputable def zn0 : List ResultVar := Tryz.f45.results.toList
def zjg (t2 t4 t8 t9 t59 t60 t61 : AV) : List AV := ux 2 (t2 :: ux 1 (t4 :: ux 3 (t8 :: t9 :: ux 49 (t59 :: t60 :: t61 :: ux 46 []))))
def zGS : List Bool := zc1 8
noncomputable def zGM : Code := zar [1, 1, 1, 1, 1, 0, 1, 0, 0] zeg
def zGJ (K : Kt) : AExit → List AV → zaa → Prop := zas tP zc1 [1, 1, 1, 1, 1, 0, 1, 0] zeg (zaw tP zn0 K)
def zuR (t2 t4 t8 t9 t59 t60 t61 : AV) (H : zaa) (K : Kt) : Prop := ALoop tP zGM (zGJ K) (zjg t2 t4 t8 t9 t59 t60 t61) H
def zje (t2 t4 t8 t9 t77 t78 t79 : AV) : List AV := ux 2 (t2 :: ux 1 (t4 :: ux 3 (t8 :: t9 :: ux 67 (t77 :: t78 :: t79 :: ux 28 []))))
def zGQ : List Bool := zc1 13
noncomputable def zGK : Code := zar [1, 1, 1, 1, 1, 1, 0, 1, 0, 0] zeg
def zGH (K : Kt) : AExit → List AV → zaa → Prop := zas tP zc1 [1, 1, 1, 1, 1, 1, 0, 1, 0] zeg (zaw tP zn0 K)
def zuQ (t2 t4 t8 t9 t77 t78 t79 : AV) (H : zaa) (K : Kt) : Prop := ALoop tP zGK (zGH K) (zje t2 t4 t8 t9 t77 t78 t79) H
def zjf (t4 t14 t93 t94 t95 : AV) : List AV := ux 4 (t4 :: ux 9 (t14 :: ux 78 (t93 :: t94 :: t95 :: ux 12 [])))
def zGR : List Bool := zc1 20
noncomputable def zGL : Code := zar [1, 1, 1, 1, 1, 1, 1, 1, 0, 1, 0, 0] zeg
def zGI (K : Kt) : AExit → List AV → zaa → Prop := zas tP zc1 [1, 1, 1, 1, 1, 1, 1, 1, 0, 1, 0] zeg (zaw tP zn0 K)
def zjh (t4 t14 t93 t94 t95 : AV) (H : zaa) (K : Kt) : Prop := ALoop tP zGL (zGI K) (zjf t4 t14 t93 t94 t95) H
def znY (t4 t14 t93 t94 t95 : AV) (H : zaa) (K : Kt) (Kb20 : Lt) : Prop :=
 zac .lss false t95 t94 fun t96 =>
 zag t96
 (zaj 3 t93 t95 fun t97 =>
 zad true 3 t97 H fun t98 =>
 zau [(.int .i64 0), (.int .i64 0), .snil] H fun t16 H =>
 zak 3 t16 t98 H fun H =>
 zad true 3 t16 H fun t100 =>
 zaf 2 t4 fun t101 =>
 zad false 1 t101 H fun t102 =>
 ACalls tP zfH [t100, t102] H fun t103 H =>
 zaB 3 [(.int .i64 0), (.int .i64 0), .snil] 1 [(0, t103)] fun t104 =>
 zaA za0 3 40 t14 t104 H fun t105 H =>
 zac .add false t95 (.int .i64 1) fun t106 =>
 Kb20 (zjf t4 t105 t93 t94 t106) H)
 (zay [t14, (.bool true)] (K · H))
def znX (t2 t4 t8 t9 t77 t78 t79 : AV) (H : zaa) (K : Kt) (Kb13 : Lt) : Prop :=
 zac .lss false t79 t78 fun t80 =>
 zag t80
 (zaj 3 t77 t79 fun t81 =>
 zad true 3 t81 H fun t82 =>
 zau [(.int .i64 0), (.int .i64 0), .snil] H fun t13 H =>
 zak 3 t13 t82 H fun H =>
 zad true 3 t13 H fun t83 =>
 ACalls tP zg8 [t83, t9] H fun t85 H =>
 zac .gtr false t85 (.int .i64 200) fun t86 =>
 zag t86
 (zay [.snil, (.bool false)] (K · H))
 (zac .add false t79 (.int .i64 1) fun t87 =>
 Kb13 (zje t2 t4 t8 t9 t77 t78 t87) H))
 (zaf 2 t8 fun t88 =>
 zad false 1 t88 H fun t89 =>
 zaj 2 t89 t2 fun t91 =>
 zaf 1 t91 fun t92 =>
 zad false 1 t92 H fun t93 =>
 zah 1 t93 fun t94 =>
 zjh t4 .snil t93 t94 (.int .i64 0) H K)
def znZ (t2 t4 t8 t9 t59 t60 t61 : AV) (H : zaa) (K : Kt) (Kb8 : Lt) : Prop :=
 zac .lss false t61 t60 fun t62 =>
 zag t62
 (zaj 3 t59 t61 fun t64 =>
 zad true 3 t64 H fun t65 =>
 zau [(.int .i64 0), (.int .i64 0), .snil] H fun t11 H =>
 zak 3 t11 t65 H fun H =>
 zad true 3 t11 H fun t68 =>
 ACalls tP zg7 [t68] H fun t69 H =>
 zaj 1 t9 t61 fun t70 =>
 zak 1 t70 t69 H fun H =>
 zac .add false t61 (.int .i64 1) fun t71 =>
 Kb8 (zjg t2 t4 t8 t9 t59 t60 t71) H)
 (zaf 2 t8 fun t72 =>
 zad false 1 t72 H fun t73 =>
 zaj 2 t73 t2 fun t75 =>
 zaf 1 t75 fun t76 =>
 zad false 1 t76 H fun t77 =>
 zah 1 t77 fun t78 =>
 zuQ t2 t4 t8 t9 t77 t78 (.int .i64 0) H K)
def zuP (t0 t1 t2 : AV) (H : zaa) (K : Kt) : Prop :=
 zap t1 H fun t4 H =>
 zaf 0 t4 fun t17 =>
 zad false 1 t17 H fun t18 =>
 zac .neq false t18 (.int .i64 5) fun t19 =>
 zab t19 false H (fun K' => zaf 1 t4 (K' · H)) fun t21 H =>
 zab t19 false H (fun K' => zad false 1 t21 H (K' · H)) fun t22 H =>
 zab t19 false H (fun K' => zac .lss false t22 (.int .i64 0) (K' · H)) fun t23 H =>
 zai t19 (.bool true) t23 fun t24 =>
 zab t24 false H (fun K' => zaf 1 t4 (K' · H)) fun t26 H =>
 zab t24 false H (fun K' => zad false 1 t26 H (K' · H)) fun t27 H =>
 zab t24 false H (fun K' => K' t0 H) fun t28 H =>
 zab t24 false H (fun K' => zah 1 t28 (K' · H)) fun t29 H =>
 zab t24 false H (fun K' => zac .geq false t27 t29 (K' · H)) fun t30 H =>
 zai t24 (.bool true) t30 fun t31 =>
 zag t31
 (zay [.snil, (.bool false)] (K · H))
 (zaf 1 t4 fun t33 =>
 zad false 1 t33 H fun t34 =>
 zaj 3 t0 t34 fun t35 =>
 zad true 3 t35 H fun t36 =>
 zau [(.str []), (.int .i64 0), .snil] H fun t8 H =>
 zak 3 t8 t36 H fun H =>
 zaf 2 t4 fun t37 =>
 zad false 1 t37 H fun t38 =>
 zah 1 t38 fun t39 =>
 zaf 1 t8 fun t40 =>
 zad false 1 t40 H fun t41 =>
 zac .neq false t39 t41 fun t42 =>
 zab t42 false H (fun K' => K' t2 H) fun t44 H =>
 zab t42 false H (fun K' => zac .lss false t44 (.int .i64 0) (K' · H)) fun t45 H =>
 zai t42 (.bool true) t45 fun t46 =>
 zab t46 false H (fun K' => K' t2 H) fun t48 H =>
 zab t46 false H (fun K' => zaf 2 t8 (K' · H)) fun t49 H =>
 zab t46 false H (fun K' => zad false 1 t49 H (K' · H)) fun t50 H =>
 zab t46 false H (fun K' => zah 1 t50 (K' · H)) fun t51 H =>
 zab t46 false H (fun K' => zac .geq false t48 t51 (K' · H)) fun t52 H =>
 zai t46 (.bool true) t52 fun t53 =>
 zag t53
 (zay [.snil, (.bool false)] (K · H))
 (zaf 2 t4 fun t54 =>
 zad false 1 t54 H fun t55 =>
 zah 1 t55 fun t56 =>
 zba 8 [(.int .i64 0)] t56 t56 H fun t57 H =>
 zaf 2 t4 fun t58 =>
 zad false 1 t58 H fun t59 =>
 zah 1 t59 fun t60 =>
 zuR t2 t4 t8 t57 t59 t60 (.int .i64 0) H K))
theorem zGO {t4 t14 t93 t94 t95 : AV} {H : zaa} {K : Kt} (Inv : Nat → AV → AV → zaa → Prop) (n : Nat) (h0 : HSc H → Inv n t14 t95 H)
  (round : Rd2 (fun t14 => fun t95 => zjf t4 t14 t93 t94 t95) (fun t14 => fun t95 => fun H Kb20 => znY t4 t14 t93 t94 t95 H K Kb20) H Inv) : zjh t4 t14 t93 t94 t95 H K :=
 lp2 (M := zc1) zGR t14 t95 (by kernel_rfl) Inv n h0 round
theorem zGN {t2 t4 t8 t9 t77 t78 t79 : AV} {H : zaa} {K : Kt} (Inv : Nat → AV → zaa → Prop) (n : Nat) (h0 : HSc H → Inv n t79 H)
  (round : Rd1 (fun t79 => zje t2 t4 t8 t9 t77 t78 t79) (fun t79 => fun H Kb13 => znX t2 t4 t8 t9 t77 t78 t79 H K Kb13) H Inv) : zuQ t2 t4 t8 t9 t77 t78 t79 H K :=
 lp1 (M := zc1) zGQ t79 (by kernel_rfl) Inv n h0 round
theorem zGP {t2 t4 t8 t9 t59 t60 t61 : AV} {H : zaa} {K : Kt} (Inv : Nat → AV → zaa → Prop) (n : Nat) (h0 : HSc H → Inv n t61 H)
  (round : Rd1 (fun t61 => zjg t2 t4 t8 t9 t59 t60 t61) (fun t61 => fun H Kb8 => znZ t2 t4 t8 t9 t59 t60 t61 H K Kb8) H Inv) : zuR t2 t4 t8 t9 t59 t60 t61 H K :=
 lp1 (M := zc1) zGS t61 (by kernel_rfl) Inv n h0 round
theorem zGT {t0 t1 t2 : AV} {H : zaa} {K : Kt} (h : HSc H → zuP t0 t1 t2 H K) : ACalls tP zgX [t0, t1, t2] H K :=
 zam (M := zc1) Tryz.func45 (c := zeg) (by kernel_rfl) (fun hs => Eq.mpr (by kernel_rfl) (h hs))
def zjV : Nat → List Bool
 | 3 => rl false [3,1,3,3,9]
 | _ => []
noncomputable def zoK : Code := Tryz.f89.body.getD .skip
noncomputable def zJo : List ResultVar := Tryz.f89.results.toList
def zjW (t3 t7 t8 t9 : AV) : List AV := ux 3 (t3 :: ux 3 (t7 :: t8 :: t9 :: ux 9 []))
def zJm : List Bool := zjV 3
noncomputable def zJk : Code := zar [1, 1, 0, 1, 0, 0] zoK
def zJj (K : Kt) : AExit → List AV → zaa → Prop := zas tP zjV [1, 1, 0, 1, 0] zoK (zaw tP zJo K)
def zvF (t3 t7 t8 t9 : AV) (H : zaa) (K : Kt) : Prop := ALoop tP zJk (zJj K) (zjW t3 t7 t8 t9) H
def zoJ (t3 t7 t8 t9 : AV) (H : zaa) (K : Kt) (Kb3 : Lt) : Prop :=
 zac .lss false t9 t8 fun t10 =>
 zag t10
 (zaj 3 t7 t9 fun t11 =>
 zad true 3 t11 H fun t12 =>
 zau [(.int .i64 0), (.int .i64 0), .snil] H fun t5 H =>
 zak 3 t5 t12 H fun H =>
 zad true 3 t5 H fun t14 =>
 ACalls tP zg7 [t14] H fun t15 H =>
 zac .add false t3 t15 fun t16 =>
 zac .add false t9 (.int .i64 1) fun t17 =>
 Kb3 (zjW t16 t7 t8 t17) H)
 (K t3 H)
def zvE (t0 : AV) (H : zaa) (K : Kt) : Prop :=
 zap t0 H fun t1 H =>
 zaf 2 t1 fun t6 =>
 zad false 1 t6 H fun t7 =>
 zah 1 t7 fun t8 =>
 zvF (.int .i64 1) t7 t8 (.int .i64 0) H K
theorem zJl {t3 t7 t8 t9 : AV} {H : zaa} {K : Kt} (Inv : Nat → AV → AV → zaa → Prop) (n : Nat) (h0 : HSc H → Inv n t3 t9 H)
  (round : Rd2 (fun t3 => fun t9 => zjW t3 t7 t8 t9) (fun t3 => fun t9 => fun H Kb3 => zoJ t3 t7 t8 t9 H K Kb3) H Inv) : zvF t3 t7 t8 t9 H K :=
 lp2 (M := zjV) zJm t3 t9 (by kernel_rfl) Inv n h0 round
theorem zJn {t0 : AV} {H : zaa} {K : Kt} (h : HSc H → zvE t0 H K) : ACalls tP zg7 [t0] H K :=
 zam (M := zjV) Tryz.func89 (c := zoK) (by kernel_rfl) (fun hs => Eq.mpr (by kernel_rfl) (h hs))
def zjX : Nat → List Bool
 | 5 => rl false [1,1,3,1,23,3,12]
 | _ => []
noncomputable def zoN : Code := Tryz.f90.body.getD .skip
noncomputable def zJv : List ResultVar := Tryz.f90.results.toList
def zjY (t1 t5 t29 t30 t31 : AV) : List AV := ux 1 (t1 :: ux 3 (t5 :: ux 23 (t29 :: t30 :: t31 :: ux 12 [])))
def zJt : List Bool := zjX 5
noncomputable def zJr : Code := zar [1, 1, 1, 0, 1, 0, 0] zoN
def zJq (K : Kt) : AExit → List AV → zaa → Prop := zas tP zjX [1, 1, 1, 0, 1, 0] zoN (zaw tP zJv K)
def zoP (t1 t5 t29 t30 t31 : AV) (H : zaa) (K : Kt) : Prop := ALoop tP zJr (zJq K) (zjY t1 t5 t29 t30 t31) H
def zoO (t5 : AV) (H : zaa) (K : Kt) : Prop :=
 K t5 H
def zjZ (t5 : AV) (H : zaa) (K : Kt) : Prop :=
 zoO t5 H K
def zoM (t1 t5 t29 t30 t31 : AV) (H : zaa) (K : Kt) (Kb5 : Lt) : Prop :=
 zac .lss false t31 t30 fun t32 =>
 zag t32
 (zaj 3 t29 t31 fun t33 =>
 zad true 3 t33 H fun t34 =>
 zau [(.int .i64 0), (.int .i64 0), .snil] H fun t7 H =>
 zak 3 t7 t34 H fun H =>
 zad true 3 t7 H fun t36 =>
 ACalls tP zg8 [t36, t1] H fun t38 H =>
 zac .add false t5 t38 fun t39 =>
 zac .gtr false t39 (.int .i64 200) fun t41 =>
 zag t41
 (zjZ t39 H K)
 (zac .add false t31 (.int .i64 1) fun t42 =>
 Kb5 (zjY t1 t39 t29 t30 t42) H))
 (zjZ t5 H K)
def zoL (t0 t1 : AV) (H : zaa) (K : Kt) : Prop :=
 zap t0 H fun t2 H =>
 zaf 0 t2 fun t8 =>
 zad false 1 t8 H fun t9 =>
 zac .eql false t9 (.int .i64 4) fun t10 =>
 zab t10 true H (fun K' => zaf 1 t2 (K' · H)) fun t12 H =>
 zab t10 true H (fun K' => zad false 1 t12 H (K' · H)) fun t13 H =>
 zab t10 true H (fun K' => zac .geq false t13 (.int .i64 0) (K' · H)) fun t14 H =>
 zai t10 t14 (.bool false) fun t15 =>
 zab t15 true H (fun K' => zaf 1 t2 (K' · H)) fun t17 H =>
 zab t15 true H (fun K' => zad false 1 t17 H (K' · H)) fun t18 H =>
 zab t15 true H (fun K' => K' t1 H) fun t19 H =>
 zab t15 true H (fun K' => zah 1 t19 (K' · H)) fun t20 H =>
 zab t15 true H (fun K' => zac .lss false t18 t20 (K' · H)) fun t21 H =>
 zai t15 t21 (.bool false) fun t22 =>
 zag t22
 (zaf 1 t2 fun t24 =>
 zad false 1 t24 H fun t25 =>
 zaj 1 t1 t25 fun t26 =>
 zad false 1 t26 H fun t27 =>
 K t27 H)
 (zaf 2 t2 fun t28 =>
 zad false 1 t28 H fun t29 =>
 zah 1 t29 fun t30 =>
 zoP t1 (.int .i64 1) t29 t30 (.int .i64 0) H K)
theorem zJs {t1 t5 t29 t30 t31 : AV} {H : zaa} {K : Kt} (Inv : Nat → AV → AV → zaa → Prop) (n : Nat) (h0 : HSc H → Inv n t5 t31 H)
  (round : Rd2 (fun t5 => fun t31 => zjY t1 t5 t29 t30 t31) (fun t5 => fun t31 => fun H Kb5 => zoM t1 t5 t29 t30 t31 H K Kb5) H Inv) : zoP t1 t5 t29 t30 t31 H K :=
 lp2 (M := zjX) zJt t5 t31 (by kernel_rfl) Inv n h0 round
theorem zJu {t0 t1 : AV} {H : zaa} {K : Kt} (h : HSc H → zoL t0 t1 H K) : ACalls tP zg8 [t0, t1] H K :=
 zam (M := zjX) Tryz.func90 (c := zoN) (by kernel_rfl) (fun hs => Eq.mpr (by kernel_rfl) (h hs))
def zj0 : Nat → List Bool
 | 5 => rl false [1,1,2,2,29,3,13]
 | _ => []
noncomputable def zoS : Code := Tryz.f91.body.getD .skip
noncomputable def zJC : List ResultVar := Tryz.f91.results.toList
def zj1 (t1 t4 t5 t35 t36 t37 : AV) : List AV := ux 1 (t1 :: ux 2 (t4 :: t5 :: ux 29 (t35 :: t36 :: t37 :: ux 13 [])))
def zJA : List Bool := zj0 5
noncomputable def zJy : Code := zar [1, 1, 1, 0, 1, 0, 0] zoS
def zJx (K : Kt) : AExit → List AV → zaa → Prop := zas tP zj0 [1, 1, 1, 0, 1, 0] zoS (zaw tP zJC K)
def zf5 (t1 t4 t5 t35 t36 t37 : AV) (H : zaa) (K : Kt) : Prop := ALoop tP zJy (zJx K) (zj1 t1 t4 t5 t35 t36 t37) H
def zoR (t1 t4 t5 t35 t36 t37 : AV) (H : zaa) (K : Kt) (Kb5 : Lt) : Prop :=
 zac .lss false t37 t36 fun t38 =>
 zag t38
 (zaj 3 t35 t37 fun t39 =>
 zad true 3 t39 H fun t40 =>
 zau [(.int .i64 0), (.int .i64 0), .snil] H fun t7 H =>
 zak 3 t7 t40 H fun H =>
 zae H (fun K' => zaf 2 t5 (K' · H)) fun t41 =>
 zae H (fun K' => zan false 1 t41 H (K' · H)) fun t42 =>
 zae H (fun K' => zan true 3 t7 H (K' · H)) fun t43 =>
 zae H (fun K' => K' t1 H) fun t44 =>
 za6 H (fun H K' => ACalls tP zfH [t43, t44] H K') fun t45 =>
 zae H (fun K' => zaB 3 [(.int .i64 0), (.int .i64 0), .snil] 1 [(0, t45)] (K' · H)) fun t46 =>
 zaA za0 3 40 t42 t46 H fun t47 H =>
 zae H (fun K' => zaf 2 t5 (K' · H)) fun t48 =>
 zak 1 t48 t47 H fun H =>
 zac .add false t37 (.int .i64 1) fun t49 =>
 Kb5 (zj1 t1 t4 t5 t35 t36 t49) H)
 (zad true 3 t5 H fun t50 =>
 zak 3 t4 t50 H fun H =>
 zad true 3 t4 H fun r0 =>
 K r0 H)
def zoQ (t0 t1 : AV) (H : zaa) (K : Kt) : Prop :=
 zap t0 H fun t2 H =>
 zau [(.int .i64 0), (.int .i64 0), .snil] H fun t4 H =>
 zaf 0 t2 fun t8 =>
 zad false 1 t8 H fun t9 =>
 zac .eql false t9 (.int .i64 4) fun t10 =>
 zab t10 true H (fun K' => zaf 1 t2 (K' · H)) fun t12 H =>
 zab t10 true H (fun K' => zad false 1 t12 H (K' · H)) fun t13 H =>
 zab t10 true H (fun K' => zac .geq false t13 (.int .i64 0) (K' · H)) fun t14 H =>
 zai t10 t14 (.bool false) fun t15 =>
 zab t15 true H (fun K' => zaf 1 t2 (K' · H)) fun t17 H =>
 zab t15 true H (fun K' => zad false 1 t17 H (K' · H)) fun t18 H =>
 zab t15 true H (fun K' => K' t1 H) fun t19 H =>
 zab t15 true H (fun K' => zah 1 t19 (K' · H)) fun t20 H =>
 zab t15 true H (fun K' => zac .lss false t18 t20 (K' · H)) fun t21 H =>
 zai t15 t21 (.bool false) fun t22 =>
 zag t22
 (zaf 1 t2 fun t24 =>
 zad false 1 t24 H fun t25 =>
 zaj 3 t1 t25 fun t26 =>
 zad true 3 t26 H fun t27 =>
 ACalls tP zfH [t27, .snil] H fun t28 H =>
 zak 3 t4 t28 H fun H =>
 zad true 3 t4 H fun r0 =>
 K r0 H)
 (zaf 0 t2 fun t29 =>
 zad false 1 t29 H fun t30 =>
 zaf 1 t2 fun t31 =>
 zad false 1 t31 H fun t32 =>
 zav [(.int .i64 0), (.int .i64 0), .snil] [(0, 1), (1, 1), (2, 1)] [(0, t30), (1, t32)] fun t33 =>
 zau [(.int .i64 0), (.int .i64 0), .snil] H fun t5 H =>
 zak 3 t5 t33 H fun H =>
 zaf 2 t2 fun t34 =>
 zad false 1 t34 H fun t35 =>
 zah 1 t35 fun t36 =>
 zf5 t1 t4 t5 t35 t36 (.int .i64 0) H K)
theorem zJz {t1 t4 t5 t35 t36 t37 : AV} {H : zaa} {K : Kt} (Inv : Nat → AV → zaa → Prop) (n : Nat) (h0 : HSc H → Inv n t37 H)
  (round : Rd1 (fun t37 => zj1 t1 t4 t5 t35 t36 t37) (fun t37 => fun H Kb5 => zoR t1 t4 t5 t35 t36 t37 H K Kb5) H Inv) : zf5 t1 t4 t5 t35 t36 t37 H K :=
 lp1 (M := zj0) zJA t37 (by kernel_rfl) Inv n h0 round
theorem zJB {t0 t1 : AV} {H : zaa} {K : Kt} (h : HSc H → zoQ t0 t1 H K) : ACalls tP zfH [t0, t1] H K :=
 zam (M := zj0) Tryz.func91 (c := zoS) (by kernel_rfl) (fun hs => Eq.mpr (by kernel_rfl) (h hs))
def zGm (_ : Nat) : List Bool := []
noncomputable def zGn : Code := Tryz.f40.body.getD .skip
def zuL (t0 t1 t2 : AV) (H : zaa) (K : Kt) : Prop :=
 zap t1 H fun t4 H =>
 zad true 3 t4 H fun t7 =>
 ACalls tP zfB [t7] H fun t8 H =>
 zac .leq false t8 (.int .i64 200) fun t9 =>
 zab t9 true H (fun K' => K' t0 H) fun t11 H =>
 zab t9 true H (fun K' => zad true 3 t4 H (K' · H)) fun t12 H =>
 zab t9 true H (fun K' => K' t2 H) fun t13 H =>
 zab t9 true H (fun K' => ACalls tP zg5 [t11, t12, t13] H K') fun t14 H =>
 zai t9 t14 (.bool false) fun t15 =>
 K t15 H
theorem zGo {t0 t1 t2 : AV} {H : zaa} {K : Kt} (h : HSc H → zuL t0 t1 t2 H K) : ACalls tP zfz [t0, t1, t2] H K :=
 zam (M := zGm) Tryz.func40 (c := zGn) (by kernel_rfl) (fun hs => Eq.mpr (by kernel_rfl) (h hs))
def zjk : Nat → List Bool
 | 3 => rl false [1,1,1,2,16]
 | _ => []
noncomputable def zn6 : Code := Tryz.f55.body.getD .skip
noncomputable def zG6 : List ResultVar := Tryz.f55.results.toList
def zjl (t1 t3 t4 : AV) : List AV := ux 1 (t1 :: ux 1 (t3 :: t4 :: ux 16 []))
def zG4 : List Bool := zjk 3
noncomputable def zG2 : Code := zar [1, 1, 0, 1, 0, 0] zn6
def zG1 (K : Kt) : AExit → List AV → zaa → Prop := zas tP zjk [1, 1, 0, 1, 0] zn6 (zaw tP zG6 K)
def zuU (t1 t3 t4 : AV) (H : zaa) (K : Kt) : Prop := ALoop tP zG2 (zG1 K) (zjl t1 t3 t4) H
def zn5 (t1 t3 t4 : AV) (H : zaa) (K : Kt) (Kb3 : Lt) : Prop :=
 zaf 2 t1 fun t6 =>
 zad false 1 t6 H fun t7 =>
 zah 1 t7 fun t8 =>
 zac .lss false t4 t8 fun t9 =>
 zag t9
 (zaf 2 t1 fun t13 =>
 zad false 1 t13 H fun t14 =>
 zaj 3 t14 t4 fun t16 =>
 zad true 3 t16 H fun t17 =>
 ACalls tP zfB [t17] H fun t18 H =>
 zac .add false t3 t18 fun t19 =>
 zac .add false t4 (.int .i64 1) fun t11 =>
 Kb3 (zjl t1 t19 t11) H)
 (K t3 H)
def zuT (t0 : AV) (H : zaa) (K : Kt) : Prop :=
 zap t0 H fun t1 H =>
 zuU t1 (.int .i64 1) (.int .i64 0) H K
theorem zG3 {t1 t3 t4 : AV} {H : zaa} {K : Kt} (Inv : Nat → AV → AV → zaa → Prop) (n : Nat) (h0 : HSc H → Inv n t3 t4 H)
  (round : Rd2 (fun t3 => fun t4 => zjl t1 t3 t4) (fun t3 => fun t4 => fun H Kb3 => zn5 t1 t3 t4 H K Kb3) H Inv) : zuU t1 t3 t4 H K :=
 lp2 (M := zjk) zG4 t3 t4 (by kernel_rfl) Inv n h0 round
theorem zG5 {t0 : AV} {H : zaa} {K : Kt} (h : HSc H → zuT t0 H K) : ACalls tP zfB [t0] H K :=
 zam (M := zjk) Tryz.func55 (c := zn6) (by kernel_rfl) (fun hs => Eq.mpr (by kernel_rfl) (h hs))
def zjR : Nat → List Bool
 | 24 => rl false [0,1,1,1,1,1,2,2,103]
 | _ => []
noncomputable def zoE : Code := Tryz.f85.body.getD .skip
noncomputable def zI7 : List ResultVar := Tryz.f85.results.toList
def zjS (t0 t2 t4 t7 t8 : AV) : List AV := t0 :: ux 1 (t2 :: ux 1 (t4 :: ux 2 (t7 :: t8 :: ux 103 [])))
def zI5 : List Bool := zjR 24
noncomputable def zI3 : Code := zar [1, 1, 1, 0, 1, 0, 0] zoE
def zI2 (K : Kt) : AExit → List AV → zaa → Prop := zas tP zjR [1, 1, 1, 0, 1, 0] zoE (zaw tP zI7 K)
def zoF (t0 t2 t4 t7 t8 : AV) (H : zaa) (K : Kt) : Prop := ALoop tP zI3 (zI2 K) (zjS t0 t2 t4 t7 t8) H
def zoD (t0 t2 t4 t7 t8 : AV) (H : zaa) (K : Kt) (Kb24 : Lt) : Prop :=
 zac .lss false t8 t7 fun t100 =>
 zag t100
 (zaf 2 t4 fun t104 =>
 zad false 1 t104 H fun t105 =>
 zaj 3 t105 t8 fun t107 =>
 zad true 3 t107 H fun t108 =>
 ACalls tP zg5 [t0, t108, t2] H fun t110 H =>
 aUn .not t110 fun t111 =>
 zag t111
 (K (.bool false) H)
 (zac .add false t8 (.int .i64 1) fun t102 =>
 Kb24 (zjS t0 t2 t4 t7 t102) H))
 (K (.bool true) H)
def zf4 (t0 t2 t4 t7 : AV) (H : zaa) (K : Kt) : Prop :=
 zoF t0 t2 t4 t7 (.int .i64 0) H K
def zdI (t0 t2 t4 t7 : AV) (H : zaa) (K : Kt) : Prop :=
 zf4 t0 t2 t4 t7 H K
def zc2 (t0 t2 t4 t7 t13 t75 : AV) (H : zaa) (K : Kt) : Prop :=
 zag t75
 (zaf 1 t4 fun t78 =>
 zad false 1 t78 H fun t79 =>
 zac .neq false t79 (.int .i64 0) fun t80 =>
 zab t80 false H (fun K' => K' t7 H) fun t82 H =>
 zab t80 false H (fun K' => zac .neq false t82 (.int .i64 1) (K' · H)) fun t83 H =>
 zai t80 (.bool true) t83 fun t84 =>
 zag t84
 (K (.bool false) H)
 (zdI t0 t2 t4 t7 H K))
 (zac .eql false t13 (.int .i64 9) fun t86 =>
 zag t86
 (zaf 1 t4 fun t87 =>
 zad false 1 t87 H fun t88 =>
 zac .neq false t88 (.int .i64 0) fun t89 =>
 zab t89 false H (fun K' => K' t7 H) fun t91 H =>
 zab t89 false H (fun K' => zac .lss false t91 (.int .i64 1) (K' · H)) fun t92 H =>
 zai t89 (.bool true) t92 fun t93 =>
 zab t93 false H (fun K' => K' t7 H) fun t95 H =>
 zab t93 false H (fun K' => zac .gtr false t95 (.int .i64 7) (K' · H)) fun t96 H =>
 zai t93 (.bool true) t96 fun t97 =>
 zag t97
 (K (.bool false) H)
 (zdI t0 t2 t4 t7 H K))
 (K (.bool false) H))
def zbt (t0 t2 t4 t7 t13 t14 : AV) (H : zaa) (K : Kt) : Prop :=
 zag t14
 (zaf 1 t4 fun t18 =>
 zad false 1 t18 H fun t19 =>
 zac .eql false t19 (.int .i64 0) fun t20 =>
 zab t20 true H (fun K' => K' t7 H) fun t22 H =>
 zab t20 true H (fun K' => zac .eql false t22 (.int .i64 0) (K' · H)) fun t23 H =>
 zai t20 t23 (.bool false) fun t24 =>
 K t24 H)
 (zac .eql false t13 (.int .i64 4) fun t26 =>
 zag t26
 (zaf 1 t4 fun t27 =>
 zad false 1 t27 H fun t28 =>
 zac .geq false t28 (.int .i64 0) fun t29 =>
 zab t29 true H (fun K' => zaf 1 t4 (K' · H)) fun t31 H =>
 zab t29 true H (fun K' => zad false 1 t31 H (K' · H)) fun t32 H =>
 zab t29 true H (fun K' => K' t2 H) fun t33 H =>
 zab t29 true H (fun K' => zac .lss false t32 t33 (K' · H)) fun t34 H =>
 zai t29 t34 (.bool false) fun t35 =>
 zab t35 true H (fun K' => K' t7 H) fun t37 H =>
 zab t35 true H (fun K' => zac .eql false t37 (.int .i64 0) (K' · H)) fun t38 H =>
 zai t35 t38 (.bool false) fun t39 =>
 K t39 H)
 (zac .eql false t13 (.int .i64 5) fun t41 =>
 zag t41
 (zaf 1 t4 fun t42 =>
 zad false 1 t42 H fun t43 =>
 zac .lss false t43 (.int .i64 0) fun t44 =>
 zab t44 false H (fun K' => zaf 1 t4 (K' · H)) fun t46 H =>
 zab t44 false H (fun K' => zad false 1 t46 H (K' · H)) fun t47 H =>
 zab t44 false H (fun K' => K' t0 H) fun t48 H =>
 zab t44 false H (fun K' => zah 1 t48 (K' · H)) fun t49 H =>
 zab t44 false H (fun K' => zac .geq false t47 t49 (K' · H)) fun t50 H =>
 zai t44 (.bool true) t50 fun t51 =>
 zab t51 false H (fun K' => K' t7 H) fun t53 H =>
 zab t51 false H (fun K' => K' t0 H) fun t54 H =>
 zab t51 false H (fun K' => zaf 1 t4 (K' · H)) fun t55 H =>
 zab t51 false H (fun K' => zad false 1 t55 H (K' · H)) fun t56 H =>
 zab t51 false H (fun K' => zaj 3 t54 t56 (K' · H)) fun t57 H =>
 zab t51 false H (fun K' => zaf 1 t57 (K' · H)) fun t58 H =>
 zab t51 false H (fun K' => zad false 1 t58 H (K' · H)) fun t59 H =>
 zab t51 false H (fun K' => zac .neq false t53 t59 (K' · H)) fun t60 H =>
 zai t51 (.bool true) t60 fun t61 =>
 zag t61
 (K (.bool false) H)
 (zdI t0 t2 t4 t7 H K))
 (zac .eql false t13 (.int .i64 6) fun t63 =>
 zag t63
 (zaf 1 t4 fun t64 =>
 zad false 1 t64 H fun t65 =>
 zac .neq false t65 (.int .i64 0) fun t66 =>
 zab t66 false H (fun K' => K' t7 H) fun t68 H =>
 zab t66 false H (fun K' => zac .lss false t68 (.int .i64 2) (K' · H)) fun t69 H =>
 zai t66 (.bool true) t69 fun t70 =>
 zab t70 false H (fun K' => K' t7 H) fun t72 H =>
 zab t70 false H (fun K' => zac .gtr false t72 (.int .i64 6) (K' · H)) fun t73 H =>
 zai t70 (.bool true) t73 fun t74 =>
 zag t74
 (K (.bool false) H)
 (zdI t0 t2 t4 t7 H K))
 (zac .eql false t13 (.int .i64 7) fun t76 =>
 zag t76
 (zc2 t0 t2 t4 t7 t13 t76 H K)
 (zac .eql false t13 (.int .i64 8) fun t77 =>
 zc2 t0 t2 t4 t7 t13 t77 H K)))))
def zb9 (t0 t1 t2 : AV) (H : zaa) (K : Kt) : Prop :=
 zap t1 H fun t4 H =>
 zaf 2 t4 fun t9 =>
 zad false 1 t9 H fun t10 =>
 zah 1 t10 fun t11 =>
 zaf 0 t4 fun t12 =>
 zad false 1 t12 H fun t13 =>
 zac .eql false t13 (.int .i64 1) fun t15 =>
 zag t15
 (zbt t0 t2 t4 t11 t13 t15 H K)
 (zac .eql false t13 (.int .i64 2) fun t16 =>
 zag t16
 (zbt t0 t2 t4 t11 t13 t16 H K)
 (zac .eql false t13 (.int .i64 3) fun t17 =>
 zbt t0 t2 t4 t11 t13 t17 H K))
theorem zI4 {t0 t2 t4 t7 t8 : AV} {H : zaa} {K : Kt} (Inv : Nat → AV → zaa → Prop) (n : Nat) (h0 : HSc H → Inv n t8 H)
  (round : Rd1 (fun t8 => zjS t0 t2 t4 t7 t8) (fun t8 => fun H Kb24 => zoD t0 t2 t4 t7 t8 H K Kb24) H Inv) : zoF t0 t2 t4 t7 t8 H K :=
 lp1 (M := zjR) zI5 t8 (by kernel_rfl) Inv n h0 round
theorem zI6 {t0 t1 t2 : AV} {H : zaa} {K : Kt} (h : HSc H → zb9 t0 t1 t2 H K) : ACalls tP zg5 [t0, t1, t2] H K :=
 zam (M := zjR) Tryz.func85 (c := zoE) (by kernel_rfl) (fun hs => Eq.mpr (by kernel_rfl) (h hs))
def ziD : Nat → List Bool
 | 5 => rl false [4,1,3,1,54,3,16]
 | _ => []
noncomputable def zm9 : Code := Tryz.f19.body.getD .skip
noncomputable def zDC : List ResultVar := Tryz.f19.results.toList
def ziE (t4 t8 t63 t64 t65 : AV) : List AV := ux 4 (t4 :: ux 3 (t8 :: ux 54 (t63 :: t64 :: t65 :: ux 16 [])))
def zDA : List Bool := ziD 5
noncomputable def zDy : Code := zar [1, 1, 1, 0, 1, 0, 0] zm9
def zDx (K : Kt) : AExit → List AV → zaa → Prop := zas tP ziD [1, 1, 1, 0, 1, 0] zm9 (zaw tP zDC K)
def ziF (t4 t8 t63 t64 t65 : AV) (H : zaa) (K : Kt) : Prop := ALoop tP zDy (zDx K) (ziE t4 t8 t63 t64 t65) H
def zm8 (t4 t8 t63 t64 t65 : AV) (H : zaa) (K : Kt) (Kb5 : Lt) : Prop :=
 zac .lss false t65 t64 fun t66 =>
 zag t66
 (zaj 3 t63 t65 fun t67 =>
 zad true 3 t67 H fun t68 =>
 zau [(.int .i64 0), (.int .i64 0), .snil] H fun t10 H =>
 zak 3 t10 t68 H fun H =>
 zad true 3 t10 H fun t69 =>
 zaf 2 t4 fun t70 =>
 zad false 1 t70 H fun t71 =>
 ACalls tP zgY [t69, t71] H fun t72 H =>
 zau [(.int .i64 0), (.int .i64 0), .snil] H fun t11 H =>
 zak 3 t11 t72 H fun H =>
 zad true 3 t11 H fun t73 =>
 ACalls tP zfB [t73] H fun t74 H =>
 zac .gtr false t74 (.int .i64 200) fun t75 =>
 zag t75
 (zay [.snil, (.bool false)] (K · H))
 (zad true 3 t11 H fun t77 =>
 zaB 3 [(.int .i64 0), (.int .i64 0), .snil] 1 [(0, t77)] fun t78 =>
 zaA za0 3 40 t8 t78 H fun t79 H =>
 zac .add false t65 (.int .i64 1) fun t80 =>
 Kb5 (ziE t4 t79 t63 t64 t80) H))
 (zay [t8, (.bool true)] (K · H))
def ztz (t0 t1 t2 : AV) (H : zaa) (K : Kt) : Prop :=
 zap t1 H fun t4 H =>
 zae H (fun K' => zaf 0 t4 (K' · H)) fun t12 =>
 zae H (fun K' => zan false 1 t12 H (K' · H)) fun t13 =>
 zae H (fun K' => zac .neq false t13 (.int .i64 5) (K' · H)) fun t14 =>
 zae H (fun K' => K' t14 H) fun t15 =>
 zab t15 false H (fun K' => zae H (fun K'' => zaf 1 t4 (K'' · H)) (K' · H)) fun t16 H =>
 zab t15 false H (fun K' => zae H (fun K'' => zan false 1 t16 H (K'' · H)) (K' · H)) fun t17 H =>
 zab t15 false H (fun K' => zae H (fun K'' => zac .lss false t17 (.int .i64 0) (K'' · H)) (K' · H)) fun t18 H =>
 zae H (fun K' => zai t15 (.bool true) t18 (K' · H)) fun t19 =>
 zae H (fun K' => K' t19 H) fun t20 =>
 zab t20 false H (fun K' => zae H (fun K'' => zaf 1 t4 (K'' · H)) (K' · H)) fun t21 H =>
 zab t20 false H (fun K' => zae H (fun K'' => zan false 1 t21 H (K'' · H)) (K' · H)) fun t22 H =>
 zab t20 false H (fun K' => zae H (fun K'' => K'' t0 H) (K' · H)) fun t23 H =>
 zab t20 false H (fun K' => zae H (fun K'' => zah 1 t23 (K'' · H)) (K' · H)) fun t24 H =>
 zab t20 false H (fun K' => zae H (fun K'' => zac .geq false t22 t24 (K'' · H)) (K' · H)) fun t25 H =>
 zae H (fun K' => zai t20 (.bool true) t25 (K' · H)) fun t26 =>
 zae H (fun K' => K' t26 H) fun t27 =>
 zab t27 false H (fun K' => zae H (fun K'' => zaf 2 t4 (K'' · H)) (K' · H)) fun t28 H =>
 zab t27 false H (fun K' => zae H (fun K'' => zan false 1 t28 H (K'' · H)) (K' · H)) fun t29 H =>
 zab t27 false H (fun K' => zae H (fun K'' => zah 1 t29 (K'' · H)) (K' · H)) fun t30 H =>
 zab t27 false H (fun K' => zae H (fun K'' => K'' t0 H) (K' · H)) fun t31 H =>
 zab t27 false H (fun K' => zae H (fun K'' => zaf 1 t4 (K'' · H)) (K' · H)) fun t32 H =>
 zab t27 false H (fun K' => zae H (fun K'' => zan false 1 t32 H (K'' · H)) (K' · H)) fun t33 H =>
 zab t27 false H (fun K' => zae H (fun K'' => zaj 3 t31 t33 (K'' · H)) (K' · H)) fun t34 H =>
 zab t27 false H (fun K' => zae H (fun K'' => zaf 1 t34 (K'' · H)) (K' · H)) fun t35 H =>
 zab t27 false H (fun K' => zae H (fun K'' => zan false 1 t35 H (K'' · H)) (K' · H)) fun t36 H =>
 zab t27 false H (fun K' => zae H (fun K'' => zac .neq false t30 t36 (K'' · H)) (K' · H)) fun t37 H =>
 zae H (fun K' => zai t27 (.bool true) t37 (K' · H)) fun t38 =>
 zae H (fun K' => K' t38 H) fun t39 =>
 zab t39 false H (fun K' => zae H (fun K'' => K'' t2 H) (K' · H)) fun t40 H =>
 zab t39 false H (fun K' => zae H (fun K'' => zac .lss false t40 (.int .i64 0) (K'' · H)) (K' · H)) fun t41 H =>
 zae H (fun K' => zai t39 (.bool true) t41 (K' · H)) fun t42 =>
 zae H (fun K' => K' t42 H) fun t43 =>
 zab t43 false H (fun K' => zae H (fun K'' => K'' t2 H) (K' · H)) fun t44 H =>
 zab t43 false H (fun K' => zae H (fun K'' => K'' t0 H) (K' · H)) fun t45 H =>
 zab t43 false H (fun K' => zae H (fun K'' => zaf 1 t4 (K'' · H)) (K' · H)) fun t46 H =>
 zab t43 false H (fun K' => zae H (fun K'' => zan false 1 t46 H (K'' · H)) (K' · H)) fun t47 H =>
 zab t43 false H (fun K' => zae H (fun K'' => zaj 3 t45 t47 (K'' · H)) (K' · H)) fun t48 H =>
 zab t43 false H (fun K' => zae H (fun K'' => zaf 2 t48 (K'' · H)) (K' · H)) fun t49 H =>
 zab t43 false H (fun K' => zae H (fun K'' => zan false 1 t49 H (K'' · H)) (K' · H)) fun t50 H =>
 zab t43 false H (fun K' => zae H (fun K'' => zah 1 t50 (K'' · H)) (K' · H)) fun t51 H =>
 zab t43 false H (fun K' => zae H (fun K'' => zac .geq false t44 t51 (K'' · H)) (K' · H)) fun t52 H =>
 zae H (fun K' => zai t43 (.bool true) t52 (K' · H)) fun t53 =>
 zag t53
 (zay [.snil, (.bool false)] (K · H))
 (zaf 1 t4 fun t55 =>
 zad false 1 t55 H fun t56 =>
 zaj 3 t0 t56 fun t57 =>
 zaf 2 t57 fun t58 =>
 zad false 1 t58 H fun t59 =>
 zaj 2 t59 t2 fun t61 =>
 zaf 1 t61 fun t62 =>
 zad false 1 t62 H fun t63 =>
 zah 1 t63 fun t64 =>
 ziF t4 .snil t63 t64 (.int .i64 0) H K)
theorem zDz {t4 t8 t63 t64 t65 : AV} {H : zaa} {K : Kt} (Inv : Nat → AV → AV → zaa → Prop) (n : Nat) (h0 : HSc H → Inv n t8 t65 H)
  (round : Rd2 (fun t8 => fun t65 => ziE t4 t8 t63 t64 t65) (fun t8 => fun t65 => fun H Kb5 => zm8 t4 t8 t63 t64 t65 H K Kb5) H Inv) : ziF t4 t8 t63 t64 t65 H K :=
 lp2 (M := ziD) zDA t8 t65 (by kernel_rfl) Inv n h0 round
theorem zDB {t0 t1 t2 : AV} {H : zaa} {K : Kt} (h : HSc H → ztz t0 t1 t2 H K) : ACalls tP zk3 [t0, t1, t2] H K :=
 zam (M := ziD) Tryz.func19 (c := zm9) (by kernel_rfl) (fun hs => Eq.mpr (by kernel_rfl) (h hs))
def zji : Nat → List Bool
 | 5 => rl false [1,2,1,3,46]
 | _ => []
noncomputable def zn3 : Code := Tryz.f54.body.getD .skip
noncomputable def zGZ : List ResultVar := Tryz.f54.results.toList
def zjj (t1 t2 t4 t5 t6 : AV) : List AV := ux 1 (t1 :: t2 :: ux 1 (t4 :: t5 :: t6 :: ux 46 []))
def zGX : List Bool := zji 5
noncomputable def zGV : Code := zar [1, 1, 1, 0, 1, 0, 0] zn3
def zGU (K : Kt) : AExit → List AV → zaa → Prop := zas tP zji [1, 1, 1, 0, 1, 0] zn3 (zaw tP zGZ K)
def zn4 (t1 t2 t4 t5 t6 : AV) (H : zaa) (K : Kt) : Prop := ALoop tP zGV (zGU K) (zjj t1 t2 t4 t5 t6) H
def zn2 (t1 t2 t4 t5 t6 : AV) (H : zaa) (K : Kt) (Kb5 : Lt) : Prop :=
 zaf 2 t2 fun t34 =>
 zad false 1 t34 H fun t35 =>
 zah 1 t35 fun t36 =>
 zac .lss false t6 t36 fun t37 =>
 zag t37
 (zae H (fun K' => zaf 2 t5 (K' · H)) fun t40 =>
 zae H (fun K' => zan false 1 t40 H (K' · H)) fun t41 =>
 zae H (fun K' => zaf 2 t2 (K' · H)) fun t42 =>
 zae H (fun K' => zan false 1 t42 H (K' · H)) fun t43 =>
 zae H (fun K' => K' t6 H) fun t44 =>
 zae H (fun K' => zaj 3 t43 t44 (K' · H)) fun t45 =>
 zae H (fun K' => zan true 3 t45 H (K' · H)) fun t46 =>
 zae H (fun K' => K' t1 H) fun t47 =>
 za6 H (fun H K' => ACalls tP zgY [t46, t47] H K') fun t48 =>
 zae H (fun K' => zaB 3 [(.int .i64 0), (.int .i64 0), .snil] 1 [(0, t48)] (K' · H)) fun t49 =>
 zaA za0 3 40 t41 t49 H fun t50 H =>
 zae H (fun K' => zaf 2 t5 (K' · H)) fun t51 =>
 zak 1 t51 t50 H fun H =>
 zac .add false t6 (.int .i64 1) fun t39 =>
 Kb5 (zjj t1 t2 t4 t5 t39) H)
 (zad true 3 t5 H fun t52 =>
 zak 3 t4 t52 H fun H =>
 zad true 3 t4 H fun r0 =>
 K r0 H)
def zn1 (t0 t1 : AV) (H : zaa) (K : Kt) : Prop :=
 zap t0 H fun t2 H =>
 zau [(.int .i64 0), (.int .i64 0), .snil] H fun t4 H =>
 zaf 0 t2 fun t7 =>
 zad false 1 t7 H fun t8 =>
 zac .eql false t8 (.int .i64 4) fun t9 =>
 zab t9 true H (fun K' => zaf 1 t2 (K' · H)) fun t11 H =>
 zab t9 true H (fun K' => zad false 1 t11 H (K' · H)) fun t12 H =>
 zab t9 true H (fun K' => zac .geq false t12 (.int .i64 0) (K' · H)) fun t13 H =>
 zai t9 t13 (.bool false) fun t14 =>
 zab t14 true H (fun K' => zaf 1 t2 (K' · H)) fun t16 H =>
 zab t14 true H (fun K' => zad false 1 t16 H (K' · H)) fun t17 H =>
 zab t14 true H (fun K' => K' t1 H) fun t18 H =>
 zab t14 true H (fun K' => zah 1 t18 (K' · H)) fun t19 H =>
 zab t14 true H (fun K' => zac .lss false t17 t19 (K' · H)) fun t20 H =>
 zai t14 t20 (.bool false) fun t21 =>
 zag t21
 (zaf 1 t2 fun t23 =>
 zad false 1 t23 H fun t24 =>
 zaj 3 t1 t24 fun t25 =>
 zad true 3 t25 H fun t26 =>
 ACalls tP zgv [t26] H fun t27 H =>
 zak 3 t4 t27 H fun H =>
 zad true 3 t4 H fun r0 =>
 K r0 H)
 (zaf 0 t2 fun t28 =>
 zad false 1 t28 H fun t29 =>
 zaf 1 t2 fun t30 =>
 zad false 1 t30 H fun t31 =>
 zav [(.int .i64 0), (.int .i64 0), .snil] [(0, 1), (1, 1), (2, 1)] [(0, t29), (1, t31)] fun t32 =>
 zau [(.int .i64 0), (.int .i64 0), .snil] H fun t5 H =>
 zak 3 t5 t32 H fun H =>
 zn4 t1 t2 t4 t5 (.int .i64 0) H K)
theorem zGW {t1 t2 t4 t5 t6 : AV} {H : zaa} {K : Kt} (Inv : Nat → AV → zaa → Prop) (n : Nat) (h0 : HSc H → Inv n t6 H)
  (round : Rd1 (fun t6 => zjj t1 t2 t4 t5 t6) (fun t6 => fun H Kb5 => zn2 t1 t2 t4 t5 t6 H K Kb5) H Inv) : zn4 t1 t2 t4 t5 t6 H K :=
 lp1 (M := zji) zGX t6 (by kernel_rfl) Inv n h0 round
theorem zGY {t0 t1 : AV} {H : zaa} {K : Kt} (h : HSc H → zn1 t0 t1 H K) : ACalls tP zgY [t0, t1] H K :=
 zam (M := zji) Tryz.func54 (c := zn3) (by kernel_rfl) (fun hs => Eq.mpr (by kernel_rfl) (h hs))
def zht : Nat → List Bool
 | 3 => rl false [1,4,24]
 | _ => []
noncomputable def zlZ : Code := Tryz.f102.body.getD .skip
noncomputable def zzk : List ResultVar := Tryz.f102.results.toList
def zhu (t1 t2 t3 t4 : AV) : List AV := ux 1 (t1 :: t2 :: t3 :: t4 :: ux 24 [])
def zzi : List Bool := zht 3
noncomputable def zzg : Code := zar [1, 1, 0, 1, 0, 0] zlZ
def zzf (K : Kt) : AExit → List AV → zaa → Prop := zas tP zht [1, 1, 0, 1, 0] zlZ (zaw tP zzk K)
def zr8 (t1 t2 t3 t4 : AV) (H : zaa) (K : Kt) : Prop := ALoop tP zzg (zzf K) (zhu t1 t2 t3 t4) H
def zlY (t1 t2 t3 t4 : AV) (H : zaa) (K : Kt) (Kb3 : Lt) : Prop :=
 zaf 2 t1 fun t11 =>
 zad false 1 t11 H fun t12 =>
 zah 1 t12 fun t13 =>
 zac .lss false t4 t13 fun t14 =>
 zag t14
 (zae H (fun K' => zaf 2 t3 (K' · H)) fun t17 =>
 zae H (fun K' => zan false 1 t17 H (K' · H)) fun t18 =>
 zae H (fun K' => zaf 2 t1 (K' · H)) fun t19 =>
 zae H (fun K' => zan false 1 t19 H (K' · H)) fun t20 =>
 zae H (fun K' => K' t4 H) fun t21 =>
 zae H (fun K' => zaj 3 t20 t21 (K' · H)) fun t22 =>
 zae H (fun K' => zan true 3 t22 H (K' · H)) fun t23 =>
 za6 H (fun H K' => ACalls tP zgv [t23] H K') fun t24 =>
 zae H (fun K' => zaB 3 [(.int .i64 0), (.int .i64 0), .snil] 1 [(0, t24)] (K' · H)) fun t25 =>
 zaA za0 3 40 t18 t25 H fun t26 H =>
 zae H (fun K' => zaf 2 t3 (K' · H)) fun t27 =>
 zak 1 t27 t26 H fun H =>
 zac .add false t4 (.int .i64 1) fun t16 =>
 Kb3 (zhu t1 t2 t3 t16) H)
 (zad true 3 t3 H fun t28 =>
 zak 3 t2 t28 H fun H =>
 zad true 3 t2 H fun r0 =>
 K r0 H)
def zr7 (t0 : AV) (H : zaa) (K : Kt) : Prop :=
 zap t0 H fun t1 H =>
 zau [(.int .i64 0), (.int .i64 0), .snil] H fun t2 H =>
 zaf 0 t1 fun t5 =>
 zad false 1 t5 H fun t6 =>
 zaf 1 t1 fun t7 =>
 zad false 1 t7 H fun t8 =>
 zav [(.int .i64 0), (.int .i64 0), .snil] [(0, 1), (1, 1), (2, 1)] [(0, t6), (1, t8)] fun t9 =>
 zau [(.int .i64 0), (.int .i64 0), .snil] H fun t3 H =>
 zak 3 t3 t9 H fun H =>
 zr8 t1 t2 t3 (.int .i64 0) H K
theorem zzh {t1 t2 t3 t4 : AV} {H : zaa} {K : Kt} (Inv : Nat → AV → zaa → Prop) (n : Nat) (h0 : HSc H → Inv n t4 H)
  (round : Rd1 (fun t4 => zhu t1 t2 t3 t4) (fun t4 => fun H Kb3 => zlY t1 t2 t3 t4 H K Kb3) H Inv) : zr8 t1 t2 t3 t4 H K :=
 lp1 (M := zht) zzi t4 (by kernel_rfl) Inv n h0 round
theorem zzj {t0 : AV} {H : zaa} {K : Kt} (h : HSc H → zr7 t0 H K) : ACalls tP zgv [t0] H K :=
 zam (M := zht) Tryz.func102 (c := zlZ) (by kernel_rfl) (fun hs => Eq.mpr (by kernel_rfl) (h hs))
def zeh : Nat → List Bool
 | 6 => rl false [0,2,6,1,38,3,56]
 | 10 => rl false [0,2,6,2,37,3,28,3,25]
 | _ => []
noncomputable def zok : Code := Tryz.f78.body.getD .skip
noncomputable def zIj : List ResultVar := Tryz.f78.results.toList
def zjF (t0 t1 t8 t47 t48 t49 : AV) : List AV := t0 :: t1 :: ux 6 (t8 :: ux 38 (t47 :: t48 :: t49 :: ux 56 []))
def zvh : List Bool := zeh 6
noncomputable def zol : Code := zar [1, 1, 1, 1, 0, 1, 0, 0] zok
def zvf (K : Kt) : AExit → List AV → zaa → Prop := zas tP zeh [1, 1, 1, 1, 0, 1, 0] zok (zaw tP zIj K)
def zvg (t0 t1 t8 t47 t48 t49 : AV) (H : zaa) (K : Kt) : Prop := ALoop tP zol (zvf K) (zjF t0 t1 t8 t47 t48 t49) H
def zjE (t0 t1 t8 t9 t47 t48 t49 t78 t79 t80 : AV) : List AV := t0 :: t1 :: ux 6 (t8 :: t9 :: ux 37 (t47 :: t48 :: t49 :: ux 28 (t78 :: t79 :: t80 :: ux 25 [])))
def zIh : List Bool := zeh 10
noncomputable def zIe : Code := zar [1, 1, 0, 0, 1, 1, 1, 0, 0] zol
def zId (K : Kt) (Kb6 : Lt) : AExit → List AV → zaa → Prop := zas tP zeh [1, 1, 0, 0, 1, 1, 1, 0] zol (zbQ zvh Kb6 (zvf K))
def zon (t0 t1 t8 t9 t47 t48 t49 t78 t79 t80 : AV) (H : zaa) (K : Kt) (Kb6 : Lt) : Prop := ALoop tP zIe (zId K Kb6) (zjE t0 t1 t8 t9 t47 t48 t49 t78 t79 t80) H
def zom (t0 t1 t8 t9 t47 t48 t49 t78 t79 t80 : AV) (H : zaa) (K : Kt) (Kb6 : Lt) (Kb10 : Lt) : Prop :=
 zac .add false t80 (.int .i64 1) fun t103 =>
 Kb10 (zjE t0 t1 t8 t9 t47 t48 t49 t78 t79 t103) H
def zeZ (t0 t1 t8 t9 t47 t48 t49 t78 t79 t80 : AV) (H : zaa) (K : Kt) (Kb6 : Lt) (Kb10 : Lt) : Prop :=
 zom t0 t1 t8 t9 t47 t48 t49 t78 t79 t80 H K Kb6 Kb10
def zeY (t0 t1 t8 t9 t47 t48 t49 t78 t79 t80 : AV) (H : zaa) (K : Kt) (Kb6 : Lt) (Kb10 : Lt) : Prop :=
 zac .lss false t80 t79 fun t81 =>
 zag t81
 (zaj 3 t78 t80 fun t83 =>
 zad true 3 t83 H fun t84 =>
 zau [(.int .i64 0), (.int .i64 0), .snil] H fun t12 H =>
 zak 3 t12 t84 H fun H =>
 zaf 0 t12 fun t85 =>
 zad false 1 t85 H fun t86 =>
 zac .neq false t86 (.int .i64 4) fun t87 =>
 zab t87 false H (fun K' => zaf 1 t12 (K' · H)) fun t89 H =>
 zab t87 false H (fun K' => zad false 1 t89 H (K' · H)) fun t90 H =>
 zab t87 false H (fun K' => K' t80 H) fun t91 H =>
 zab t87 false H (fun K' => zac .neq false t90 t91 (K' · H)) fun t92 H =>
 zai t87 (.bool true) t92 fun t93 =>
 zab t93 false H (fun K' => zaf 2 t12 (K' · H)) fun t95 H =>
 zab t93 false H (fun K' => zad false 1 t95 H (K' · H)) fun t96 H =>
 zab t93 false H (fun K' => zah 1 t96 (K' · H)) fun t97 H =>
 zab t93 false H (fun K' => zac .gtr false t97 (.int .i64 0) (K' · H)) fun t98 H =>
 zai t93 (.bool true) t98 fun t99 =>
 zag t99
 (zaj 1 t8 t9 fun t102 =>
 zak 1 t102 (.bool false) H fun H =>
 zeZ t0 t1 t8 t9 t47 t48 t49 t78 t79 t80 H K Kb6 Kb10)
 (zeZ t0 t1 t8 t9 t47 t48 t49 t78 t79 t80 H K Kb6 Kb10))
 (zac .add false t49 (.int .i64 1) fun t104 =>
 Kb6 (zjF t0 t1 t8 t47 t48 t104) H)
def zf2 (t0 t1 t8 t47 t48 t49 : AV) (H : zaa) (K : Kt) (Kb6 : Lt) : Prop :=
 zac .lss false t49 t48 fun t50 =>
 zag t50
 (zaj 3 t47 t49 fun t52 =>
 zad true 3 t52 H fun t53 =>
 zau [(.int .i64 0), (.int .i64 0), .snil] H fun t10 H =>
 zak 3 t10 t53 H fun H =>
 zae H (fun K' => K' t8 H) fun t54 =>
 zae H (fun K' => K' t49 H) fun t55 =>
 zae H (fun K' => zaf 0 t10 (K' · H)) fun t56 =>
 zae H (fun K' => zan false 1 t56 H (K' · H)) fun t57 =>
 zae H (fun K' => zac .eql false t57 (.int .i64 5) (K' · H)) fun t58 =>
 zae H (fun K' => K' t58 H) fun t59 =>
 zab t59 true H (fun K' => zae H (fun K'' => zaf 1 t10 (K'' · H)) (K' · H)) fun t60 H =>
 zab t59 true H (fun K' => zae H (fun K'' => zan false 1 t60 H (K'' · H)) (K' · H)) fun t61 H =>
 zab t59 true H (fun K' => zae H (fun K'' => K'' t1 H) (K' · H)) fun t62 H =>
 zab t59 true H (fun K' => zae H (fun K'' => zac .eql false t61 t62 (K'' · H)) (K' · H)) fun t63 H =>
 zae H (fun K' => zai t59 t63 (.bool false) (K' · H)) fun t64 =>
 zae H (fun K' => K' t64 H) fun t65 =>
 zab t65 true H (fun K' => zae H (fun K'' => zaf 2 t10 (K'' · H)) (K' · H)) fun t66 H =>
 zab t65 true H (fun K' => zae H (fun K'' => zan false 1 t66 H (K'' · H)) (K' · H)) fun t67 H =>
 zab t65 true H (fun K' => zae H (fun K'' => zah 1 t67 (K'' · H)) (K' · H)) fun t68 H =>
 zab t65 true H (fun K' => zae H (fun K'' => K'' t0 H) (K' · H)) fun t69 H =>
 zab t65 true H (fun K' => zae H (fun K'' => K'' t1 H) (K' · H)) fun t70 H =>
 zab t65 true H (fun K' => zae H (fun K'' => zaj 3 t69 t70 (K'' · H)) (K' · H)) fun t71 H =>
 zab t65 true H (fun K' => zae H (fun K'' => zaf 1 t71 (K'' · H)) (K' · H)) fun t72 H =>
 zab t65 true H (fun K' => zae H (fun K'' => zan false 1 t72 H (K'' · H)) (K' · H)) fun t73 H =>
 zab t65 true H (fun K' => zae H (fun K'' => zac .eql false t68 t73 (K'' · H)) (K' · H)) fun t74 H =>
 zae H (fun K' => zai t65 t74 (.bool false) (K' · H)) fun t75 =>
 zae H (fun K' => zaj 1 t54 t55 (K' · H)) fun t76 =>
 zak 1 t76 t75 H fun H =>
 zaf 2 t10 fun t77 =>
 zad false 1 t77 H fun t78 =>
 zah 1 t78 fun t79 =>
 zon t0 t1 t8 t49 t47 t48 t49 t78 t79 (.int .i64 0) H K Kb6)
 (K t8 H)
def zve (t0 t1 t2 : AV) (H : zaa) (K : Kt) : Prop :=
 zac .lss false t1 (.int .i64 0) fun t14 =>
 zab t14 false H (fun K' => K' t1 H) fun t16 H =>
 zab t14 false H (fun K' => K' t0 H) fun t17 H =>
 zab t14 false H (fun K' => zah 1 t17 (K' · H)) fun t18 H =>
 zab t14 false H (fun K' => zac .geq false t16 t18 (K' · H)) fun t19 H =>
 zai t14 (.bool true) t19 fun t20 =>
 zab t20 false H (fun K' => K' t2 H) fun t22 H =>
 zab t20 false H (fun K' => zac .lss false t22 (.int .i64 0) (K' · H)) fun t23 H =>
 zai t20 (.bool true) t23 fun t24 =>
 zab t24 false H (fun K' => K' t2 H) fun t26 H =>
 zab t24 false H (fun K' => K' t0 H) fun t27 H =>
 zab t24 false H (fun K' => K' t1 H) fun t28 H =>
 zab t24 false H (fun K' => zaj 3 t27 t28 (K' · H)) fun t29 H =>
 zab t24 false H (fun K' => zaf 2 t29 (K' · H)) fun t30 H =>
 zab t24 false H (fun K' => zad false 1 t30 H (K' · H)) fun t31 H =>
 zab t24 false H (fun K' => zah 1 t31 (K' · H)) fun t32 H =>
 zab t24 false H (fun K' => zac .geq false t26 t32 (K' · H)) fun t33 H =>
 zai t24 (.bool true) t33 fun t34 =>
 zag t34
 (K .snil H)
 (zaj 3 t0 t1 fun t37 =>
 zaf 2 t37 fun t38 =>
 zad false 1 t38 H fun t39 =>
 zaj 2 t39 t2 fun t41 =>
 zaf 1 t41 fun t42 =>
 zad false 1 t42 H fun t43 =>
 zah 1 t43 fun t45 =>
 zba 1 [(.bool false)] t45 t45 H fun t46 H =>
 zah 1 t43 fun t48 =>
 zvg t0 t1 t46 t43 t48 (.int .i64 0) H K)
theorem zIf {t0 t1 t8 t9 t47 t48 t49 t78 t79 t80 : AV} {H : zaa} {K : Kt} {Kb6 : Lt} (Inv : Nat → AV → zaa → Prop) (n : Nat) (h0 : HSc H → Inv n t80 H)
  (round : Rd1 (fun t80 => zjE t0 t1 t8 t9 t47 t48 t49 t78 t79 t80) (fun t80 => fun H Kb10 => zeY t0 t1 t8 t9 t47 t48 t49 t78 t79 t80 H K Kb6 Kb10) H Inv) : zon t0 t1 t8 t9 t47 t48 t49 t78 t79 t80 H K Kb6 :=
 lp1 (M := zeh) zIh t80 (by kernel_rfl) Inv n h0 round
theorem zIg {t0 t1 t8 t47 t48 t49 : AV} {H : zaa} {K : Kt} (Inv : Nat → AV → zaa → Prop) (n : Nat) (h0 : HSc H → Inv n t49 H)
  (round : Rd1 (fun t49 => zjF t0 t1 t8 t47 t48 t49) (fun t49 => fun H Kb6 => zf2 t0 t1 t8 t47 t48 t49 H K Kb6) H Inv) : zvg t0 t1 t8 t47 t48 t49 H K :=
 lp1 (M := zeh) zvh t49 (by kernel_rfl) Inv n h0 round
theorem zIi {t0 t1 t2 : AV} {H : zaa} {K : Kt} (h : HSc H → zve t0 t1 t2 H K) : ACalls tP zeC [t0, t1, t2] H K :=
 zam (M := zeh) Tryz.func78 (c := zok) (by kernel_rfl) (fun hs => Eq.mpr (by kernel_rfl) (h hs))
def zEE (_ : Nat) : List Bool := []
noncomputable def zEF : Code := Tryz.f207.body.getD .skip
def zt6 (t0 t1 : AV) (H : zaa) (K : Kt) : Prop :=
 zap t0 H fun t2 H =>
 zap t1 H fun t3 H =>
 zaf 0 t2 fun t5 =>
 zad false 1 t5 H fun t6 =>
 zac .eql false t6 (.int .i64 5) fun t7 =>
 zab t7 true H (fun K' => zaf 1 t2 (K' · H)) fun t9 H =>
 zab t7 true H (fun K' => zad false 1 t9 H (K' · H)) fun t10 H =>
 zab t7 true H (fun K' => zad false 1 t3 H (K' · H)) fun t11 H =>
 zab t7 true H (fun K' => zac .eql false t10 t11 (K' · H)) fun t12 H =>
 zai t7 t12 (.bool false) fun t13 =>
 zab t13 false H (fun K' => zaf 2 t2 (K' · H)) fun t15 H =>
 zab t13 false H (fun K' => zad false 1 t15 H (K' · H)) fun t16 H =>
 zab t13 false H (fun K' => zbM zgP [t3] (K' · H)) fun t17 H =>
 zab t13 false H (fun K' => ACalls tP zdY [t16, t17] H K') fun t18 H =>
 zai t13 (.bool true) t18 fun t19 =>
 K t19 H
theorem zEG {t0 t1 : AV} {H : zaa} {K : Kt} (h : HSc H → zt6 t0 t1 H K) : ACalls tP zgO [t0, t1] H K :=
 zam (M := zEE) Tryz.func207 (c := zEF) (by kernel_rfl) (fun hs => Eq.mpr (by kernel_rfl) (h hs))
def zEU (_ : Nat) : List Bool := []
noncomputable def zEV : Code := Tryz.f221.body.getD .skip
def zuc (t0 t1 : AV) (H : zaa) (K : Kt) : Prop :=
 zap t0 H fun t2 H =>
 zad true 3 t2 H fun t4 =>
 zad false 1 t1 H fun t5 =>
 ACalls tP zgO [t4, t5] H fun t6 H =>
 K t6 H
theorem zEW {t0 t1 : AV} {H : zaa} {K : Kt} (h : HSc H → zuc t0 t1 H K) : ACalls tP zgP [t0, t1] H K :=
 zam (M := zEU) Tryz.func221 (c := zEV) (by kernel_rfl) (fun hs => Eq.mpr (by kernel_rfl) (h hs))
def zjN : Nat → List Bool
 | 4 => rl false [3,1,3,1,50]
 | _ => []
noncomputable def zoy : Code := Tryz.f83.body.getD .skip
noncomputable def zIT : List ResultVar := Tryz.f83.results.toList
def zjO (t3 t7 : AV) : List AV := ux 3 (t3 :: ux 3 (t7 :: ux 50 []))
def zIR : List Bool := zjN 4
noncomputable def zIP : Code := zar [1, 1, 0, 1, 0, 0] zoy
def zIO (K : Kt) : AExit → List AV → zaa → Prop := zas tP zjN [1, 1, 0, 1, 0] zoy (zaw tP zIT K)
def zvv (t3 t7 : AV) (H : zaa) (K : Kt) : Prop := ALoop tP zIP (zIO K) (zjO t3 t7) H
def ze1 (t3 t7 : AV) (H : zaa) (K : Kt) (Kb4 : Lt) : Prop :=
 zaf 2 t3 fun t25 =>
 zad false 1 t25 H fun t26 =>
 zah 1 t26 fun t27 =>
 zac .lss false t7 t27 fun t28 =>
 zag t28
 (zaf 2 t3 fun t31 =>
 zad false 1 t31 H fun t32 =>
 zaj 3 t32 t7 fun t34 =>
 zaf 0 t34 fun t35 =>
 zad false 1 t35 H fun t36 =>
 zac .neq false t36 (.int .i64 4) fun t37 =>
 zab t37 false H (fun K' => zaf 2 t3 (K' · H)) fun t39 H =>
 zab t37 false H (fun K' => zad false 1 t39 H (K' · H)) fun t40 H =>
 zab t37 false H (fun K' => K' t7 H) fun t41 H =>
 zab t37 false H (fun K' => zaj 3 t40 t41 (K' · H)) fun t42 H =>
 zab t37 false H (fun K' => zaf 1 t42 (K' · H)) fun t43 H =>
 zab t37 false H (fun K' => zad false 1 t43 H (K' · H)) fun t44 H =>
 zab t37 false H (fun K' => K' t7 H) fun t45 H =>
 zab t37 false H (fun K' => zac .neq false t44 t45 (K' · H)) fun t46 H =>
 zai t37 (.bool true) t46 fun t47 =>
 zab t47 false H (fun K' => zaf 2 t3 (K' · H)) fun t49 H =>
 zab t47 false H (fun K' => zad false 1 t49 H (K' · H)) fun t50 H =>
 zab t47 false H (fun K' => K' t7 H) fun t51 H =>
 zab t47 false H (fun K' => zaj 3 t50 t51 (K' · H)) fun t52 H =>
 zab t47 false H (fun K' => zaf 2 t52 (K' · H)) fun t53 H =>
 zab t47 false H (fun K' => zad false 1 t53 H (K' · H)) fun t54 H =>
 zab t47 false H (fun K' => zah 1 t54 (K' · H)) fun t55 H =>
 zab t47 false H (fun K' => zac .gtr false t55 (.int .i64 0) (K' · H)) fun t56 H =>
 zai t47 (.bool true) t56 fun t57 =>
 zag t57
 (K (.bool false) H)
 (zac .add false t7 (.int .i64 1) fun t30 =>
 Kb4 (zjO t3 t30) H))
 (K (.bool true) H)
def zvu (t0 t1 t2 : AV) (H : zaa) (K : Kt) : Prop :=
 zap t0 H fun t3 H =>
 zaf 0 t3 fun t8 =>
 zad false 1 t8 H fun t9 =>
 zac .neq false t9 (.int .i64 5) fun t10 =>
 zab t10 false H (fun K' => zaf 1 t3 (K' · H)) fun t12 H =>
 zab t10 false H (fun K' => zad false 1 t12 H (K' · H)) fun t13 H =>
 zab t10 false H (fun K' => K' t1 H) fun t14 H =>
 zab t10 false H (fun K' => zac .neq false t13 t14 (K' · H)) fun t15 H =>
 zai t10 (.bool true) t15 fun t16 =>
 zab t16 false H (fun K' => zaf 2 t3 (K' · H)) fun t18 H =>
 zab t16 false H (fun K' => zad false 1 t18 H (K' · H)) fun t19 H =>
 zab t16 false H (fun K' => zah 1 t19 (K' · H)) fun t20 H =>
 zab t16 false H (fun K' => K' t2 H) fun t21 H =>
 zab t16 false H (fun K' => zac .neq false t20 t21 (K' · H)) fun t22 H =>
 zai t16 (.bool true) t22 fun t23 =>
 zag t23
 (K (.bool false) H)
 (zvv t3 (.int .i64 0) H K)
theorem zIQ {t3 t7 : AV} {H : zaa} {K : Kt} (Inv : Nat → AV → zaa → Prop) (n : Nat) (h0 : HSc H → Inv n t7 H)
  (round : Rd1 (fun t7 => zjO t3 t7) (fun t7 => fun H Kb4 => ze1 t3 t7 H K Kb4) H Inv) : zvv t3 t7 H K :=
 lp1 (M := zjN) zIR t7 (by kernel_rfl) Inv n h0 round
theorem zIS {t0 t1 t2 : AV} {H : zaa} {K : Kt} (h : HSc H → zvu t0 t1 t2 H K) : ACalls tP zg4 [t0, t1, t2] H K :=
 zam (M := zjN) Tryz.func83 (c := zoy) (by kernel_rfl) (fun hs => Eq.mpr (by kernel_rfl) (h hs))
end Go.Proofs.YtjkkonpjecoieaaGreat

namespace Go.Proofs.YtjkkonpjecoieaaGreat
open Go Go.Abs
set_option maxRecDepth 8000
theorem zu9 : ∀ (m : Nat) (v : VT), v.nodes ≤ m → ∀ (left : Int), left ≤ 1000000 → -1 ≤ left → ∀ (H : zaa) (id : Nat), H[id]? = some (.cells [.int .i64 left]) → ∀ (K : AV → zaa → Prop),
  ((v.nodes : Int) ≤ left → K (.bool true) (H.set id (.cells [.int .i64 (left - v.nodes)]))) → (¬ (v.nodes : Int) ≤ left → ∀ l', K (.bool false) (H.set id (.cells [.int .i64 l']))) →
  ACalls tP zfD [.agg v.cs, .ptr id 0] H K := by
 intro m
 induction m with
 | zero => intro v h; have := v.nodes_pos; omega
 | succ m ih =>
  intro v hv left hl1 hl0 H id hid K hK hF
  obtain ⟨k, n, ks⟩ := v
  have hlt := zbH hid
  have hnn : (VT.mk k n ks).nodes = VT.nodesL ks + 1 := by simp [VT.nodes]
  refine ACalls.out (zHP fun hs => ?_)
  have hget : (H ++ [AB.cells [.int .i64 k, .int .i64 n, .sl (VT.css ks) .none]])[id]? = some (.cells [.int .i64 left]) := zbd hid
  have bad : (¬ ((VT.mk k n ks).nodes : Int) ≤ left) → ∀ l' H', H' = H.set id (.cells [.int .i64 l']) ++ [.cells [.int .i64 k, .int .i64 n, .sl (VT.css ks) .none]] → Out H.length K (.bool false) H' := by
   intro h l' H' he
   exact Out.bool he (by simp) (hs.set rfl) (hF h l')
  simp [zu7, VT.cs, hget, AV.known]
  rw [zaq (by omega) (by omega), zb8 _ hid, zbd (zbK _ hid)]
  by_cases h0 : left - 1 < 0
  ·simp [h0]
   exact bad (by omega) _ _ rfl
  ·simp [h0]
   refine zHN (Inv := fun q t5 H' => ∃ i : Nat, i ≤ ks.length ∧ q = ks.length - i ∧ t5 = .int .i64 i ∧ ((VT.nodesL (ks.take i) : Int) + 1 ≤ left) ∧ H' = H.set id (.cells [.int .i64 (left - 1 - VT.nodesL (ks.take i))]) ++ [.cells [.int .i64 k, .int .i64 n, .sl (VT.css ks) .none]]) ks.length ?_ ?_
   ·intro _; exact ⟨0, by omega, by omega, rfl, by simp [VT.nodesL]; omega, by simp [VT.nodesL]⟩
   ·rintro q t5 H' ⟨i, hi, rfl, rfl, hb, rfl⟩ hsc hlen hsF Kb hKb
    by_cases hil : i < ks.length
    ·have hki := VT.kid_lt (k := k) (n := n) hil
     have h1 := VT.nodesL_take hil
     have h2 := VT.nodesL_take_le ks (i + 1)
     have hll := VT.len_le (ks.take i)
     simp only [List.length_take] at hll
     have hge : (H.set id (.cells [.int .i64 (left - 1 - VT.nodesL (ks.take i))]) ++ [AB.cells [.int .i64 k, .int .i64 n, .sl (VT.css ks) .none]])[id]? = some (.cells [.int .i64 (left - 1 - VT.nodesL (ks.take i))]) := zbd (zbK _ hid)
     simp [zof, hil]
     refine ih ks[i] (by omega) (left - 1 - VT.nodesL (ks.take i)) (by omega) (by omega) _ id hge _ ?_ ?_
     ·intro hle
      rw [zb8 _ (zbK _ hid), List.set_set]
      simp
      rw [zaq (by omega) (by omega)]
      refine hKb _ _ ⟨ks.length - (i + 1), by omega, Back.here (by simp) ((hs.set rfl).snoc rfl) ?_ ⟨_, rfl, i + 1, by omega, rfl, by simp, by omega, ?_⟩⟩
      ·simp [zjz, AV.sc, AV.scV, AV.scA, AV.scB]; omega
      ·rw [h1]; congr 5; omega
     ·intro hle l'
      rw [zb8 _ (zbK _ hid), List.set_set]
      simp
      exact bad (by omega) _ _ rfl
    ·obtain rfl : i = ks.length := by omega
     rw [List.take_length] at hb ⊢
     simp [zof]
     refine Out.bool rfl (by simp) (hs.set rfl) ?_
     have := hK (by omega)
     rw [hnn] at this
     rw [show left - 1 - (VT.nodesL ks : Int) = left - ((VT.nodesL ks + 1 : Nat) : Int) by omega]
     exact this
theorem zFH (v : VT) (H : zaa) (K : AV → zaa → Prop) (hK : ∀ b, (b = true → v.nodes ≤ 250) → K (.bool b) H) : ACalls tP zlj [.agg v.cs] H K := by
 refine ACalls.out (zFG fun hs => ?_)
 simp [zut, AV.known]
 refine zu9 _ v (Nat.le_refl _) 250 (by omega) (by omega) _ (H.length + 1) (by simp) _ ?_ ?_
 ·intro h
  exact Out.bool (J := [_, _]) (by simp; exact ⟨rfl, rfl⟩) (Nat.le_refl _) hs (hK true fun _ => by omega)
 ·intro h l'
  exact Out.bool (J := [_, _]) (by simp; exact ⟨rfl, rfl⟩) (Nat.le_refl _) hs (hK false fun h => by cases h)
end Go.Proofs.YtjkkonpjecoieaaGreat
namespace Go.Proofs.YtjkkonpjecoieaaGreat
open Go Go.Abs
set_option maxRecDepth 8000
theorem zuV : ∀ (m : Nat) (v : VT), v.nodes ≤ m → v.nodes ≤ 1000000000 → ∀ (H : zaa) (K : AV → zaa → Prop), K (.int .i64 v.nodes) H → ACalls tP zfB [.agg v.cs] H K := by
 intro m
 induction m with
 | zero => intro v h; have := v.nodes_pos; omega
 | succ m ih =>
  intro v hv hb H K hK
  obtain ⟨k, n, ks⟩ := v
  have hnl : VT.nodesL ks + 1 ≤ 1000000000 := by simpa [VT.nodes] using hb
  have hll := VT.len_le ks
  refine ACalls.out (zG5 fun hs => ?_)
  simp [VT.cs, zuT]
  refine zG3 (Inv := fun q t3 t4 H' => ∃ i : Nat, i ≤ ks.length ∧ q = ks.length - i ∧ t4 = .int .i64 i ∧ t3 = .int .i64 (1 + VT.nodesL (ks.take i) : Nat) ∧ H' = H ++ [.cells [.int .i64 k, .int .i64 n, .sl (VT.css ks) .none]]) ks.length ?_ ?_
  ·intro _; exact ⟨0, by omega, by omega, rfl, by simp [VT.nodesL], rfl⟩
  ·rintro q t3 t4 H' ⟨i, hi, rfl, rfl, rfl, rfl⟩ hsc hlen hsF Kb hKb
   by_cases hlt : i < ks.length
   ·have hki := VT.kid_lt (k := k) (n := n) hlt
    have h1 := VT.nodesL_take hlt
    have h2 := VT.nodesL_take_le ks (i + 1)
    simp [zn5, hlt]
    refine ih ks[i] (by omega) (by omega) _ _ ?_
    simp
    rw [zaq (by omega) (by omega), zaq (by omega) (by omega)]
    refine hKb _ _ ⟨ks.length - (i + 1), by omega, Back.here (by simp) hsc ?_ ⟨_, _, rfl, i + 1, by omega, rfl, by simp, ?_, rfl⟩⟩
    ·simp [zjl, AV.sc, AV.scV, AV.scA, AV.scB]
    ·rw [h1]; congr 1; omega
   ·obtain rfl : i = ks.length := by omega
    simp [zn5]
    refine Out.int rfl (Nat.le_refl _) hs ?_
    simpa [VT.nodes, Int.add_comm] using hK
end Go.Proofs.YtjkkonpjecoieaaGreat
