/- The shallow forms of functions of the program, printed by a program (absgen.py) off the translation, each tied to the model by the kernel. -/
import Derived.Test.YtfpmdpldabopjaaGreatDoorKNum
import Derived.Test.YtfpmdpldabopjaaGreatDoorProg
import Derived.KernelRfl
namespace Go.Proofs.YtfpmdpldabopjaaGreatDoor
open Go Go.Abs
set_option linter.unusedVariables false
set_option maxRecDepth 100000
def zq21_M (_ : Nat) : List Bool := []
noncomputable def zq21_c : Code := Tryz.f23.body.getD .skip
noncomputable def zq21_r : List ResultVar := Tryz.f23.results.toList
def zq21 (t0 t1 : AV) (H : Heap) (K : Kt) : Prop :=
 aBox t1 H fun t3 H =>
 ACalls Tryz.prog n_zq13 [t0] H fun t6 H =>
 aGuardJ t6 true H (fun K' => aLoad true 3 t3 H (K' · H)) fun t8 H =>
 aGuardJ t6 true H (fun K' => ACalls Tryz.prog n_zq15 [t8] H K') fun t9 H =>
 aPick t6 t9 (.bool false) fun t10 =>
 K t10 H
theorem zq21_eq (t0 t1 : AV) (H : Heap) (K : Kt) : awp Tryz.prog zq21_M zq21_c (retQ Tryz.prog zq21_r K) (t0 :: t1 :: List.replicate 9 .unk) H = zq21 t0 t1 H K := by kernel_rfl
theorem zq21_ok {t0 t1 : AV} {H : Heap} {K : Kt} (h : HSc H → zq21 t0 t1 H K) : ACalls Tryz.prog n_zq21 [t0, t1] H K :=
 acalls_body (M := zq21_M) Tryz.func23 (c := zq21_c) (by kernel_rfl) (fun hs => (zq21_eq t0 t1 H K).mpr (h hs))
def zq23_M (_ : Nat) : List Bool := []
noncomputable def zq23_c : Code := Tryz.f25.body.getD .skip
noncomputable def zq23_r : List ResultVar := Tryz.f25.results.toList
def zq23 (t0 t1 t2 : AV) (H : Heap) (K : Kt) : Prop :=
 aBox t1 H fun t4 H =>
 aBox t2 H fun t5 H =>
 aLoad true 3 t4 H fun t8 =>
 aLoad true 2 t5 H fun t9 =>
 ACalls Tryz.prog n_zq25 [t0, t8, t9] H fun t10 H =>
 aBin .geq false t10 (.int .i64 0) fun t11 =>
 K t11 H
theorem zq23_eq (t0 t1 t2 : AV) (H : Heap) (K : Kt) : awp Tryz.prog zq23_M zq23_c (retQ Tryz.prog zq23_r K) (t0 :: t1 :: t2 :: List.replicate 9 .unk) H = zq23 t0 t1 t2 H K := by kernel_rfl
theorem zq23_ok {t0 t1 t2 : AV} {H : Heap} {K : Kt} (h : HSc H → zq23 t0 t1 t2 H K) : ACalls Tryz.prog n_zq23 [t0, t1, t2] H K :=
 acalls_body (M := zq23_M) Tryz.func25 (c := zq23_c) (by kernel_rfl) (fun hs => (zq23_eq t0 t1 t2 H K).mpr (h hs))
def zq24_M (_ : Nat) : List Bool := []
noncomputable def zq24_c : Code := Tryz.f26.body.getD .skip
noncomputable def zq24_r : List ResultVar := Tryz.f26.results.toList
def zq24 (t0 t1 t2 : AV) (H : Heap) (K : Kt) : Prop :=
 aBox t1 H fun t4 H =>
 aBox t2 H fun t5 H =>
 aLoad true 3 t4 H fun t8 =>
 aLoad true 2 t5 H fun t9 =>
 ACalls Tryz.prog n_zq26 [t0, t8, t9] H fun t10 H =>
 aBin .geq false t10 (.int .i64 0) fun t11 =>
 K t11 H
theorem zq24_eq (t0 t1 t2 : AV) (H : Heap) (K : Kt) : awp Tryz.prog zq24_M zq24_c (retQ Tryz.prog zq24_r K) (t0 :: t1 :: t2 :: List.replicate 9 .unk) H = zq24 t0 t1 t2 H K := by kernel_rfl
theorem zq24_ok {t0 t1 t2 : AV} {H : Heap} {K : Kt} (h : HSc H → zq24 t0 t1 t2 H K) : ACalls Tryz.prog n_zq24 [t0, t1, t2] H K :=
 acalls_body (M := zq24_M) Tryz.func26 (c := zq24_c) (by kernel_rfl) (fun hs => (zq24_eq t0 t1 t2 H K).mpr (h hs))
def zq25_M (_ : Nat) : List Bool := []
noncomputable def zq25_c : Code := Tryz.f27.body.getD .skip
noncomputable def zq25_r : List ResultVar := Tryz.f27.results.toList
def zq25 (t0 t1 t2 : AV) (H : Heap) (K : Kt) : Prop :=
 aBox t1 H fun t4 H =>
 aBox t2 H fun t5 H =>
 aLoad true 3 t4 H fun t10 =>
 ACalls Tryz.prog n_zq59 [t0, t10] H fun t11 H =>
 aUn .not t11 fun t12 =>
 aTest t12
 (K (.int .i64 (-1)) H)
 (aLoad true 3 t4 H fun t15 =>
 aLoad true 2 t5 H fun t16 =>
 ACalls Tryz.prog n_zq60 [t0, t15, t16] H fun t17 H =>
 aExt t17 0 fun t18 =>
 aExt t17 1 fun t19 =>
 aUn .not t19 fun t21 =>
 aTest t21
 (K (.int .i64 (-1)) H)
 (K t18 H))
theorem zq25_eq (t0 t1 t2 : AV) (H : Heap) (K : Kt) : awp Tryz.prog zq25_M zq25_c (retQ Tryz.prog zq25_r K) (t0 :: t1 :: t2 :: List.replicate 20 .unk) H = zq25 t0 t1 t2 H K := by kernel_rfl
theorem zq25_ok {t0 t1 t2 : AV} {H : Heap} {K : Kt} (h : HSc H → zq25 t0 t1 t2 H K) : ACalls Tryz.prog n_zq25 [t0, t1, t2] H K :=
 acalls_body (M := zq25_M) Tryz.func27 (c := zq25_c) (by kernel_rfl) (fun hs => (zq25_eq t0 t1 t2 H K).mpr (h hs))
def zq26_M (_ : Nat) : List Bool := []
noncomputable def zq26_c : Code := Tryz.f28.body.getD .skip
noncomputable def zq26_r : List ResultVar := Tryz.f28.results.toList
def zq26 (t0 t1 t2 : AV) (H : Heap) (K : Kt) : Prop :=
 aBox t1 H fun t4 H =>
 aBox t2 H fun t5 H =>
 aLoad true 3 t4 H fun t8 =>
 ACalls Tryz.prog n_zq61 [t0, t8] H fun t9 H =>
 aUn .not t9 fun t10 =>
 aTest t10
 (K (.int .i64 (-1)) H)
 (aLoad true 3 t4 H fun t12 =>
 aLoad true 2 t5 H fun t13 =>
 ACalls Tryz.prog n_zq62 [t0, t12, t13] H fun t14 H =>
 K t14 H)
theorem zq26_eq (t0 t1 t2 : AV) (H : Heap) (K : Kt) : awp Tryz.prog zq26_M zq26_c (retQ Tryz.prog zq26_r K) (t0 :: t1 :: t2 :: List.replicate 12 .unk) H = zq26 t0 t1 t2 H K := by kernel_rfl
theorem zq26_ok {t0 t1 t2 : AV} {H : Heap} {K : Kt} (h : HSc H → zq26 t0 t1 t2 H K) : ACalls Tryz.prog n_zq26 [t0, t1, t2] H K :=
 acalls_body (M := zq26_M) Tryz.func28 (c := zq26_c) (by kernel_rfl) (fun hs => (zq26_eq t0 t1 t2 H K).mpr (h hs))
def zq59_M (_ : Nat) : List Bool := []
noncomputable def zq59_c : Code := Tryz.f61.body.getD .skip
noncomputable def zq59_r : List ResultVar := Tryz.f61.results.toList
def zq59 (t0 t1 : AV) (H : Heap) (K : Kt) : Prop :=
 aBox t1 H fun t3 H =>
 aBuild [.snil, .snil, .snil, .snil] [(0, 1), (1, 1), (2, 1), (3, 1)] [(0, t0)] fun t6 =>
 ACalls Tryz.prog n_zq84 [t6] H fun t7 H =>
 aGuardJ t7 true H (fun K' => K' t0 H) fun t9 H =>
 aGuardJ t7 true H (fun K' => aLoad true 3 t3 H (K' · H)) fun t10 H =>
 aGuardJ t7 true H (fun K' => ACalls Tryz.prog n_zq85 [t9, t10, (.int .i64 0)] H K') fun t11 H =>
 aPick t7 t11 (.bool false) fun t12 =>
 K t12 H
theorem zq59_eq (t0 t1 : AV) (H : Heap) (K : Kt) : awp Tryz.prog zq59_M zq59_c (retQ Tryz.prog zq59_r K) (t0 :: t1 :: List.replicate 11 .unk) H = zq59 t0 t1 H K := by kernel_rfl
theorem zq59_ok {t0 t1 : AV} {H : Heap} {K : Kt} (h : HSc H → zq59 t0 t1 H K) : ACalls Tryz.prog n_zq59 [t0, t1] H K :=
 acalls_body (M := zq59_M) Tryz.func61 (c := zq59_c) (by kernel_rfl) (fun hs => (zq59_eq t0 t1 H K).mpr (h hs))
def zq60_M : Nat → List Bool
 | 13 => rl false [0,1,3,1,3,1,44,3,42]
 | _ => []
noncomputable def zq60_c : Code := Tryz.f62.body.getD .skip
noncomputable def zq60_r : List ResultVar := Tryz.f62.results.toList
def zq60_fr13 (t0 t4 t8 t53 t54 t55 : AV) : List AV := t0 :: ux 3 (t4 :: ux 3 (t8 :: ux 44 (t53 :: t54 :: t55 :: ux 42 [])))
def zq60_m13 : List Bool := zq60_M 13
noncomputable def zq60_c13 : Code := codeAt [1, 0, 1, 0, 1, 1, 1, 1, 1, 0, 1, 1, 0, 1, 0, 0] zq60_c
def zq60_Q13 (K : Kt) : AExit → List AV → Heap → Prop := contAt Tryz.prog zq60_M [1, 0, 1, 0, 1, 1, 1, 1, 1, 0, 1, 1, 0, 1, 0] zq60_c (retQ Tryz.prog zq60_r K)
def zq60_l13 (t0 t4 t8 t53 t54 t55 : AV) (H : Heap) (K : Kt) : Prop := ALoop Tryz.prog zq60_c13 (zq60_Q13 K) (zq60_fr13 t0 t4 t8 t53 t54 t55) H
def zq60_b13 (t0 t4 t8 t53 t54 t55 : AV) (H : Heap) (K : Kt) (Kb13 : Lt) : Prop :=
 aBin .lss false t55 t54 fun t56 =>
 aTest t56
 (aIdxA 2 t53 t55 fun t57 =>
 aLoad true 2 t57 H fun t58 =>
 aNew [(.int .i64 0), .snil] H fun t10 H =>
 aStore 2 t10 t58 H fun H =>
 aLoad true 3 t4 H fun t61 =>
 aFld 0 t10 fun t62 =>
 aLoad false 1 t62 H fun t63 =>
 ACalls Tryz.prog n_zq107 [t0, t61, t63] H fun t64 H =>
 aExt t64 0 fun t65 =>
 aExt t64 1 fun t66 =>
 aUn .not t66 fun t68 =>
 aTest t68
 (aRet [(.int .i64 0), (.bool false)] (K · H))
 (aFld 1 t10 fun t72 =>
 aLoad false 1 t72 H fun t73 =>
 ACalls Tryz.prog n_zq106 [t0, t65, t73] H fun t74 H =>
 aExt t74 0 fun t75 =>
 aExt t74 1 fun t76 =>
 aBin .add false (.int .i64 1) t75 fun t79 =>
 aBin .add false t8 t79 fun t80 =>
 aUn .not t76 fun t82 =>
 aGuardJ t82 false H (fun K' => K' t80 H) fun t84 H =>
 aGuardJ t82 false H (fun K' => aBin .gtr false t84 (.int .i64 6) (K' · H)) fun t85 H =>
 aPick t82 (.bool true) t85 fun t86 =>
 aTest t86
 (aRet [(.int .i64 0), (.bool false)] (K · H))
 (aBin .add false t55 (.int .i64 1) fun t87 =>
 Kb13 (zq60_fr13 t0 t4 t80 t53 t54 t87) H)))
 (aRet [t8, (.bool true)] (K · H))
def zq60 (t0 t1 t2 : AV) (H : Heap) (K : Kt) : Prop :=
 aBox t1 H fun t4 H =>
 aBox t2 H fun t5 H =>
 aFld 0 t4 fun t14 =>
 aLoad false 1 t14 H fun t15 =>
 aBin .eql false t15 (.int .i64 6) fun t17 =>
 aTest t17
 (aFld 0 t5 fun t18 =>
 aLoad false 1 t18 H fun t19 =>
 aBin .neq false t19 (.int .i64 0) fun t20 =>
 aTest t20
 (aRet [(.int .i64 0), (.bool false)] (K · H))
 (aFld 2 t4 fun t22 =>
 aLoad false 1 t22 H fun t23 =>
 aFld 1 t5 fun t24 =>
 aLoad false 1 t24 H fun t25 =>
 ACalls Tryz.prog n_zq106 [t0, t23, t25] H fun t26 H =>
 aExt t26 0 fun t27 =>
 aExt t26 1 fun t28 =>
 aRet [t27, t28] (K · H)))
 (aBin .eql false t15 (.int .i64 7) fun t30 =>
 aTest t30
 (aPure H (fun K' => aFld 0 t5 (K' · H)) fun t31 =>
 aPure H (fun K' => aLoadC false 1 t31 H (K' · H)) fun t32 =>
 aPure H (fun K' => aFld 0 t5 (K' · H)) fun t33 =>
 aPure H (fun K' => aLoadC false 1 t33 H (K' · H)) fun t34 =>
 aPure H (fun K' => aBin .geq false t34 (.int .i64 0) (K' · H)) fun t35 =>
 aPure H (fun K' => K' t35 H) fun t36 =>
 aGuardJ t36 true H (fun K' => aPure H (fun K'' => aFld 0 t5 (K'' · H)) (K' · H)) fun t37 H =>
 aGuardJ t36 true H (fun K' => aPure H (fun K'' => aLoadC false 1 t37 H (K'' · H)) (K' · H)) fun t38 H =>
 aGuardJ t36 true H (fun K' => aPure H (fun K'' => aBin .leq false t38 (.int .i64 6) (K'' · H)) (K' · H)) fun t39 H =>
 aPure H (fun K' => aPick t36 t39 (.bool false) (K' · H)) fun t40 =>
 aPure H (fun K' => K' t40 H) fun t41 =>
 aGuardJ t41 true H (fun K' => aPure H (fun K'' => aFld 1 t5 (K'' · H)) (K' · H)) fun t42 H =>
 aGuardJ t41 true H (fun K' => aPure H (fun K'' => aLoadC false 1 t42 H (K'' · H)) (K' · H)) fun t43 H =>
 aGuardJ t41 true H (fun K' => aPure H (fun K'' => aLen 1 t43 (K'' · H)) (K' · H)) fun t44 H =>
 aGuardJ t41 true H (fun K' => aPure H (fun K'' => aBin .eql false t44 (.int .i64 0) (K'' · H)) (K' · H)) fun t45 H =>
 aPure H (fun K' => aPick t41 t45 (.bool false) (K' · H)) fun t46 =>
 aPure H (fun K' => K' t32 H) fun t6 =>
 aPure H (fun K' => K' t46 H) fun t7 =>
 aRet [t6, t7] (K · H))
 (aBin .eql false t15 (.int .i64 5) fun t48 =>
 aTest t48
 (aFld 0 t5 fun t49 =>
 aLoad false 1 t49 H fun t50 =>
 aBin .neq false t50 (.int .i64 0) fun t51 =>
 aTest t51
 (aRet [(.int .i64 0), (.bool false)] (K · H))
 (aFld 1 t5 fun t52 =>
 aLoad false 1 t52 H fun t53 =>
 aLen 1 t53 fun t54 =>
 zq60_l13 t0 t4 (.int .i64 0) t53 t54 (.int .i64 0) H K))
 (aPure H (fun K' => aFld 0 t5 (K' · H)) fun t89 =>
 aPure H (fun K' => aLoadC false 1 t89 H (K' · H)) fun t90 =>
 aPure H (fun K' => aBin .eql false t90 (.int .i64 0) (K' · H)) fun t91 =>
 aPure H (fun K' => K' t91 H) fun t92 =>
 aGuardJ t92 true H (fun K' => aPure H (fun K'' => aFld 1 t5 (K'' · H)) (K' · H)) fun t93 H =>
 aGuardJ t92 true H (fun K' => aPure H (fun K'' => aLoadC false 1 t93 H (K'' · H)) (K' · H)) fun t94 H =>
 aGuardJ t92 true H (fun K' => aPure H (fun K'' => aLen 1 t94 (K'' · H)) (K' · H)) fun t95 H =>
 aGuardJ t92 true H (fun K' => aPure H (fun K'' => aBin .eql false t95 (.int .i64 0) (K'' · H)) (K' · H)) fun t96 H =>
 aPure H (fun K' => aPick t92 t96 (.bool false) (K' · H)) fun t97 =>
 aPure H (fun K' => K' (.int .i64 0) H) fun t6 =>
 aPure H (fun K' => K' t97 H) fun t7 =>
 aRet [t6, t7] (K · H))))
theorem zq60_b13_eq (t0 t4 t8 t53 t54 t55 : AV) (H : Heap) (K : Kt) (Kb13 : Lt) : awp Tryz.prog zq60_M zq60_c13 (roundQ zq60_m13 Kb13 (zq60_Q13 K)) (zq60_fr13 t0 t4 t8 t53 t54 t55) H = zq60_b13 t0 t4 t8 t53 t54 t55 H K Kb13 := by kernel_rfl
theorem zq60_loop13 {t0 t4 t8 t53 t54 t55 : AV} {H : Heap} {K : Kt} (Inv : Nat → AV → AV → Heap → Prop) (n : Nat) (h0 : HSc H → Inv n t8 t55 H)
   (round : ∀ n t8 t55 H', Inv n t8 t55 H' → HSc H' → H.length ≤ H'.length → (zq60_fr13 t0 t4 t8 t53 t54 t55).all (AV.sc H'.length) = true → ∀ Kb13 : Lt, (∀ F'' H'', (∃ n', n' < n ∧ Back H.length (fun F2 H2 => ∃ t8 t55, F2 = zq60_fr13 t0 t4 t8 t53 t54 t55 ∧ Inv n' t8 t55 H2) F'' H'') → Kb13 F'' H'') → zq60_b13 t0 t4 t8 t53 t54 t55 H' K Kb13) : zq60_l13 t0 t4 t8 t53 t54 t55 H K :=
 aloop (M := zq60_M) zq60_m13 (fun n F H => ∃ t8 t55, F = zq60_fr13 t0 t4 t8 t53 t54 t55 ∧ Inv n t8 t55 H) n (fun hs _ => ⟨t8, t55, rfl, h0 hs⟩) (fun n F H' ⟨t8, t55, hF, hI⟩ h1 h2 h3 => by subst hF; rw [zq60_b13_eq]; exact round n t8 t55 H' hI h1 h2 h3 _ (fun _ _ h => h))
theorem zq60_eq (t0 t1 t2 : AV) (H : Heap) (K : Kt) : awp Tryz.prog zq60_M zq60_c (retQ Tryz.prog zq60_r K) (t0 :: t1 :: t2 :: List.replicate 95 .unk) H = zq60 t0 t1 t2 H K := by kernel_rfl
theorem zq60_ok {t0 t1 t2 : AV} {H : Heap} {K : Kt} (h : HSc H → zq60 t0 t1 t2 H K) : ACalls Tryz.prog n_zq60 [t0, t1, t2] H K :=
 acalls_body (M := zq60_M) Tryz.func62 (c := zq60_c) (by kernel_rfl) (fun hs => (zq60_eq t0 t1 t2 H K).mpr (h hs))
def zq61_M (_ : Nat) : List Bool := []
noncomputable def zq61_c : Code := Tryz.f63.body.getD .skip
noncomputable def zq61_r : List ResultVar := Tryz.f63.results.toList
def zq61 (t0 t1 : AV) (H : Heap) (K : Kt) : Prop :=
 aBox t1 H fun t3 H =>
 ACalls Tryz.prog n_zq51 [t0] H fun t6 H =>
 aGuardJ t6 true H (fun K' => K' t0 H) fun t8 H =>
 aGuardJ t6 true H (fun K' => aLoad true 3 t3 H (K' · H)) fun t9 H =>
 aGuardJ t6 true H (fun K' => ACalls Tryz.prog n_zq52 [t8, t9, (.int .i64 0)] H K') fun t10 H =>
 aPick t6 t10 (.bool false) fun t11 =>
 K t11 H
theorem zq61_eq (t0 t1 : AV) (H : Heap) (K : Kt) : awp Tryz.prog zq61_M zq61_c (retQ Tryz.prog zq61_r K) (t0 :: t1 :: List.replicate 10 .unk) H = zq61 t0 t1 H K := by kernel_rfl
theorem zq61_ok {t0 t1 : AV} {H : Heap} {K : Kt} (h : HSc H → zq61 t0 t1 H K) : ACalls Tryz.prog n_zq61 [t0, t1] H K :=
 acalls_body (M := zq61_M) Tryz.func63 (c := zq61_c) (by kernel_rfl) (fun hs => (zq61_eq t0 t1 H K).mpr (h hs))
end Go.Proofs.YtfpmdpldabopjaaGreatDoor
namespace Go.Proofs.YtfpmdpldabopjaaGreatDoor
open Go Go.Abs
set_option linter.unusedVariables false
set_option maxRecDepth 100000
def zq62_M : Nat → List Bool
 | 15 => rl false [0,1,3,1,2,1,48,3,50]
 | _ => []
noncomputable def zq62_c : Code := Tryz.f64.body.getD .skip
noncomputable def zq62_r : List ResultVar := Tryz.f64.results.toList
def zq62_fr15 (t0 t4 t7 t56 t57 t58 : AV) : List AV := t0 :: ux 3 (t4 :: ux 2 (t7 :: ux 48 (t56 :: t57 :: t58 :: ux 50 [])))
def zq62_m15 : List Bool := zq62_M 15
noncomputable def zq62_c15 : Code := codeAt [1, 0, 1, 0, 1, 1, 1, 1, 1, 0, 1, 1, 0, 1, 0, 0] zq62_c
def zq62_Q15 (K : Kt) : AExit → List AV → Heap → Prop := contAt Tryz.prog zq62_M [1, 0, 1, 0, 1, 1, 1, 1, 1, 0, 1, 1, 0, 1, 0] zq62_c (retQ Tryz.prog zq62_r K)
def zq62_l15 (t0 t4 t7 t56 t57 t58 : AV) (H : Heap) (K : Kt) : Prop := ALoop Tryz.prog zq62_c15 (zq62_Q15 K) (zq62_fr15 t0 t4 t7 t56 t57 t58) H
def zq62_b15 (t0 t4 t7 t56 t57 t58 : AV) (H : Heap) (K : Kt) (Kb15 : Lt) : Prop :=
 aBin .lss false t58 t57 fun t59 =>
 aTest t59
 (aIdxA 2 t56 t58 fun t60 =>
 aLoad true 2 t60 H fun t61 =>
 aNew [(.int .i64 0), .snil] H fun t9 H =>
 aStore 2 t9 t61 H fun H =>
 aFld 0 t9 fun t62 =>
 aLoad false 1 t62 H fun t63 =>
 aBin .lss false t63 (.int .i64 0) fun t64 =>
 aGuardJ t64 false H (fun K' => aFld 0 t9 (K' · H)) fun t66 H =>
 aGuardJ t64 false H (fun K' => aLoad false 1 t66 H (K' · H)) fun t67 H =>
 aGuardJ t64 false H (fun K' => aBin .geq false t67 (.int .i64 8) (K' · H)) fun t68 H =>
 aPick t64 (.bool true) t68 fun t69 =>
 aTest t69
 (K (.int .i64 (-1)) H)
 (aLoad true 3 t4 H fun t72 =>
 aFld 0 t9 fun t73 =>
 aLoad false 1 t73 H fun t74 =>
 ACalls Tryz.prog n_zq83 [t0, t72, t74] H fun t75 H =>
 aExt t75 0 fun t76 =>
 aExt t75 1 fun t77 =>
 aUn .not t77 fun t79 =>
 aTest t79
 (K (.int .i64 (-1)) H)
 (aFld 1 t9 fun t82 =>
 aLoad false 1 t82 H fun t83 =>
 ACalls Tryz.prog n_zq108 [t0, t76, t83] H fun t84 H =>
 aBin .lss false t84 (.int .i64 0) fun t86 =>
 aGuardJ t86 false H (fun K' => K' t7 H) fun t88 H =>
 aGuardJ t86 false H (fun K' => aBin .add false t88 (.int .i64 1) (K' · H)) fun t89 H =>
 aGuardJ t86 false H (fun K' => K' t84 H) fun t90 H =>
 aGuardJ t86 false H (fun K' => aBin .add false t89 t90 (K' · H)) fun t91 H =>
 aGuardJ t86 false H (fun K' => aBin .gtr false t91 (.int .i64 6) (K' · H)) fun t92 H =>
 aPick t86 (.bool true) t92 fun t93 =>
 aTest t93
 (K (.int .i64 (-1)) H)
 (aBin .add false (.int .i64 1) t84 fun t96 =>
 aBin .add false t7 t96 fun t97 =>
 aBin .add false t58 (.int .i64 1) fun t98 =>
 Kb15 (zq62_fr15 t0 t4 t97 t56 t57 t98) H))))
 (K t7 H)
def zq62 (t0 t1 t2 : AV) (H : Heap) (K : Kt) : Prop :=
 aBox t1 H fun t4 H =>
 aBox t2 H fun t5 H =>
 aFld 0 t4 fun t13 =>
 aLoad false 1 t13 H fun t14 =>
 aBin .eql false t14 (.int .i64 6) fun t16 =>
 aTest t16
 (aFld 0 t5 fun t17 =>
 aLoad false 1 t17 H fun t18 =>
 aBin .neq false t18 (.int .i64 0) fun t19 =>
 aTest t19
 (K (.int .i64 (-1)) H)
 (aFld 2 t4 fun t21 =>
 aLoad false 1 t21 H fun t22 =>
 aFld 1 t5 fun t23 =>
 aLoad false 1 t23 H fun t24 =>
 ACalls Tryz.prog n_zq108 [t0, t22, t24] H fun t25 H =>
 K t25 H))
 (aBin .eql false t14 (.int .i64 7) fun t27 =>
 aTest t27
 (aFld 0 t5 fun t28 =>
 aLoad false 1 t28 H fun t29 =>
 aBin .lss false t29 (.int .i64 0) fun t30 =>
 aGuardJ t30 false H (fun K' => aFld 0 t5 (K' · H)) fun t32 H =>
 aGuardJ t30 false H (fun K' => aLoad false 1 t32 H (K' · H)) fun t33 H =>
 aGuardJ t30 false H (fun K' => aBin .gtr false t33 (.int .i64 6) (K' · H)) fun t34 H =>
 aPick t30 (.bool true) t34 fun t35 =>
 aGuardJ t35 false H (fun K' => aFld 1 t5 (K' · H)) fun t37 H =>
 aGuardJ t35 false H (fun K' => aLoad false 1 t37 H (K' · H)) fun t38 H =>
 aGuardJ t35 false H (fun K' => aLen 1 t38 (K' · H)) fun t39 H =>
 aGuardJ t35 false H (fun K' => aBin .gtr false t39 (.int .i64 0) (K' · H)) fun t40 H =>
 aPick t35 (.bool true) t40 fun t41 =>
 aTest t41
 (K (.int .i64 (-1)) H)
 (aFld 0 t5 fun t42 =>
 aLoad false 1 t42 H fun t43 =>
 K t43 H))
 (aBin .eql false t14 (.int .i64 5) fun t45 =>
 aTest t45
 (aFld 0 t5 fun t46 =>
 aLoad false 1 t46 H fun t47 =>
 aBin .neq false t47 (.int .i64 0) fun t48 =>
 aGuardJ t48 false H (fun K' => aFld 1 t5 (K' · H)) fun t50 H =>
 aGuardJ t48 false H (fun K' => aLoad false 1 t50 H (K' · H)) fun t51 H =>
 aGuardJ t48 false H (fun K' => aLen 1 t51 (K' · H)) fun t52 H =>
 aGuardJ t48 false H (fun K' => aBin .gtr false t52 (.int .i64 6) (K' · H)) fun t53 H =>
 aPick t48 (.bool true) t53 fun t54 =>
 aTest t54
 (K (.int .i64 (-1)) H)
 (aFld 1 t5 fun t55 =>
 aLoad false 1 t55 H fun t56 =>
 aLen 1 t56 fun t57 =>
 zq62_l15 t0 t4 (.int .i64 0) t56 t57 (.int .i64 0) H K))
 (aFld 0 t5 fun t100 =>
 aLoad false 1 t100 H fun t101 =>
 aBin .neq false t101 (.int .i64 0) fun t102 =>
 aGuardJ t102 false H (fun K' => aFld 1 t5 (K' · H)) fun t104 H =>
 aGuardJ t102 false H (fun K' => aLoad false 1 t104 H (K' · H)) fun t105 H =>
 aGuardJ t102 false H (fun K' => aLen 1 t105 (K' · H)) fun t106 H =>
 aGuardJ t102 false H (fun K' => aBin .gtr false t106 (.int .i64 0) (K' · H)) fun t107 H =>
 aPick t102 (.bool true) t107 fun t108 =>
 aTest t108
 (K (.int .i64 (-1)) H)
 (K (.int .i64 0) H))))
theorem zq62_b15_eq (t0 t4 t7 t56 t57 t58 : AV) (H : Heap) (K : Kt) (Kb15 : Lt) : awp Tryz.prog zq62_M zq62_c15 (roundQ zq62_m15 Kb15 (zq62_Q15 K)) (zq62_fr15 t0 t4 t7 t56 t57 t58) H = zq62_b15 t0 t4 t7 t56 t57 t58 H K Kb15 := by kernel_rfl
theorem zq62_loop15 {t0 t4 t7 t56 t57 t58 : AV} {H : Heap} {K : Kt} (Inv : Nat → AV → AV → Heap → Prop) (n : Nat) (h0 : HSc H → Inv n t7 t58 H)
   (round : ∀ n t7 t58 H', Inv n t7 t58 H' → HSc H' → H.length ≤ H'.length → (zq62_fr15 t0 t4 t7 t56 t57 t58).all (AV.sc H'.length) = true → ∀ Kb15 : Lt, (∀ F'' H'', (∃ n', n' < n ∧ Back H.length (fun F2 H2 => ∃ t7 t58, F2 = zq62_fr15 t0 t4 t7 t56 t57 t58 ∧ Inv n' t7 t58 H2) F'' H'') → Kb15 F'' H'') → zq62_b15 t0 t4 t7 t56 t57 t58 H' K Kb15) : zq62_l15 t0 t4 t7 t56 t57 t58 H K :=
 aloop (M := zq62_M) zq62_m15 (fun n F H => ∃ t7 t58, F = zq62_fr15 t0 t4 t7 t56 t57 t58 ∧ Inv n t7 t58 H) n (fun hs _ => ⟨t7, t58, rfl, h0 hs⟩) (fun n F H' ⟨t7, t58, hF, hI⟩ h1 h2 h3 => by subst hF; rw [zq62_b15_eq]; exact round n t7 t58 H' hI h1 h2 h3 _ (fun _ _ h => h))
theorem zq62_eq (t0 t1 t2 : AV) (H : Heap) (K : Kt) : awp Tryz.prog zq62_M zq62_c (retQ Tryz.prog zq62_r K) (t0 :: t1 :: t2 :: List.replicate 106 .unk) H = zq62 t0 t1 t2 H K := by kernel_rfl
theorem zq62_ok {t0 t1 t2 : AV} {H : Heap} {K : Kt} (h : HSc H → zq62 t0 t1 t2 H K) : ACalls Tryz.prog n_zq62 [t0, t1, t2] H K :=
 acalls_body (M := zq62_M) Tryz.func64 (c := zq62_c) (by kernel_rfl) (fun hs => (zq62_eq t0 t1 t2 H K).mpr (h hs))
def zq106_M : Nat → List Bool
 | 5 => rl false [0,1,1,1,5,1,9,3,23]
 | _ => []
noncomputable def zq106_c : Code := Tryz.f108.body.getD .skip
noncomputable def zq106_r : List ResultVar := Tryz.f108.results.toList
def zq106_fr5 (t0 t2 t8 t18 t19 t20 : AV) : List AV := t0 :: ux 1 (t2 :: ux 5 (t8 :: ux 9 (t18 :: t19 :: t20 :: ux 23 [])))
def zq106_m5 : List Bool := zq106_M 5
noncomputable def zq106_c5 : Code := codeAt [1, 1, 1, 0, 1, 0, 0] zq106_c
def zq106_Q5 (K : Kt) : AExit → List AV → Heap → Prop := contAt Tryz.prog zq106_M [1, 1, 1, 0, 1, 0] zq106_c (retQ Tryz.prog zq106_r K)
def zq106_l5 (t0 t2 t8 t18 t19 t20 : AV) (H : Heap) (K : Kt) : Prop := ALoop Tryz.prog zq106_c5 (zq106_Q5 K) (zq106_fr5 t0 t2 t8 t18 t19 t20) H
def zq106_b5 (t0 t2 t8 t18 t19 t20 : AV) (H : Heap) (K : Kt) (Kb5 : Lt) : Prop :=
 aBin .lss false t20 t19 fun t21 =>
 aTest t21
 (aIdxA 3 t18 t20 fun t23 =>
 aLoad true 3 t23 H fun t24 =>
 aNew [(.int .i64 0), (.int .i64 0), .snil] H fun t10 H =>
 aStore 3 t10 t24 H fun H =>
 aPure H (fun K' => K' t0 H) fun t26 =>
 aPure H (fun K' => aLoadC true 3 t10 H (K' · H)) fun t27 =>
 aPure H (fun K' => K' t2 H) fun t28 =>
 aPure H (fun K' => K' t20 H) fun t29 =>
 aPure H (fun K' => aIdxA 2 t28 t29 (K' · H)) fun t30 =>
 aPure H (fun K' => aLoadC true 2 t30 H (K' · H)) fun t31 =>
 aPureX H (fun H K' => ACalls Tryz.prog n_zq60 [t26, t27, t31] H K') fun t32 =>
 aPure H (fun K' => K' t32 H) fun t25 =>
 aPure H (fun K' => aExt t25 0 (K' · H)) fun t33 =>
 aPure H (fun K' => aExt t25 1 (K' · H)) fun t34 =>
 aPure H (fun K' => K' t33 H) fun t11 =>
 aPure H (fun K' => K' t34 H) fun t12 =>
 aUn .not t12 fun t36 =>
 aTest t36
 (aRet [(.int .i64 0), (.bool false)] (K · H))
 (aBin .add false t8 t11 fun t39 =>
 aBin .add false t20 (.int .i64 1) fun t40 =>
 Kb5 (zq106_fr5 t0 t2 t39 t18 t19 t40) H))
 (aBin .leq false t8 (.int .i64 6) fun t43 =>
 aRet [t8, t43] (K · H))
def zq106 (t0 t1 t2 : AV) (H : Heap) (K : Kt) : Prop :=
 aLen 1 t1 fun t14 =>
 aLen 1 t2 fun t16 =>
 aBin .neq false t14 t16 fun t17 =>
 aTest t17
 (aRet [(.int .i64 0), (.bool false)] (K · H))
 (aLen 1 t1 fun t19 =>
 zq106_l5 t0 t2 (.int .i64 0) t1 t19 (.int .i64 0) H K)
theorem zq106_b5_eq (t0 t2 t8 t18 t19 t20 : AV) (H : Heap) (K : Kt) (Kb5 : Lt) : awp Tryz.prog zq106_M zq106_c5 (roundQ zq106_m5 Kb5 (zq106_Q5 K)) (zq106_fr5 t0 t2 t8 t18 t19 t20) H = zq106_b5 t0 t2 t8 t18 t19 t20 H K Kb5 := by kernel_rfl
theorem zq106_loop5 {t0 t2 t8 t18 t19 t20 : AV} {H : Heap} {K : Kt} (Inv : Nat → AV → AV → Heap → Prop) (n : Nat) (h0 : HSc H → Inv n t8 t20 H)
   (round : ∀ n t8 t20 H', Inv n t8 t20 H' → HSc H' → H.length ≤ H'.length → (zq106_fr5 t0 t2 t8 t18 t19 t20).all (AV.sc H'.length) = true → ∀ Kb5 : Lt, (∀ F'' H'', (∃ n', n' < n ∧ Back H.length (fun F2 H2 => ∃ t8 t20, F2 = zq106_fr5 t0 t2 t8 t18 t19 t20 ∧ Inv n' t8 t20 H2) F'' H'') → Kb5 F'' H'') → zq106_b5 t0 t2 t8 t18 t19 t20 H' K Kb5) : zq106_l5 t0 t2 t8 t18 t19 t20 H K :=
 aloop (M := zq106_M) zq106_m5 (fun n F H => ∃ t8 t20, F = zq106_fr5 t0 t2 t8 t18 t19 t20 ∧ Inv n t8 t20 H) n (fun hs _ => ⟨t8, t20, rfl, h0 hs⟩) (fun n F H' ⟨t8, t20, hF, hI⟩ h1 h2 h3 => by subst hF; rw [zq106_b5_eq]; exact round n t8 t20 H' hI h1 h2 h3 _ (fun _ _ h => h))
theorem zq106_eq (t0 t1 t2 : AV) (H : Heap) (K : Kt) : awp Tryz.prog zq106_M zq106_c (retQ Tryz.prog zq106_r K) (t0 :: t1 :: t2 :: List.replicate 41 .unk) H = zq106 t0 t1 t2 H K := by kernel_rfl
theorem zq106_ok {t0 t1 t2 : AV} {H : Heap} {K : Kt} (h : HSc H → zq106 t0 t1 t2 H K) : ACalls Tryz.prog n_zq106 [t0, t1, t2] H K :=
 acalls_body (M := zq106_M) Tryz.func108 (c := zq106_c) (by kernel_rfl) (fun hs => (zq106_eq t0 t1 t2 H K).mpr (h hs))
def zq107_M : Nat → List Bool
 | 6 => rl false [8,1,1,1,15,3,15]
 | _ => []
noncomputable def zq107_c : Code := Tryz.f109.body.getD .skip
noncomputable def zq107_r : List ResultVar := Tryz.f109.results.toList
def zq107_fr6 (t8 t10 t26 t27 t28 : AV) : List AV := ux 8 (t8 :: ux 1 (t10 :: ux 15 (t26 :: t27 :: t28 :: ux 15 [])))
def zq107_m6 : List Bool := zq107_M 6
noncomputable def zq107_c6 : Code := codeAt [1, 1, 1, 1, 0, 1, 0, 0] zq107_c
def zq107_Q6 (K : Kt) : AExit → List AV → Heap → Prop := contAt Tryz.prog zq107_M [1, 1, 1, 1, 0, 1, 0] zq107_c (retQ Tryz.prog zq107_r K)
def zq107_l6 (t8 t10 t26 t27 t28 : AV) (H : Heap) (K : Kt) : Prop := ALoop Tryz.prog zq107_c6 (zq107_Q6 K) (zq107_fr6 t8 t10 t26 t27 t28) H
def zq107_j2 (t8 t10 t26 t27 t28 : AV) (H : Heap) (K : Kt) (Kb6 : Lt) : Prop :=
 aBin .add false t28 (.int .i64 1) fun t42 =>
 Kb6 (zq107_fr6 t8 t10 t26 t27 t42) H
def zq107_j1 (t8 t10 t26 t27 t28 : AV) (H : Heap) (K : Kt) (Kb6 : Lt) : Prop :=
 zq107_j2 t8 t10 t26 t27 t28 H K Kb6
def zq107_b6 (t8 t10 t26 t27 t28 : AV) (H : Heap) (K : Kt) (Kb6 : Lt) : Prop :=
 aBin .lss false t28 t27 fun t29 =>
 aTest t29
 (aIdxA 1 t26 t28 fun t31 =>
 aLoad false 1 t31 H fun t32 =>
 aUn .not t32 fun t34 =>
 aTest t34
 (aIdxA 3 t8 t28 fun t38 =>
 aLoad true 3 t38 H fun t39 =>
 aBuildS 3 [(.int .i64 0), (.int .i64 0), .snil] 1 [(0, t39)] fun t40 =>
 aAppend e_api_Type 3 40 t10 t40 H fun t41 H =>
 zq107_j1 t8 t41 t26 t27 t28 H K Kb6)
 (zq107_j1 t8 t10 t26 t27 t28 H K Kb6))
 (aRet [t10, (.bool true)] (K · H))
def zq107 (t0 t1 t2 : AV) (H : Heap) (K : Kt) : Prop :=
 aBox t1 H fun t4 H =>
 aLoad true 3 t4 H fun t15 =>
 ACalls Tryz.prog n_zq89 [t0, t15, t2] H fun t17 H =>
 aExt t17 0 fun t18 =>
 aExt t17 1 fun t19 =>
 aUn .not t19 fun t21 =>
 aTest t21
 (aRet [.snil, (.bool false)] (K · H))
 (aFld 1 t4 fun t23 =>
 aLoad false 1 t23 H fun t24 =>
 ACalls Tryz.prog n_zq65 [t0, t24, t2] H fun t26 H =>
 aLen 1 t26 fun t27 =>
 zq107_l6 t18 .snil t26 t27 (.int .i64 0) H K)
theorem zq107_b6_eq (t8 t10 t26 t27 t28 : AV) (H : Heap) (K : Kt) (Kb6 : Lt) : awp Tryz.prog zq107_M zq107_c6 (roundQ zq107_m6 Kb6 (zq107_Q6 K)) (zq107_fr6 t8 t10 t26 t27 t28) H = zq107_b6 t8 t10 t26 t27 t28 H K Kb6 := by kernel_rfl
theorem zq107_loop6 {t8 t10 t26 t27 t28 : AV} {H : Heap} {K : Kt} (Inv : Nat → AV → AV → Heap → Prop) (n : Nat) (h0 : HSc H → Inv n t10 t28 H)
   (round : ∀ n t10 t28 H', Inv n t10 t28 H' → HSc H' → H.length ≤ H'.length → (zq107_fr6 t8 t10 t26 t27 t28).all (AV.sc H'.length) = true → ∀ Kb6 : Lt, (∀ F'' H'', (∃ n', n' < n ∧ Back H.length (fun F2 H2 => ∃ t10 t28, F2 = zq107_fr6 t8 t10 t26 t27 t28 ∧ Inv n' t10 t28 H2) F'' H'') → Kb6 F'' H'') → zq107_b6 t8 t10 t26 t27 t28 H' K Kb6) : zq107_l6 t8 t10 t26 t27 t28 H K :=
 aloop (M := zq107_M) zq107_m6 (fun n F H => ∃ t10 t28, F = zq107_fr6 t8 t10 t26 t27 t28 ∧ Inv n t10 t28 H) n (fun hs _ => ⟨t10, t28, rfl, h0 hs⟩) (fun n F H' ⟨t10, t28, hF, hI⟩ h1 h2 h3 => by subst hF; rw [zq107_b6_eq]; exact round n t10 t28 H' hI h1 h2 h3 _ (fun _ _ h => h))
theorem zq107_eq (t0 t1 t2 : AV) (H : Heap) (K : Kt) : awp Tryz.prog zq107_M zq107_c (retQ Tryz.prog zq107_r K) (t0 :: t1 :: t2 :: List.replicate 41 .unk) H = zq107 t0 t1 t2 H K := by kernel_rfl
theorem zq107_ok {t0 t1 t2 : AV} {H : Heap} {K : Kt} (h : HSc H → zq107 t0 t1 t2 H K) : ACalls Tryz.prog n_zq107 [t0, t1, t2] H K :=
 acalls_body (M := zq107_M) Tryz.func109 (c := zq107_c) (by kernel_rfl) (fun hs => (zq107_eq t0 t1 t2 H K).mpr (h hs))
def zq83_M : Nat → List Bool
 | 7 => rl false [8,1,4,1,19,3,12]
 | _ => []
noncomputable def zq83_c : Code := Tryz.f85.body.getD .skip
noncomputable def zq83_r : List ResultVar := Tryz.f85.results.toList
def zq83_fr7 (t8 t13 t33 t34 t35 : AV) : List AV := ux 8 (t8 :: ux 4 (t13 :: ux 19 (t33 :: t34 :: t35 :: ux 12 [])))
def zq83_m7 : List Bool := zq83_M 7
noncomputable def zq83_c7 : Code := codeAt [1, 1, 1, 1, 1, 0, 1, 0, 0] zq83_c
def zq83_Q7 (K : Kt) : AExit → List AV → Heap → Prop := contAt Tryz.prog zq83_M [1, 1, 1, 1, 1, 0, 1, 0] zq83_c (retQ Tryz.prog zq83_r K)
def zq83_l7 (t8 t13 t33 t34 t35 : AV) (H : Heap) (K : Kt) : Prop := ALoop Tryz.prog zq83_c7 (zq83_Q7 K) (zq83_fr7 t8 t13 t33 t34 t35) H
def zq83_b7 (t8 t13 t33 t34 t35 : AV) (H : Heap) (K : Kt) (Kb7 : Lt) : Prop :=
 aBin .lss false t35 t34 fun t36 =>
 aTest t36
 (aIdxA 1 t33 t35 fun t37 =>
 aLoad false 1 t37 H fun t38 =>
 aIdxA 3 t8 t38 fun t42 =>
 aLoad true 3 t42 H fun t43 =>
 aBuildS 3 [(.int .i64 0), (.int .i64 0), .snil] 1 [(0, t43)] fun t44 =>
 aAppend e_api_Type 3 40 t13 t44 H fun t45 H =>
 aBin .add false t35 (.int .i64 1) fun t46 =>
 Kb7 (zq83_fr7 t8 t45 t33 t34 t46) H)
 (aRet [t13, (.bool true)] (K · H))
def zq83 (t0 t1 t2 : AV) (H : Heap) (K : Kt) : Prop :=
 aBox t1 H fun t4 H =>
 aLoad true 3 t4 H fun t18 =>
 ACalls Tryz.prog n_zq96 [t0, t18, t2] H fun t20 H =>
 aExt t20 0 fun t21 =>
 aExt t20 1 fun t22 =>
 aUn .not t22 fun t24 =>
 aTest t24
 (aRet [.snil, (.bool false)] (K · H))
 (aLoad true 3 t4 H fun t27 =>
 ACalls Tryz.prog n_zq145 [t0, t27, t2] H fun t29 H =>
 aExt t29 0 fun t30 =>
 aExt t29 1 fun t31 =>
 aExt t29 2 fun t32 =>
 aLen 1 t30 fun t34 =>
 zq83_l7 t21 .snil t30 t34 (.int .i64 0) H K)
theorem zq83_b7_eq (t8 t13 t33 t34 t35 : AV) (H : Heap) (K : Kt) (Kb7 : Lt) : awp Tryz.prog zq83_M zq83_c7 (roundQ zq83_m7 Kb7 (zq83_Q7 K)) (zq83_fr7 t8 t13 t33 t34 t35) H = zq83_b7 t8 t13 t33 t34 t35 H K Kb7 := by kernel_rfl
theorem zq83_loop7 {t8 t13 t33 t34 t35 : AV} {H : Heap} {K : Kt} (Inv : Nat → AV → AV → Heap → Prop) (n : Nat) (h0 : HSc H → Inv n t13 t35 H)
   (round : ∀ n t13 t35 H', Inv n t13 t35 H' → HSc H' → H.length ≤ H'.length → (zq83_fr7 t8 t13 t33 t34 t35).all (AV.sc H'.length) = true → ∀ Kb7 : Lt, (∀ F'' H'', (∃ n', n' < n ∧ Back H.length (fun F2 H2 => ∃ t13 t35, F2 = zq83_fr7 t8 t13 t33 t34 t35 ∧ Inv n' t13 t35 H2) F'' H'') → Kb7 F'' H'') → zq83_b7 t8 t13 t33 t34 t35 H' K Kb7) : zq83_l7 t8 t13 t33 t34 t35 H K :=
 aloop (M := zq83_M) zq83_m7 (fun n F H => ∃ t13 t35, F = zq83_fr7 t8 t13 t33 t34 t35 ∧ Inv n t13 t35 H) n (fun hs _ => ⟨t13, t35, rfl, h0 hs⟩) (fun n F H' ⟨t13, t35, hF, hI⟩ h1 h2 h3 => by subst hF; rw [zq83_b7_eq]; exact round n t13 t35 H' hI h1 h2 h3 _ (fun _ _ h => h))
theorem zq83_eq (t0 t1 t2 : AV) (H : Heap) (K : Kt) : awp Tryz.prog zq83_M zq83_c (retQ Tryz.prog zq83_r K) (t0 :: t1 :: t2 :: List.replicate 45 .unk) H = zq83 t0 t1 t2 H K := by kernel_rfl
theorem zq83_ok {t0 t1 t2 : AV} {H : Heap} {K : Kt} (h : HSc H → zq83 t0 t1 t2 H K) : ACalls Tryz.prog n_zq83 [t0, t1, t2] H K :=
 acalls_body (M := zq83_M) Tryz.func85 (c := zq83_c) (by kernel_rfl) (fun hs => (zq83_eq t0 t1 t2 H K).mpr (h hs))
def zq145_M : Nat → List Bool
 | 6 => rl false [11,2,15,3,16]
 | _ => []
noncomputable def zq145_c : Code := Tryz.f147.body.getD .skip
noncomputable def zq145_r : List ResultVar := Tryz.f147.results.toList
def zq145_fr6 (t11 t12 t28 t29 t30 : AV) : List AV := ux 11 (t11 :: t12 :: ux 15 (t28 :: t29 :: t30 :: ux 16 []))
def zq145_m6 : List Bool := zq145_M 6
noncomputable def zq145_c6 : Code := codeAt [1, 1, 1, 0, 1, 0, 0] zq145_c
def zq145_Q6 (K : Kt) : AExit → List AV → Heap → Prop := contAt Tryz.prog zq145_M [1, 1, 1, 0, 1, 0] zq145_c (retQ Tryz.prog zq145_r K)
def zq145_l6 (t11 t12 t28 t29 t30 : AV) (H : Heap) (K : Kt) : Prop := ALoop Tryz.prog zq145_c6 (zq145_Q6 K) (zq145_fr6 t11 t12 t28 t29 t30) H
def zq145_j2 (t11 t12 t28 t29 t30 : AV) (H : Heap) (K : Kt) (Kb6 : Lt) : Prop :=
 aBin .add false t30 (.int .i64 1) fun t44 =>
 Kb6 (zq145_fr6 t11 t12 t28 t29 t44) H
def zq145_j1 (t11 t12 t28 t29 t30 : AV) (H : Heap) (K : Kt) (Kb6 : Lt) : Prop :=
 zq145_j2 t11 t12 t28 t29 t30 H K Kb6
def zq145_b6 (t11 t12 t28 t29 t30 : AV) (H : Heap) (K : Kt) (Kb6 : Lt) : Prop :=
 aBin .lss false t30 t29 fun t31 =>
 aTest t31
 (aIdxA 1 t28 t30 fun t33 =>
 aLoad false 1 t33 H fun t34 =>
 aTest t34
 (aBuildS 1 [(.int .i64 0)] 1 [(0, t30)] fun t38 =>
 aAppend e_int 1 8 t12 t38 H fun t39 H =>
 zq145_j1 t11 t39 t28 t29 t30 H K Kb6)
 (aBuildS 1 [(.int .i64 0)] 1 [(0, t30)] fun t42 =>
 aAppend e_int 1 8 t11 t42 H fun t43 H =>
 zq145_j1 t43 t12 t28 t29 t30 H K Kb6))
 (aRet [t11, t12, (.bool true)] (K · H))
def zq145 (t0 t1 t2 : AV) (H : Heap) (K : Kt) : Prop :=
 aBox t1 H fun t4 H =>
 aLoad true 3 t4 H fun t17 =>
 ACalls Tryz.prog n_zq96 [t0, t17, t2] H fun t19 H =>
 aExt t19 0 fun t20 =>
 aExt t19 1 fun t21 =>
 aUn .not t21 fun t23 =>
 aTest t23
 (aRet [.snil, .snil, (.bool false)] (K · H))
 (aFld 1 t4 fun t25 =>
 aLoad false 1 t25 H fun t26 =>
 ACalls Tryz.prog n_zq31 [t0, t26, t2] H fun t28 H =>
 aLen 1 t28 fun t29 =>
 zq145_l6 .snil .snil t28 t29 (.int .i64 0) H K)
theorem zq145_b6_eq (t11 t12 t28 t29 t30 : AV) (H : Heap) (K : Kt) (Kb6 : Lt) : awp Tryz.prog zq145_M zq145_c6 (roundQ zq145_m6 Kb6 (zq145_Q6 K)) (zq145_fr6 t11 t12 t28 t29 t30) H = zq145_b6 t11 t12 t28 t29 t30 H K Kb6 := by kernel_rfl
theorem zq145_loop6 {t11 t12 t28 t29 t30 : AV} {H : Heap} {K : Kt} (Inv : Nat → AV → AV → AV → Heap → Prop) (n : Nat) (h0 : HSc H → Inv n t11 t12 t30 H)
   (round : ∀ n t11 t12 t30 H', Inv n t11 t12 t30 H' → HSc H' → H.length ≤ H'.length → (zq145_fr6 t11 t12 t28 t29 t30).all (AV.sc H'.length) = true → ∀ Kb6 : Lt, (∀ F'' H'', (∃ n', n' < n ∧ Back H.length (fun F2 H2 => ∃ t11 t12 t30, F2 = zq145_fr6 t11 t12 t28 t29 t30 ∧ Inv n' t11 t12 t30 H2) F'' H'') → Kb6 F'' H'') → zq145_b6 t11 t12 t28 t29 t30 H' K Kb6) : zq145_l6 t11 t12 t28 t29 t30 H K :=
 aloop (M := zq145_M) zq145_m6 (fun n F H => ∃ t11 t12 t30, F = zq145_fr6 t11 t12 t28 t29 t30 ∧ Inv n t11 t12 t30 H) n (fun hs _ => ⟨t11, t12, t30, rfl, h0 hs⟩) (fun n F H' ⟨t11, t12, t30, hF, hI⟩ h1 h2 h3 => by subst hF; rw [zq145_b6_eq]; exact round n t11 t12 t30 H' hI h1 h2 h3 _ (fun _ _ h => h))
theorem zq145_eq (t0 t1 t2 : AV) (H : Heap) (K : Kt) : awp Tryz.prog zq145_M zq145_c (retQ Tryz.prog zq145_r K) (t0 :: t1 :: t2 :: List.replicate 44 .unk) H = zq145 t0 t1 t2 H K := by kernel_rfl
theorem zq145_ok {t0 t1 t2 : AV} {H : Heap} {K : Kt} (h : HSc H → zq145 t0 t1 t2 H K) : ACalls Tryz.prog n_zq145 [t0, t1, t2] H K :=
 acalls_body (M := zq145_M) Tryz.func147 (c := zq145_c) (by kernel_rfl) (fun hs => (zq145_eq t0 t1 t2 H K).mpr (h hs))
def zq108_M : Nat → List Bool
 | 5 => rl false [0,3,4,1,8,2,25]
 | _ => []
noncomputable def zq108_c : Code := Tryz.f110.body.getD .skip
noncomputable def zq108_r : List ResultVar := Tryz.f110.results.toList
def zq108_fr5 (t0 t1 t2 t7 t16 t17 : AV) : List AV := t0 :: t1 :: t2 :: ux 4 (t7 :: ux 8 (t16 :: t17 :: ux 25 []))
def zq108_m5 : List Bool := zq108_M 5
noncomputable def zq108_c5 : Code := codeAt [1, 1, 1, 0, 1, 0, 0] zq108_c
def zq108_Q5 (K : Kt) : AExit → List AV → Heap → Prop := contAt Tryz.prog zq108_M [1, 1, 1, 0, 1, 0] zq108_c (retQ Tryz.prog zq108_r K)
def zq108_l5 (t0 t1 t2 t7 t16 t17 : AV) (H : Heap) (K : Kt) : Prop := ALoop Tryz.prog zq108_c5 (zq108_Q5 K) (zq108_fr5 t0 t1 t2 t7 t16 t17) H
def zq108_b5 (t0 t1 t2 t7 t16 t17 : AV) (H : Heap) (K : Kt) (Kb5 : Lt) : Prop :=
 aBin .lss false t17 t16 fun t18 =>
 aTest t18
 (aPure H (fun K' => K' t0 H) fun t20 =>
 aPure H (fun K' => K' t1 H) fun t21 =>
 aPure H (fun K' => K' t17 H) fun t22 =>
 aPure H (fun K' => aIdxA 3 t21 t22 (K' · H)) fun t23 =>
 aPure H (fun K' => aLoadC true 3 t23 H (K' · H)) fun t24 =>
 aPure H (fun K' => K' t2 H) fun t25 =>
 aPure H (fun K' => K' t17 H) fun t26 =>
 aPure H (fun K' => aIdxA 2 t25 t26 (K' · H)) fun t27 =>
 aPure H (fun K' => aLoadC true 2 t27 H (K' · H)) fun t28 =>
 aPureX H (fun H K' => ACalls Tryz.prog n_zq62 [t20, t24, t28] H K') fun t29 =>
 aPure H (fun K' => K' t29 H) fun t9 =>
 aBin .lss false t9 (.int .i64 0) fun t31 =>
 aGuardJ t31 false H (fun K' => K' t7 H) fun t33 H =>
 aGuardJ t31 false H (fun K' => K' t9 H) fun t34 H =>
 aGuardJ t31 false H (fun K' => aBin .add false t33 t34 (K' · H)) fun t35 H =>
 aGuardJ t31 false H (fun K' => aBin .gtr false t35 (.int .i64 6) (K' · H)) fun t36 H =>
 aPick t31 (.bool true) t36 fun t37 =>
 aTest t37
 (K (.int .i64 (-1)) H)
 (aBin .add false t7 t9 fun t40 =>
 aBin .add false t17 (.int .i64 1) fun t41 =>
 Kb5 (zq108_fr5 t0 t1 t2 t40 t16 t41) H))
 (K t7 H)
def zq108 (t0 t1 t2 : AV) (H : Heap) (K : Kt) : Prop :=
 aLen 1 t1 fun t11 =>
 aLen 1 t2 fun t13 =>
 aBin .neq false t11 t13 fun t14 =>
 aTest t14
 (K (.int .i64 (-1)) H)
 (aLen 1 t1 fun t16 =>
 zq108_l5 t0 t1 t2 (.int .i64 0) t16 (.int .i64 0) H K)
theorem zq108_b5_eq (t0 t1 t2 t7 t16 t17 : AV) (H : Heap) (K : Kt) (Kb5 : Lt) : awp Tryz.prog zq108_M zq108_c5 (roundQ zq108_m5 Kb5 (zq108_Q5 K)) (zq108_fr5 t0 t1 t2 t7 t16 t17) H = zq108_b5 t0 t1 t2 t7 t16 t17 H K Kb5 := by kernel_rfl
theorem zq108_loop5 {t0 t1 t2 t7 t16 t17 : AV} {H : Heap} {K : Kt} (Inv : Nat → AV → AV → Heap → Prop) (n : Nat) (h0 : HSc H → Inv n t7 t17 H)
   (round : ∀ n t7 t17 H', Inv n t7 t17 H' → HSc H' → H.length ≤ H'.length → (zq108_fr5 t0 t1 t2 t7 t16 t17).all (AV.sc H'.length) = true → ∀ Kb5 : Lt, (∀ F'' H'', (∃ n', n' < n ∧ Back H.length (fun F2 H2 => ∃ t7 t17, F2 = zq108_fr5 t0 t1 t2 t7 t16 t17 ∧ Inv n' t7 t17 H2) F'' H'') → Kb5 F'' H'') → zq108_b5 t0 t1 t2 t7 t16 t17 H' K Kb5) : zq108_l5 t0 t1 t2 t7 t16 t17 H K :=
 aloop (M := zq108_M) zq108_m5 (fun n F H => ∃ t7 t17, F = zq108_fr5 t0 t1 t2 t7 t16 t17 ∧ Inv n t7 t17 H) n (fun hs _ => ⟨t7, t17, rfl, h0 hs⟩) (fun n F H' ⟨t7, t17, hF, hI⟩ h1 h2 h3 => by subst hF; rw [zq108_b5_eq]; exact round n t7 t17 H' hI h1 h2 h3 _ (fun _ _ h => h))
theorem zq108_eq (t0 t1 t2 : AV) (H : Heap) (K : Kt) : awp Tryz.prog zq108_M zq108_c (retQ Tryz.prog zq108_r K) (t0 :: t1 :: t2 :: List.replicate 40 .unk) H = zq108 t0 t1 t2 H K := by kernel_rfl
theorem zq108_ok {t0 t1 t2 : AV} {H : Heap} {K : Kt} (h : HSc H → zq108 t0 t1 t2 H K) : ACalls Tryz.prog n_zq108 [t0, t1, t2] H K :=
 acalls_body (M := zq108_M) Tryz.func110 (c := zq108_c) (by kernel_rfl) (fun hs => (zq108_eq t0 t1 t2 H K).mpr (h hs))
end Go.Proofs.YtfpmdpldabopjaaGreatDoor
