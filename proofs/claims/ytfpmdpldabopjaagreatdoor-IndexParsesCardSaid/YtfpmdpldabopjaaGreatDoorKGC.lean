/- The shallow forms of functions of the program, printed by a program (absgen.py) off the translation, each tied to the model by the kernel. -/
import Derived.Test.YtfpmdpldabopjaaGreatDoorKNum
import Derived.Test.YtfpmdpldabopjaaGreatDoorProg
import Derived.KernelRfl
namespace Go.Proofs.YtfpmdpldabopjaaGreatDoor
open Go Go.Abs
set_option linter.unusedVariables false
set_option maxRecDepth 100000
def zq146_M : Nat → List Bool
 | 5 => rl false [0,1,2,2,9,2,89]
 | 13 => rl false [0,1,2,3,8,2,60,3,26]
 | _ => []
noncomputable def zq146_c : Code := Tryz.f148.body.getD .skip
noncomputable def zq146_r : List ResultVar := Tryz.f148.results.toList
def zq146_fr5 (t0 t3 t4 t14 t15 : AV) : List AV := t0 :: ux 2 (t3 :: t4 :: ux 9 (t14 :: t15 :: ux 89 []))
def zq146_m5 : List Bool := zq146_M 5
noncomputable def zq146_c5 : Code := codeAt [1, 1, 1, 0, 1, 0, 0] zq146_c
def zq146_Q5 (K : Kt) : AExit → List AV → Heap → Prop := contAt Tryz.prog zq146_M [1, 1, 1, 0, 1, 0] zq146_c (retQ Tryz.prog zq146_r K)
def zq146_l5 (t0 t3 t4 t14 t15 : AV) (H : Heap) (K : Kt) : Prop := ALoop Tryz.prog zq146_c5 (zq146_Q5 K) (zq146_fr5 t0 t3 t4 t14 t15) H
def zq146_fr13 (t0 t3 t4 t5 t14 t15 t76 t77 t78 : AV) : List AV := t0 :: ux 2 (t3 :: t4 :: t5 :: ux 8 (t14 :: t15 :: ux 60 (t76 :: t77 :: t78 :: ux 26 [])))
def zq146_m13 : List Bool := zq146_M 13
noncomputable def zq146_c13 : Code := codeAt [1, 1, 0, 0, 1, 1, 1, 1, 1, 0, 0] zq146_c5
def zq146_Q13 (K : Kt) (Kb5 : Lt) : AExit → List AV → Heap → Prop := contAt Tryz.prog zq146_M [1, 1, 0, 0, 1, 1, 1, 1, 1, 0] zq146_c5 (roundQ zq146_m5 Kb5 (zq146_Q5 K))
def zq146_l13 (t0 t3 t4 t5 t14 t15 t76 t77 t78 : AV) (H : Heap) (K : Kt) (Kb5 : Lt) : Prop := ALoop Tryz.prog zq146_c13 (zq146_Q13 K Kb5) (zq146_fr13 t0 t3 t4 t5 t14 t15 t76 t77 t78) H
def zq146_b13 (t0 t3 t4 t5 t14 t15 t76 t77 t78 : AV) (H : Heap) (K : Kt) (Kb5 : Lt) (Kb13 : Lt) : Prop :=
 aBin .lss false t78 t77 fun t79 =>
 aTest t79
 (aIdxA 2 t76 t78 fun t81 =>
 aLoad true 2 t81 H fun t82 =>
 aNew [(.str []), .snil] H fun t7 H =>
 aStore 2 t7 t82 H fun H =>
 aFld 0 t7 fun t83 =>
 aLoad false 1 t83 H fun t84 =>
 ACalls Tryz.prog n_zq187 [t84] H fun t85 H =>
 aUn .not t85 fun t86 =>
 aGuardJ t86 false H (fun K' => K' t4 H) fun t88 H =>
 aGuardJ t86 false H (fun K' => aFld 0 t7 (K' · H)) fun t89 H =>
 aGuardJ t86 false H (fun K' => aLoad false 1 t89 H (K' · H)) fun t90 H =>
 aGuardJ t86 false H (fun K' => aLkp (.bool false) false t88 t90 H (K' · H)) fun t91 H =>
 aPick t86 (.bool true) t91 fun t92 =>
 aGuardJ t92 false H (fun K' => K' t0 H) fun t94 H =>
 aGuardJ t92 false H (fun K' => K' t5 H) fun t95 H =>
 aGuardJ t92 false H (fun K' => K' t78 H) fun t96 H =>
 aGuardJ t92 false H (fun K' => ACalls Tryz.prog n_zq188 [t94, t95, t96] H K') fun t97 H =>
 aGuardJ t92 false H (fun K' => aUn .not t97 (K' · H)) fun t98 H =>
 aPick t92 (.bool true) t98 fun t99 =>
 aTest t99
 (K (.bool false) H)
 (aFld 0 t7 fun t101 =>
 aLoad false 1 t101 H fun t102 =>
 aMUpd t4 t102 (.bool true) H fun H =>
 aBin .add false t78 (.int .i64 1) fun t103 =>
 Kb13 (zq146_fr13 t0 t3 t4 t5 t14 t15 t76 t77 t103) H))
 (aBin .add false t15 (.int .i64 1) fun t104 =>
 Kb5 (zq146_fr5 t0 t3 t4 t14 t104) H)
def zq146_b5 (t0 t3 t4 t14 t15 : AV) (H : Heap) (K : Kt) (Kb5 : Lt) : Prop :=
 aBin .lss false t15 t14 fun t16 =>
 aTest t16
 (aIdxA 3 t0 t15 fun t20 =>
 aFld 0 t20 fun t21 =>
 aLoad false 1 t21 H fun t22 =>
 ACalls Tryz.prog n_zq187 [t22] H fun t23 H =>
 aUn .not t23 fun t24 =>
 aGuardJ t24 false H (fun K' => K' t3 H) fun t26 H =>
 aGuardJ t24 false H (fun K' => K' t0 H) fun t27 H =>
 aGuardJ t24 false H (fun K' => K' t15 H) fun t28 H =>
 aGuardJ t24 false H (fun K' => aIdxA 3 t27 t28 (K' · H)) fun t29 H =>
 aGuardJ t24 false H (fun K' => aFld 0 t29 (K' · H)) fun t30 H =>
 aGuardJ t24 false H (fun K' => aLoad false 1 t30 H (K' · H)) fun t31 H =>
 aGuardJ t24 false H (fun K' => aLkp (.bool false) false t26 t31 H (K' · H)) fun t32 H =>
 aPick t24 (.bool true) t32 fun t33 =>
 aGuardJ t33 false H (fun K' => K' t0 H) fun t35 H =>
 aGuardJ t33 false H (fun K' => K' t15 H) fun t36 H =>
 aGuardJ t33 false H (fun K' => aIdxA 3 t35 t36 (K' · H)) fun t37 H =>
 aGuardJ t33 false H (fun K' => aFld 1 t37 (K' · H)) fun t38 H =>
 aGuardJ t33 false H (fun K' => aLoad false 1 t38 H (K' · H)) fun t39 H =>
 aGuardJ t33 false H (fun K' => aBin .lss false t39 (.int .i64 0) (K' · H)) fun t40 H =>
 aPick t33 (.bool true) t40 fun t41 =>
 aGuardJ t41 false H (fun K' => K' t0 H) fun t43 H =>
 aGuardJ t41 false H (fun K' => K' t15 H) fun t44 H =>
 aGuardJ t41 false H (fun K' => aIdxA 3 t43 t44 (K' · H)) fun t45 H =>
 aGuardJ t41 false H (fun K' => aFld 1 t45 (K' · H)) fun t46 H =>
 aGuardJ t41 false H (fun K' => aLoad false 1 t46 H (K' · H)) fun t47 H =>
 aGuardJ t41 false H (fun K' => aBin .gtr false t47 (.int .i64 6) (K' · H)) fun t48 H =>
 aPick t41 (.bool true) t48 fun t49 =>
 aTest t49
 (K (.bool false) H)
 (aIdxA 3 t0 t15 fun t53 =>
 aFld 0 t53 fun t54 =>
 aLoad false 1 t54 H fun t55 =>
 aMUpd t3 t55 (.bool true) H fun H =>
 aIdxA 3 t0 t15 fun t58 =>
 aFld 2 t58 fun t59 =>
 aLoad false 1 t59 H fun t60 =>
 aLen 1 t60 fun t61 =>
 aBin .lss false t61 (.int .i64 1) fun t62 =>
 aGuardJ t62 false H (fun K' => K' t0 H) fun t64 H =>
 aGuardJ t62 false H (fun K' => K' t15 H) fun t65 H =>
 aGuardJ t62 false H (fun K' => aIdxA 3 t64 t65 (K' · H)) fun t66 H =>
 aGuardJ t62 false H (fun K' => aFld 2 t66 (K' · H)) fun t67 H =>
 aGuardJ t62 false H (fun K' => aLoad false 1 t67 H (K' · H)) fun t68 H =>
 aGuardJ t62 false H (fun K' => aLen 1 t68 (K' · H)) fun t69 H =>
 aGuardJ t62 false H (fun K' => aBin .gtr false t69 (.int .i64 8) (K' · H)) fun t70 H =>
 aPick t62 (.bool true) t70 fun t71 =>
 aTest t71
 (K (.bool false) H)
 (aIdxA 3 t0 t15 fun t74 =>
 aFld 2 t74 fun t75 =>
 aLoad false 1 t75 H fun t76 =>
 aLen 1 t76 fun t77 =>
 zq146_l13 t0 t3 t4 t15 t14 t15 t76 t77 (.int .i64 0) H K Kb5)))
 (K (.bool true) H)
def zq146 (t0 : AV) (H : Heap) (K : Kt) : Prop :=
 aLen 1 t0 fun t9 =>
 aBin .gtr false t9 (.int .i64 12) fun t10 =>
 aTest t10
 (K (.bool false) H)
 (aMkMap H fun t11 H =>
 aMkMap H fun t12 H =>
 aLen 1 t0 fun t14 =>
 zq146_l5 t0 t11 t12 t14 (.int .i64 0) H K)
theorem zq146_b13_eq (t0 t3 t4 t5 t14 t15 t76 t77 t78 : AV) (H : Heap) (K : Kt) (Kb5 : Lt) (Kb13 : Lt) : awp Tryz.prog zq146_M zq146_c13 (roundQ zq146_m13 Kb13 (zq146_Q13 K Kb5)) (zq146_fr13 t0 t3 t4 t5 t14 t15 t76 t77 t78) H = zq146_b13 t0 t3 t4 t5 t14 t15 t76 t77 t78 H K Kb5 Kb13 := by kernel_rfl
theorem zq146_loop13 {t0 t3 t4 t5 t14 t15 t76 t77 t78 : AV} {H : Heap} {K : Kt} {Kb5 : Lt} (Inv : Nat → AV → Heap → Prop) (n : Nat) (h0 : HSc H → Inv n t78 H)
   (round : ∀ n t78 H', Inv n t78 H' → HSc H' → H.length ≤ H'.length → (zq146_fr13 t0 t3 t4 t5 t14 t15 t76 t77 t78).all (AV.sc H'.length) = true → ∀ Kb13 : Lt, (∀ F'' H'', (∃ n', n' < n ∧ Back H.length (fun F2 H2 => ∃ t78, F2 = zq146_fr13 t0 t3 t4 t5 t14 t15 t76 t77 t78 ∧ Inv n' t78 H2) F'' H'') → Kb13 F'' H'') → zq146_b13 t0 t3 t4 t5 t14 t15 t76 t77 t78 H' K Kb5 Kb13) : zq146_l13 t0 t3 t4 t5 t14 t15 t76 t77 t78 H K Kb5 :=
 aloop (M := zq146_M) zq146_m13 (fun n F H => ∃ t78, F = zq146_fr13 t0 t3 t4 t5 t14 t15 t76 t77 t78 ∧ Inv n t78 H) n (fun hs _ => ⟨t78, rfl, h0 hs⟩) (fun n F H' ⟨t78, hF, hI⟩ h1 h2 h3 => by subst hF; rw [zq146_b13_eq]; exact round n t78 H' hI h1 h2 h3 _ (fun _ _ h => h))
theorem zq146_b5_eq (t0 t3 t4 t14 t15 : AV) (H : Heap) (K : Kt) (Kb5 : Lt) : awp Tryz.prog zq146_M zq146_c5 (roundQ zq146_m5 Kb5 (zq146_Q5 K)) (zq146_fr5 t0 t3 t4 t14 t15) H = zq146_b5 t0 t3 t4 t14 t15 H K Kb5 := by kernel_rfl
theorem zq146_loop5 {t0 t3 t4 t14 t15 : AV} {H : Heap} {K : Kt} (Inv : Nat → AV → Heap → Prop) (n : Nat) (h0 : HSc H → Inv n t15 H)
   (round : ∀ n t15 H', Inv n t15 H' → HSc H' → H.length ≤ H'.length → (zq146_fr5 t0 t3 t4 t14 t15).all (AV.sc H'.length) = true → ∀ Kb5 : Lt, (∀ F'' H'', (∃ n', n' < n ∧ Back H.length (fun F2 H2 => ∃ t15, F2 = zq146_fr5 t0 t3 t4 t14 t15 ∧ Inv n' t15 H2) F'' H'') → Kb5 F'' H'') → zq146_b5 t0 t3 t4 t14 t15 H' K Kb5) : zq146_l5 t0 t3 t4 t14 t15 H K :=
 aloop (M := zq146_M) zq146_m5 (fun n F H => ∃ t15, F = zq146_fr5 t0 t3 t4 t14 t15 ∧ Inv n t15 H) n (fun hs _ => ⟨t15, rfl, h0 hs⟩) (fun n F H' ⟨t15, hF, hI⟩ h1 h2 h3 => by subst hF; rw [zq146_b5_eq]; exact round n t15 H' hI h1 h2 h3 _ (fun _ _ h => h))
theorem zq146_eq (t0 : AV) (H : Heap) (K : Kt) : awp Tryz.prog zq146_M zq146_c (retQ Tryz.prog zq146_r K) (t0 :: List.replicate 104 .unk) H = zq146 t0 H K := by kernel_rfl
theorem zq146_ok {t0 : AV} {H : Heap} {K : Kt} (h : HSc H → zq146 t0 H K) : ACalls Tryz.prog n_zq146 [t0] H K :=
 acalls_body (M := zq146_M) Tryz.func148 (c := zq146_c) (by kernel_rfl) (fun hs => (zq146_eq t0 H K).mpr (h hs))
def zq188_M : Nat → List Bool
 | 6 => rl false [0,2,6,1,18,3,29]
 | _ => []
noncomputable def zq188_c : Code := Tryz.f190.body.getD .skip
noncomputable def zq188_r : List ResultVar := Tryz.f190.results.toList
def zq188_fr6 (t0 t1 t8 t27 t28 t29 : AV) : List AV := t0 :: t1 :: ux 6 (t8 :: ux 18 (t27 :: t28 :: t29 :: ux 29 []))
def zq188_m6 : List Bool := zq188_M 6
noncomputable def zq188_c6 : Code := codeAt [1, 1, 1, 1, 0, 1, 0, 0] zq188_c
def zq188_Q6 (K : Kt) : AExit → List AV → Heap → Prop := contAt Tryz.prog zq188_M [1, 1, 1, 1, 0, 1, 0] zq188_c (retQ Tryz.prog zq188_r K)
def zq188_l6 (t0 t1 t8 t27 t28 t29 : AV) (H : Heap) (K : Kt) : Prop := ALoop Tryz.prog zq188_c6 (zq188_Q6 K) (zq188_fr6 t0 t1 t8 t27 t28 t29) H
def zq188_b6 (t0 t1 t8 t27 t28 t29 : AV) (H : Heap) (K : Kt) (Kb6 : Lt) : Prop :=
 aBin .lss false t29 t28 fun t30 =>
 aTest t30
 (aIdxA 3 t27 t29 fun t32 =>
 aLoad true 3 t32 H fun t33 =>
 aNew [(.int .i64 0), (.int .i64 0), .snil] H fun t10 H =>
 aStore 3 t10 t33 H fun H =>
 aPure H (fun K' => K' t0 H) fun t34 =>
 aPure H (fun K' => K' t1 H) fun t35 =>
 aPure H (fun K' => aBin .add false t35 (.int .i64 1) (K' · H)) fun t36 =>
 aPure H (fun K' => aSlice 1 3 t34 none (some t36) (K' · H)) fun t37 =>
 aPure H (fun K' => aLoadC true 3 t10 H (K' · H)) fun t38 =>
 aPure H (fun K' => K' t0 H) fun t39 =>
 aPure H (fun K' => K' t1 H) fun t40 =>
 aPure H (fun K' => aIdxA 3 t39 t40 (K' · H)) fun t41 =>
 aPure H (fun K' => aFld 1 t41 (K' · H)) fun t42 =>
 aPure H (fun K' => aLoadC false 1 t42 H (K' · H)) fun t43 =>
 aPureX H (fun H K' => ACalls Tryz.prog n_zq85 [t37, t38, t43] H K') fun t44 =>
 aPure H (fun K' => aUn .not t44 (K' · H)) fun t45 =>
 aPure H (fun K' => K' t45 H) fun t46 =>
 aGuardJ t46 false H (fun K' => aPure H (fun K'' => K'' t8 H) (K' · H)) fun t47 H =>
 aGuardJ t46 false H (fun K' => aPure H (fun K'' => K'' t29 H) (K' · H)) fun t48 H =>
 aGuardJ t46 false H (fun K' => aPure H (fun K'' => aIdxA 1 t47 t48 (K'' · H)) (K' · H)) fun t49 H =>
 aGuardJ t46 false H (fun K' => aPure H (fun K'' => aLoadC false 1 t49 H (K'' · H)) (K' · H)) fun t50 H =>
 aGuardJ t46 false H (fun K' => aPure H (fun K'' => aUn .not t50 (K'' · H)) (K' · H)) fun t51 H =>
 aGuardJ t46 false H (fun K' => aPure H (fun K'' => K'' t51 H) (K' · H)) fun t52 H =>
 aGuardJ t52 true H (fun K' => aPure H (fun K'' => aLoadC true 3 t10 H (K'' · H)) (K' · H)) fun t53 H =>
 aGuardJ t52 true H (fun K' => aPure H (fun K'' => K'' t1 H) (K' · H)) fun t54 H =>
 aGuardJ t52 true H (fun K' => aPureX H (fun H K'' => ACalls Tryz.prog n_zq222 [t53, t54] H K'') (K' · H)) fun t55 H =>
 aGuardJ t46 false H (fun K' => aPure H (fun K'' => aPick t52 t55 (.bool false) (K'' · H)) (K' · H)) fun t56 H =>
 aPure H (fun K' => aPick t46 (.bool true) t56 (K' · H)) fun t57 =>
 aTest t57
 (K (.bool false) H)
 (aBin .add false t29 (.int .i64 1) fun t58 =>
 Kb6 (zq188_fr6 t0 t1 t8 t27 t28 t58) H))
 (K (.bool true) H)
def zq188 (t0 t1 t2 : AV) (H : Heap) (K : Kt) : Prop :=
 aIdxA 3 t0 t1 fun t13 =>
 aFld 2 t13 fun t14 =>
 aLoad false 1 t14 H fun t15 =>
 aIdxA 2 t15 t2 fun t17 =>
 aFld 1 t17 fun t18 =>
 aLoad false 1 t18 H fun t19 =>
 aLen 1 t19 fun t21 =>
 aBin .gtr false t21 (.int .i64 6) fun t22 =>
 aTest t22
 (K (.bool false) H)
 (ACalls Tryz.prog n_zq65 [t0, t1, t2] H fun t26 H =>
 aLen 1 t19 fun t28 =>
 zq188_l6 t0 t1 t26 t19 t28 (.int .i64 0) H K)
theorem zq188_b6_eq (t0 t1 t8 t27 t28 t29 : AV) (H : Heap) (K : Kt) (Kb6 : Lt) : awp Tryz.prog zq188_M zq188_c6 (roundQ zq188_m6 Kb6 (zq188_Q6 K)) (zq188_fr6 t0 t1 t8 t27 t28 t29) H = zq188_b6 t0 t1 t8 t27 t28 t29 H K Kb6 := by kernel_rfl
theorem zq188_loop6 {t0 t1 t8 t27 t28 t29 : AV} {H : Heap} {K : Kt} (Inv : Nat → AV → Heap → Prop) (n : Nat) (h0 : HSc H → Inv n t29 H)
   (round : ∀ n t29 H', Inv n t29 H' → HSc H' → H.length ≤ H'.length → (zq188_fr6 t0 t1 t8 t27 t28 t29).all (AV.sc H'.length) = true → ∀ Kb6 : Lt, (∀ F'' H'', (∃ n', n' < n ∧ Back H.length (fun F2 H2 => ∃ t29, F2 = zq188_fr6 t0 t1 t8 t27 t28 t29 ∧ Inv n' t29 H2) F'' H'') → Kb6 F'' H'') → zq188_b6 t0 t1 t8 t27 t28 t29 H' K Kb6) : zq188_l6 t0 t1 t8 t27 t28 t29 H K :=
 aloop (M := zq188_M) zq188_m6 (fun n F H => ∃ t29, F = zq188_fr6 t0 t1 t8 t27 t28 t29 ∧ Inv n t29 H) n (fun hs _ => ⟨t29, rfl, h0 hs⟩) (fun n F H' ⟨t29, hF, hI⟩ h1 h2 h3 => by subst hF; rw [zq188_b6_eq]; exact round n t29 H' hI h1 h2 h3 _ (fun _ _ h => h))
theorem zq188_eq (t0 t1 t2 : AV) (H : Heap) (K : Kt) : awp Tryz.prog zq188_M zq188_c (retQ Tryz.prog zq188_r K) (t0 :: t1 :: t2 :: List.replicate 56 .unk) H = zq188 t0 t1 t2 H K := by kernel_rfl
theorem zq188_ok {t0 t1 t2 : AV} {H : Heap} {K : Kt} (h : HSc H → zq188 t0 t1 t2 H K) : ACalls Tryz.prog n_zq188 [t0, t1, t2] H K :=
 acalls_body (M := zq188_M) Tryz.func190 (c := zq188_c) (by kernel_rfl) (fun hs => (zq188_eq t0 t1 t2 H K).mpr (h hs))
end Go.Proofs.YtfpmdpldabopjaaGreatDoor
