/- The shallow forms of functions of the program, printed by a program (absgen.py) off the translation, each tied to the model by the kernel. -/
import Derived.Test.YtkdmpbhbmmhijaaKNum
import Derived.Test.YtkdmpbhbmmhijaaProg
import Derived.KernelRfl
namespace Go.Proofs.Ytkdmpbhbmmhijaa
open Go Go.Abs
set_option linter.unusedVariables false
set_option maxRecDepth 100000
def zq39_M : Nat → List Bool
 | 5 => rl false [0,1,2,2,9,2,89]
 | 13 => rl false [0,1,2,3,8,2,60,3,26]
 | _ => []
noncomputable def zq39_c : Code := Try.f41.body.getD .skip
noncomputable def zq39_r : List ResultVar := Try.f41.results.toList
def zq39_fr5 (t0 t3 t4 t14 t15 : AV) : List AV := t0 :: ux 2 (t3 :: t4 :: ux 9 (t14 :: t15 :: ux 89 []))
def zq39_m5 : List Bool := zq39_M 5
noncomputable def zq39_c5 : Code := codeAt [1, 1, 1, 0, 1, 0, 0] zq39_c
def zq39_Q5 (K : Kt) : AExit → List AV → Heap → Prop := contAt tP zq39_M [1, 1, 1, 0, 1, 0] zq39_c (retQ tP zq39_r K)
def zq39_l5 (t0 t3 t4 t14 t15 : AV) (H : Heap) (K : Kt) : Prop := ALoop tP zq39_c5 (zq39_Q5 K) (zq39_fr5 t0 t3 t4 t14 t15) H
def zq39_fr13 (t0 t3 t4 t5 t14 t15 t76 t77 t78 : AV) : List AV := t0 :: ux 2 (t3 :: t4 :: t5 :: ux 8 (t14 :: t15 :: ux 60 (t76 :: t77 :: t78 :: ux 26 [])))
def zq39_m13 : List Bool := zq39_M 13
noncomputable def zq39_c13 : Code := codeAt [1, 1, 0, 0, 1, 1, 1, 1, 1, 0, 0] zq39_c5
def zq39_Q13 (K : Kt) (Kb5 : Lt) : AExit → List AV → Heap → Prop := contAt tP zq39_M [1, 1, 0, 0, 1, 1, 1, 1, 1, 0] zq39_c5 (roundQ zq39_m5 Kb5 (zq39_Q5 K))
def zq39_l13 (t0 t3 t4 t5 t14 t15 t76 t77 t78 : AV) (H : Heap) (K : Kt) (Kb5 : Lt) : Prop := ALoop tP zq39_c13 (zq39_Q13 K Kb5) (zq39_fr13 t0 t3 t4 t5 t14 t15 t76 t77 t78) H
def zq39_b13 (t0 t3 t4 t5 t14 t15 t76 t77 t78 : AV) (H : Heap) (K : Kt) (Kb5 : Lt) (Kb13 : Lt) : Prop :=
 aBin .lss false t78 t77 fun t79 =>
 aTest t79
 (aIdxA 2 t76 t78 fun t81 =>
 aLoad true 2 t81 H fun t82 =>
 aNew [(.str []), .snil] H fun t7 H =>
 aStore 2 t7 t82 H fun H =>
 aFld 0 t7 fun t83 =>
 aLoad false 1 t83 H fun t84 =>
 ACalls tP n_zq64 [t84] H fun t85 H =>
 aUn .not t85 fun t86 =>
 aGuardJ t86 false H (fun k => k t4 H) fun t88 H =>
 aGuardJ t86 false H (fun k => aFld 0 t7 (k · H)) fun t89 H =>
 aGuardJ t86 false H (fun k => aLoad false 1 t89 H (k · H)) fun t90 H =>
 aGuardJ t86 false H (fun k => aLkp (.bool false) false t88 t90 H (k · H)) fun t91 H =>
 aPick t86 (.bool true) t91 fun t92 =>
 aGuardJ t92 false H (fun k => k t0 H) fun t94 H =>
 aGuardJ t92 false H (fun k => k t5 H) fun t95 H =>
 aGuardJ t92 false H (fun k => k t78 H) fun t96 H =>
 aGuardJ t92 false H (fun k => ACalls tP n_zq65 [t94, t95, t96] H k) fun t97 H =>
 aGuardJ t92 false H (fun k => aUn .not t97 (k · H)) fun t98 H =>
 aPick t92 (.bool true) t98 fun t99 =>
 aTest t99
 (K (.bool false) H)
 (aFld 0 t7 fun t101 =>
 aLoad false 1 t101 H fun t102 =>
 aMUpd t4 t102 (.bool true) H fun H =>
 aBin .add false t78 (.int .i64 1) fun t103 =>
 Kb13 (zq39_fr13 t0 t3 t4 t5 t14 t15 t76 t77 t103) H))
 (aBin .add false t15 (.int .i64 1) fun t104 =>
 Kb5 (zq39_fr5 t0 t3 t4 t14 t104) H)
def zq39_b5 (t0 t3 t4 t14 t15 : AV) (H : Heap) (K : Kt) (Kb5 : Lt) : Prop :=
 aBin .lss false t15 t14 fun t16 =>
 aTest t16
 (aIdxA 3 t0 t15 fun t20 =>
 aFld 0 t20 fun t21 =>
 aLoad false 1 t21 H fun t22 =>
 ACalls tP n_zq64 [t22] H fun t23 H =>
 aUn .not t23 fun t24 =>
 aGuardJ t24 false H (fun k => k t3 H) fun t26 H =>
 aGuardJ t24 false H (fun k => k t0 H) fun t27 H =>
 aGuardJ t24 false H (fun k => k t15 H) fun t28 H =>
 aGuardJ t24 false H (fun k => aIdxA 3 t27 t28 (k · H)) fun t29 H =>
 aGuardJ t24 false H (fun k => aFld 0 t29 (k · H)) fun t30 H =>
 aGuardJ t24 false H (fun k => aLoad false 1 t30 H (k · H)) fun t31 H =>
 aGuardJ t24 false H (fun k => aLkp (.bool false) false t26 t31 H (k · H)) fun t32 H =>
 aPick t24 (.bool true) t32 fun t33 =>
 aGuardJ t33 false H (fun k => k t0 H) fun t35 H =>
 aGuardJ t33 false H (fun k => k t15 H) fun t36 H =>
 aGuardJ t33 false H (fun k => aIdxA 3 t35 t36 (k · H)) fun t37 H =>
 aGuardJ t33 false H (fun k => aFld 1 t37 (k · H)) fun t38 H =>
 aGuardJ t33 false H (fun k => aLoad false 1 t38 H (k · H)) fun t39 H =>
 aGuardJ t33 false H (fun k => aBin .lss false t39 (.int .i64 0) (k · H)) fun t40 H =>
 aPick t33 (.bool true) t40 fun t41 =>
 aGuardJ t41 false H (fun k => k t0 H) fun t43 H =>
 aGuardJ t41 false H (fun k => k t15 H) fun t44 H =>
 aGuardJ t41 false H (fun k => aIdxA 3 t43 t44 (k · H)) fun t45 H =>
 aGuardJ t41 false H (fun k => aFld 1 t45 (k · H)) fun t46 H =>
 aGuardJ t41 false H (fun k => aLoad false 1 t46 H (k · H)) fun t47 H =>
 aGuardJ t41 false H (fun k => aBin .gtr false t47 (.int .i64 6) (k · H)) fun t48 H =>
 aPick t41 (.bool true) t48 fun t49 =>
 aTest t49
 (K (.bool false) H)
 (aIdxA 3 t0 t15 fun t53 =>
 aFld 0 t53 fun t54 =>
 aLoad false 1 t54 H fun t55 =>
 aMUpd t3 t55 (.bool true) H fun H =>
 aIdxA 3 t0 t15 fun t58 =>
 aFld 2 t58 fun t59 =>
 aLoad false 1 t59 H fun t60 =>
 aLen 1 t60 fun t61 =>
 aBin .lss false t61 (.int .i64 1) fun t62 =>
 aGuardJ t62 false H (fun k => k t0 H) fun t64 H =>
 aGuardJ t62 false H (fun k => k t15 H) fun t65 H =>
 aGuardJ t62 false H (fun k => aIdxA 3 t64 t65 (k · H)) fun t66 H =>
 aGuardJ t62 false H (fun k => aFld 2 t66 (k · H)) fun t67 H =>
 aGuardJ t62 false H (fun k => aLoad false 1 t67 H (k · H)) fun t68 H =>
 aGuardJ t62 false H (fun k => aLen 1 t68 (k · H)) fun t69 H =>
 aGuardJ t62 false H (fun k => aBin .gtr false t69 (.int .i64 8) (k · H)) fun t70 H =>
 aPick t62 (.bool true) t70 fun t71 =>
 aTest t71
 (K (.bool false) H)
 (aIdxA 3 t0 t15 fun t74 =>
 aFld 2 t74 fun t75 =>
 aLoad false 1 t75 H fun t76 =>
 aLen 1 t76 fun t77 =>
 zq39_l13 t0 t3 t4 t15 t14 t15 t76 t77 (.int .i64 0) H K Kb5)))
 (K (.bool true) H)
def zq39 (t0 : AV) (H : Heap) (K : Kt) : Prop :=
 aLen 1 t0 fun t9 =>
 aBin .gtr false t9 (.int .i64 12) fun t10 =>
 aTest t10
 (K (.bool false) H)
 (aMkMap H fun t11 H =>
 aMkMap H fun t12 H =>
 aLen 1 t0 fun t14 =>
 zq39_l5 t0 t11 t12 t14 (.int .i64 0) H K)
theorem zq39_b13_eq (t0 t3 t4 t5 t14 t15 t76 t77 t78 : AV) (H : Heap) (K : Kt) (Kb5 : Lt) (Kb13 : Lt) : awp tP zq39_M zq39_c13 (roundQ zq39_m13 Kb13 (zq39_Q13 K Kb5)) (zq39_fr13 t0 t3 t4 t5 t14 t15 t76 t77 t78) H = zq39_b13 t0 t3 t4 t5 t14 t15 t76 t77 t78 H K Kb5 Kb13 := by kernel_rfl
theorem zq39_loop13 {t0 t3 t4 t5 t14 t15 t76 t77 t78 : AV} {H : Heap} {K : Kt} {Kb5 : Lt} (Inv : Nat → AV → Heap → Prop) (n : Nat) (h0 : HSc H → Inv n t78 H)
   (round : ∀ n t78 H', Inv n t78 H' → HSc H' → H.length ≤ H'.length → (zq39_fr13 t0 t3 t4 t5 t14 t15 t76 t77 t78).all (AV.sc H'.length) = true → ∀ Kb13 : Lt, (∀ F'' H'', (∃ n', n' < n ∧ Back H.length (fun F2 H2 => ∃ t78, F2 = zq39_fr13 t0 t3 t4 t5 t14 t15 t76 t77 t78 ∧ Inv n' t78 H2) F'' H'') → Kb13 F'' H'') → zq39_b13 t0 t3 t4 t5 t14 t15 t76 t77 t78 H' K Kb5 Kb13) : zq39_l13 t0 t3 t4 t5 t14 t15 t76 t77 t78 H K Kb5 :=
 aloop (M := zq39_M) zq39_m13 (fun n F H => ∃ t78, F = zq39_fr13 t0 t3 t4 t5 t14 t15 t76 t77 t78 ∧ Inv n t78 H) n (fun hs _ => ⟨t78, rfl, h0 hs⟩) (fun n F H' ⟨t78, hF, hI⟩ h1 h2 h3 => by subst hF; rw [zq39_b13_eq]; exact round n t78 H' hI h1 h2 h3 _ (fun _ _ h => h))
theorem zq39_b5_eq (t0 t3 t4 t14 t15 : AV) (H : Heap) (K : Kt) (Kb5 : Lt) : awp tP zq39_M zq39_c5 (roundQ zq39_m5 Kb5 (zq39_Q5 K)) (zq39_fr5 t0 t3 t4 t14 t15) H = zq39_b5 t0 t3 t4 t14 t15 H K Kb5 := by kernel_rfl
theorem zq39_loop5 {t0 t3 t4 t14 t15 : AV} {H : Heap} {K : Kt} (Inv : Nat → AV → Heap → Prop) (n : Nat) (h0 : HSc H → Inv n t15 H)
   (round : ∀ n t15 H', Inv n t15 H' → HSc H' → H.length ≤ H'.length → (zq39_fr5 t0 t3 t4 t14 t15).all (AV.sc H'.length) = true → ∀ Kb5 : Lt, (∀ F'' H'', (∃ n', n' < n ∧ Back H.length (fun F2 H2 => ∃ t15, F2 = zq39_fr5 t0 t3 t4 t14 t15 ∧ Inv n' t15 H2) F'' H'') → Kb5 F'' H'') → zq39_b5 t0 t3 t4 t14 t15 H' K Kb5) : zq39_l5 t0 t3 t4 t14 t15 H K :=
 aloop (M := zq39_M) zq39_m5 (fun n F H => ∃ t15, F = zq39_fr5 t0 t3 t4 t14 t15 ∧ Inv n t15 H) n (fun hs _ => ⟨t15, rfl, h0 hs⟩) (fun n F H' ⟨t15, hF, hI⟩ h1 h2 h3 => by subst hF; rw [zq39_b5_eq]; exact round n t15 H' hI h1 h2 h3 _ (fun _ _ h => h))
theorem zq39_eq (t0 : AV) (H : Heap) (K : Kt) : awp tP zq39_M zq39_c (retQ tP zq39_r K) (t0 :: List.replicate 104 .unk) H = zq39 t0 H K := by kernel_rfl
theorem zq39_ok {t0 : AV} {H : Heap} {K : Kt} (h : HSc H → zq39 t0 H K) : ACalls tP n_zq39 [t0] H K :=
 acalls_body (M := zq39_M) Try.func41 (c := zq39_c) (by kernel_rfl) (fun hs => (zq39_eq t0 H K).mpr (h hs))
def zq40_M (_ : Nat) : List Bool := []
noncomputable def zq40_c : Code := Try.f42.body.getD .skip
noncomputable def zq40_r : List ResultVar := Try.f42.results.toList
def zq40 (t0 : AV) (H : Heap) (K : Kt) : Prop :=
 aBox t0 H fun t1 H =>
 aFld 2 t1 fun t3 =>
 aLoad false 1 t3 H fun t4 =>
 aLen 1 t4 fun t5 =>
 aBin .leq false t5 (.int .i64 3000) fun t6 =>
 aGuardJ t6 true H (fun k => aFld 2 t1 (k · H)) fun t8 H =>
 aGuardJ t6 true H (fun k => aLoad false 1 t8 H (k · H)) fun t9 H =>
 aGuardJ t6 true H (fun k => aClos n_zq67 [t1] (k · H)) fun t10 H =>
 aGuardJ t6 true H (fun k => ACalls tP n_zq66 [t9, t10] H k) fun t11 H =>
 aGuardJ t6 true H (fun k => aUn .not t11 (k · H)) fun t12 H =>
 aPick t6 t12 (.bool false) fun t13 =>
 K t13 H
theorem zq40_eq (t0 : AV) (H : Heap) (K : Kt) : awp tP zq40_M zq40_c (retQ tP zq40_r K) (t0 :: List.replicate 13 .unk) H = zq40 t0 H K := by kernel_rfl
theorem zq40_ok {t0 : AV} {H : Heap} {K : Kt} (h : HSc H → zq40 t0 H K) : ACalls tP n_zq40 [t0] H K :=
 acalls_body (M := zq40_M) Try.func42 (c := zq40_c) (by kernel_rfl) (fun hs => (zq40_eq t0 H K).mpr (h hs))
def zq41_M : Nat → List Bool
 | 6 => rl false [1,1,1,2,14,3,59]
 | _ => []
noncomputable def zq41_c : Code := Try.f43.body.getD .skip
noncomputable def zq41_r : List ResultVar := Try.f43.results.toList
def zq41_fr6 (t1 t3 t4 t19 t20 t21 : AV) : List AV := ux 1 (t1 :: ux 1 (t3 :: t4 :: ux 14 (t19 :: t20 :: t21 :: ux 59 [])))
def zq41_m6 : List Bool := zq41_M 6
noncomputable def zq41_c6 : Code := codeAt [1, 1, 1, 1, 0, 1, 0, 0] zq41_c
def zq41_Q6 (K : Kt) : AExit → List AV → Heap → Prop := contAt tP zq41_M [1, 1, 1, 1, 0, 1, 0] zq41_c (retQ tP zq41_r K)
def zq41_l6 (t1 t3 t4 t19 t20 t21 : AV) (H : Heap) (K : Kt) : Prop := ALoop tP zq41_c6 (zq41_Q6 K) (zq41_fr6 t1 t3 t4 t19 t20 t21) H
def zq41_j1 (t1 t3 t4 t6 t19 t20 t21 : AV) (H : Heap) (K : Kt) (Kb6 : Lt) : Prop :=
 aFld 0 t6 fun t42 =>
 aLoad false 1 t42 H fun t43 =>
 aMUpd t3 t43 (.bool true) H fun H =>
 aFld 1 t6 fun t44 =>
 aLoad false 1 t44 H fun t45 =>
 aLen 1 t45 fun t46 =>
 aBin .gtr false t46 (.int .i64 6) fun t47 =>
 aGuardJ t47 false H (fun k => aFld 0 t1 (k · H)) fun t49 H =>
 aGuardJ t47 false H (fun k => aLoad false 1 t49 H (k · H)) fun t50 H =>
 aGuardJ t47 false H (fun k => aFld 3 t6 (k · H)) fun t51 H =>
 aGuardJ t47 false H (fun k => aLoad true 3 t51 H (k · H)) fun t52 H =>
 aGuardJ t47 false H (fun k => ACalls tP n_zq68 [t50, t52, (.int .i64 0)] H k) fun t53 H =>
 aGuardJ t47 false H (fun k => aUn .not t53 (k · H)) fun t54 H =>
 aPick t47 (.bool true) t54 fun t55 =>
 aTest t55
 (K (.bool false) H)
 (aPure H (fun k => aFld 6 t6 (k · H)) fun t56 =>
 aPure H (fun k => aLoad false 1 t56 H (k · H)) fun t57 =>
 aPure H (fun k => aBin .lss false t57 (.int .i64 0) (k · H)) fun t58 =>
 aPure H (fun k => k t58 H) fun t59 =>
 aGuardJ t59 false H (fun k => aPure H (fun l => aFld 6 t6 (l · H)) (k · H)) fun t60 H =>
 aGuardJ t59 false H (fun k => aPure H (fun l => aLoad false 1 t60 H (l · H)) (k · H)) fun t61 H =>
 aGuardJ t59 false H (fun k => aPure H (fun l => aFld 3 t1 (l · H)) (k · H)) fun t62 H =>
 aGuardJ t59 false H (fun k => aPure H (fun l => aLoad false 1 t62 H (l · H)) (k · H)) fun t63 H =>
 aGuardJ t59 false H (fun k => aPure H (fun l => aLen 1 t63 (l · H)) (k · H)) fun t64 H =>
 aGuardJ t59 false H (fun k => aPure H (fun l => aBin .geq false t61 t64 (l · H)) (k · H)) fun t65 H =>
 aPure H (fun k => aPick t59 (.bool true) t65 (k · H)) fun t66 =>
 aPure H (fun k => k t66 H) fun t67 =>
 aGuardJ t67 false H (fun k => aPure H (fun l => aFld 3 t1 (l · H)) (k · H)) fun t68 H =>
 aGuardJ t67 false H (fun k => aPure H (fun l => aLoad false 1 t68 H (l · H)) (k · H)) fun t69 H =>
 aGuardJ t67 false H (fun k => aPure H (fun l => aFld 6 t6 (l · H)) (k · H)) fun t70 H =>
 aGuardJ t67 false H (fun k => aPure H (fun l => aLoad false 1 t70 H (l · H)) (k · H)) fun t71 H =>
 aGuardJ t67 false H (fun k => aPure H (fun l => aIdxA 8 t69 t71 (l · H)) (k · H)) fun t72 H =>
 aGuardJ t67 false H (fun k => aPure H (fun l => aFld 5 t72 (l · H)) (k · H)) fun t73 H =>
 aGuardJ t67 false H (fun k => aPure H (fun l => aLoad true 3 t73 H (l · H)) (k · H)) fun t74 H =>
 aGuardJ t67 false H (fun k => aPure H (fun l => aFld 3 t6 (l · H)) (k · H)) fun t75 H =>
 aGuardJ t67 false H (fun k => aPure H (fun l => aLoad true 3 t75 H (l · H)) (k · H)) fun t76 H =>
 aGuardJ t67 false H (fun k => aPureX H (fun H l => ACalls tP n_zq69 [t74, t76] H l) (k · H)) fun t77 H =>
 aGuardJ t67 false H (fun k => aPure H (fun l => aUn .not t77 (l · H)) (k · H)) fun t78 H =>
 aPure H (fun k => aPick t67 (.bool true) t78 (k · H)) fun t79 =>
 aTest t79
 (K (.bool false) H)
 (aBin .add false t21 (.int .i64 1) fun t80 =>
 Kb6 (zq41_fr6 t1 t3 t4 t19 t20 t80) H))
def zq41_b6 (t1 t3 t4 t19 t20 t21 : AV) (H : Heap) (K : Kt) (Kb6 : Lt) : Prop :=
 aBin .lss false t21 t20 fun t22 =>
 aTest t22
 (aIdxA 7 t19 t21 fun t23 =>
 aLoad true 7 t23 H fun t24 =>
 aNew [(.str []), .snil, .snil, (.int .i64 0), (.int .i64 0), .snil, (.int .i64 0)] H fun t6 H =>
 aStore 7 t6 t24 H fun H =>
 aFld 0 t6 fun t25 =>
 aLoad false 1 t25 H fun t26 =>
 aBin .eql false t26 (.str []) fun t27 =>
 aTest t27
 (zq41_j1 t1 t3 (.bool true) t6 t19 t20 t21 H K Kb6)
 (aGuardJ t4 false H (fun k => k t3 H) fun t30 H =>
 aGuardJ t4 false H (fun k => aFld 0 t6 (k · H)) fun t31 H =>
 aGuardJ t4 false H (fun k => aLoad false 1 t31 H (k · H)) fun t32 H =>
 aGuardJ t4 false H (fun k => aLkp (.bool false) false t30 t32 H (k · H)) fun t33 H =>
 aPick t4 (.bool true) t33 fun t34 =>
 aGuardJ t34 false H (fun k => aFld 2 t6 (k · H)) fun t36 H =>
 aGuardJ t34 false H (fun k => aLoad false 1 t36 H (k · H)) fun t37 H =>
 aGuardJ t34 false H (fun k => aLen 1 t37 (k · H)) fun t38 H =>
 aGuardJ t34 false H (fun k => aBin .gtr false t38 (.int .i64 0) (k · H)) fun t39 H =>
 aPick t34 (.bool true) t39 fun t40 =>
 aTest t40
 (K (.bool false) H)
 (zq41_j1 t1 t3 t4 t6 t19 t20 t21 H K Kb6)))
 (K (.bool true) H)
def zq41 (t0 : AV) (H : Heap) (K : Kt) : Prop :=
 aBox t0 H fun t1 H =>
 aFld 1 t1 fun t7 =>
 aLoad false 1 t7 H fun t8 =>
 aLen 1 t8 fun t9 =>
 aBin .gtr false t9 (.int .i64 64) fun t10 =>
 aGuardJ t10 false H (fun k => aFld 3 t1 (k · H)) fun t12 H =>
 aGuardJ t10 false H (fun k => aLoad false 1 t12 H (k · H)) fun t13 H =>
 aGuardJ t10 false H (fun k => aLen 1 t13 (k · H)) fun t14 H =>
 aGuardJ t10 false H (fun k => aBin .gtr false t14 (.int .i64 3000) (k · H)) fun t15 H =>
 aPick t10 (.bool true) t15 fun t16 =>
 aTest t16
 (K (.bool false) H)
 (aMkMap H fun t17 H =>
 aFld 1 t1 fun t18 =>
 aLoad false 1 t18 H fun t19 =>
 aLen 1 t19 fun t20 =>
 zq41_l6 t1 t17 (.bool false) t19 t20 (.int .i64 0) H K)
theorem zq41_b6_eq (t1 t3 t4 t19 t20 t21 : AV) (H : Heap) (K : Kt) (Kb6 : Lt) : awp tP zq41_M zq41_c6 (roundQ zq41_m6 Kb6 (zq41_Q6 K)) (zq41_fr6 t1 t3 t4 t19 t20 t21) H = zq41_b6 t1 t3 t4 t19 t20 t21 H K Kb6 := by kernel_rfl
theorem zq41_loop6 {t1 t3 t4 t19 t20 t21 : AV} {H : Heap} {K : Kt} (Inv : Nat → AV → AV → Heap → Prop) (n : Nat) (h0 : HSc H → Inv n t4 t21 H)
   (round : ∀ n t4 t21 H', Inv n t4 t21 H' → HSc H' → H.length ≤ H'.length → (zq41_fr6 t1 t3 t4 t19 t20 t21).all (AV.sc H'.length) = true → ∀ Kb6 : Lt, (∀ F'' H'', (∃ n', n' < n ∧ Back H.length (fun F2 H2 => ∃ t4 t21, F2 = zq41_fr6 t1 t3 t4 t19 t20 t21 ∧ Inv n' t4 t21 H2) F'' H'') → Kb6 F'' H'') → zq41_b6 t1 t3 t4 t19 t20 t21 H' K Kb6) : zq41_l6 t1 t3 t4 t19 t20 t21 H K :=
 aloop (M := zq41_M) zq41_m6 (fun n F H => ∃ t4 t21, F = zq41_fr6 t1 t3 t4 t19 t20 t21 ∧ Inv n t4 t21 H) n (fun hs _ => ⟨t4, t21, rfl, h0 hs⟩) (fun n F H' ⟨t4, t21, hF, hI⟩ h1 h2 h3 => by subst hF; rw [zq41_b6_eq]; exact round n t4 t21 H' hI h1 h2 h3 _ (fun _ _ h => h))
theorem zq41_eq (t0 : AV) (H : Heap) (K : Kt) : awp tP zq41_M zq41_c (retQ tP zq41_r K) (t0 :: List.replicate 80 .unk) H = zq41 t0 H K := by kernel_rfl
theorem zq41_ok {t0 : AV} {H : Heap} {K : Kt} (h : HSc H → zq41 t0 H K) : ACalls tP n_zq41 [t0] H K :=
 acalls_body (M := zq41_M) Try.func43 (c := zq41_c) (by kernel_rfl) (fun hs => (zq41_eq t0 H K).mpr (h hs))
def zq42_M : Nat → List Bool
 | 5 => rl false [1,1,2,2,12,3,54]
 | 11 => rl false [1,1,2,2,25,3,41]
 | 16 => rl false [1,1,2,2,2,1,22,3,12,3,26]
 | _ => []
noncomputable def zq42_c : Code := Try.f44.body.getD .skip
noncomputable def zq42_r : List ResultVar := Try.f44.results.toList
def zq42_fr5 (t1 t4 t5 t18 t19 t20 : AV) : List AV := ux 1 (t1 :: ux 2 (t4 :: t5 :: ux 12 (t18 :: t19 :: t20 :: ux 54 [])))
def zq42_m5 : List Bool := zq42_M 5
noncomputable def zq42_c5 : Code := codeAt [1, 1, 1, 1, 0, 1, 0, 0] zq42_c
def zq42_Q5 (K : Kt) : AExit → List AV → Heap → Prop := contAt tP zq42_M [1, 1, 1, 1, 0, 1, 0] zq42_c (retQ tP zq42_r K)
def zq42_l5 (t1 t4 t5 t18 t19 t20 : AV) (H : Heap) (K : Kt) : Prop := ALoop tP zq42_c5 (zq42_Q5 K) (zq42_fr5 t1 t4 t5 t18 t19 t20) H
def zq42_fr11 (t1 t4 t5 t31 t32 t33 : AV) : List AV := ux 1 (t1 :: ux 2 (t4 :: t5 :: ux 25 (t31 :: t32 :: t33 :: ux 41 [])))
def zq42_m11 : List Bool := zq42_M 11
noncomputable def zq42_c11 : Code := codeAt [1, 1, 1, 1, 1, 0, 1, 0, 0] zq42_c
def zq42_Q11 (K : Kt) : AExit → List AV → Heap → Prop := contAt tP zq42_M [1, 1, 1, 1, 1, 0, 1, 0] zq42_c (retQ tP zq42_r K)
def zq42_l11 (t1 t4 t5 t31 t32 t33 : AV) (H : Heap) (K : Kt) : Prop := ALoop tP zq42_c11 (zq42_Q11 K) (zq42_fr11 t1 t4 t5 t31 t32 t33) H
def zq42_fr16 (t1 t4 t5 t8 t31 t32 t33 t46 t47 t48 : AV) : List AV := ux 1 (t1 :: ux 2 (t4 :: t5 :: ux 2 (t8 :: ux 22 (t31 :: t32 :: t33 :: ux 12 (t46 :: t47 :: t48 :: ux 26 [])))))
def zq42_m16 : List Bool := zq42_M 16
noncomputable def zq42_c16 : Code := codeAt [1, 1, 0, 0, 1, 1, 1, 0, 0] zq42_c11
def zq42_Q16 (K : Kt) (Kb11 : Lt) : AExit → List AV → Heap → Prop := contAt tP zq42_M [1, 1, 0, 0, 1, 1, 1, 0] zq42_c11 (roundQ zq42_m11 Kb11 (zq42_Q11 K))
def zq42_l16 (t1 t4 t5 t8 t31 t32 t33 t46 t47 t48 : AV) (H : Heap) (K : Kt) (Kb11 : Lt) : Prop := ALoop tP zq42_c16 (zq42_Q16 K Kb11) (zq42_fr16 t1 t4 t5 t8 t31 t32 t33 t46 t47 t48) H
def zq42_b16 (t1 t4 t5 t8 t31 t32 t33 t46 t47 t48 : AV) (H : Heap) (K : Kt) (Kb11 : Lt) (Kb16 : Lt) : Prop :=
 aBin .lss false t48 t47 fun t49 =>
 aTest t49
 (aIdxA 1 t46 t48 fun t50 =>
 aLoad false 1 t50 H fun t51 =>
 aBin .leq false t51 t8 fun t54 =>
 aGuardJ t54 false H (fun k => k t51 H) fun t56 H =>
 aGuardJ t54 false H (fun k => aFld 3 t1 (k · H)) fun t57 H =>
 aGuardJ t54 false H (fun k => aLoad false 1 t57 H (k · H)) fun t58 H =>
 aGuardJ t54 false H (fun k => aLen 1 t58 (k · H)) fun t59 H =>
 aGuardJ t54 false H (fun k => aBin .geq false t56 t59 (k · H)) fun t60 H =>
 aPick t54 (.bool true) t60 fun t61 =>
 aGuardJ t61 false H (fun k => k t5 H) fun t63 H =>
 aGuardJ t61 false H (fun k => k t51 H) fun t64 H =>
 aGuardJ t61 false H (fun k => aCallV tP t63 [t64] H k) fun t65 H =>
 aGuardJ t61 false H (fun k => aUn .not t65 (k · H)) fun t66 H =>
 aPick t61 (.bool true) t66 fun t67 =>
 aTest t67
 (K (.bool false) H)
 (aBin .add false t48 (.int .i64 1) fun t68 =>
 Kb16 (zq42_fr16 t1 t4 t5 t8 t31 t32 t33 t46 t47 t68) H))
 (aBin .add false t33 (.int .i64 1) fun t69 =>
 Kb11 (zq42_fr11 t1 t4 t5 t31 t32 t69) H)
def zq42_b11 (t1 t4 t5 t31 t32 t33 : AV) (H : Heap) (K : Kt) (Kb11 : Lt) : Prop :=
 aBin .lss false t33 t32 fun t34 =>
 aTest t34
 (aIdxA 8 t31 t33 fun t36 =>
 aLoad true 8 t36 H fun t37 =>
 aNew [(.int .i64 0), (.int .i64 0), .snil, .snil, .snil, (.int .i64 0), (.int .i64 0), .snil] H fun t9 H =>
 aStore 8 t9 t37 H fun H =>
 aFld 3 t9 fun t38 =>
 aLoad false 1 t38 H fun t39 =>
 aLen 1 t39 fun t40 =>
 aFld 4 t9 fun t41 =>
 aLoad false 1 t41 H fun t42 =>
 aLen 1 t42 fun t43 =>
 aBin .neq false t40 t43 fun t44 =>
 aTest t44
 (K (.bool false) H)
 (aFld 4 t9 fun t45 =>
 aLoad false 1 t45 H fun t46 =>
 aLen 1 t46 fun t47 =>
 zq42_l16 t1 t4 t5 t33 t31 t32 t33 t46 t47 (.int .i64 0) H K Kb11))
 (aLoad false 1 t4 H fun t70 =>
 aFld 3 t1 fun t71 =>
 aLoad false 1 t71 H fun t72 =>
 aLen 1 t72 fun t73 =>
 aBin .eql false t70 t73 fun t74 =>
 K t74 H)
def zq42_b5 (t1 t4 t5 t18 t19 t20 : AV) (H : Heap) (K : Kt) (Kb5 : Lt) : Prop :=
 aBin .lss false t20 t19 fun t21 =>
 aTest t21
 (aIdxA 7 t18 t20 fun t22 =>
 aLoad true 7 t22 H fun t23 =>
 aNew [(.str []), .snil, .snil, (.int .i64 0), (.int .i64 0), .snil, (.int .i64 0)] H fun t7 H =>
 aStore 7 t7 t23 H fun H =>
 aFld 6 t7 fun t25 =>
 aLoad false 1 t25 H fun t26 =>
 aCallV tP t5 [t26] H fun t27 H =>
 aUn .not t27 fun t28 =>
 aTest t28
 (K (.bool false) H)
 (aBin .add false t20 (.int .i64 1) fun t29 =>
 Kb5 (zq42_fr5 t1 t4 t5 t18 t19 t29) H))
 (aFld 3 t1 fun t30 =>
 aLoad false 1 t30 H fun t31 =>
 aLen 1 t31 fun t32 =>
 zq42_l11 t1 t4 t5 t31 t32 (.int .i64 0) H K)
def zq42 (t0 : AV) (H : Heap) (K : Kt) : Prop :=
 aBox t0 H fun t1 H =>
 aFld 3 t1 fun t12 =>
 aLoad false 1 t12 H fun t13 =>
 aLen 1 t13 fun t14 =>
 aMake 1 [(.bool false)] t14 t14 H fun t15 H =>
 aNew [.snil] H fun t3 H =>
 aStore 1 t3 t15 H fun H =>
 aNew [(.int .i64 0)] H fun t4 H =>
 aStore 1 t4 (.int .i64 0) H fun H =>
 aClos n_zq70 [t3, t4] fun t16 =>
 aFld 1 t1 fun t17 =>
 aLoad false 1 t17 H fun t18 =>
 aLen 1 t18 fun t19 =>
 zq42_l5 t1 t4 t16 t18 t19 (.int .i64 0) H K
theorem zq42_b16_eq (t1 t4 t5 t8 t31 t32 t33 t46 t47 t48 : AV) (H : Heap) (K : Kt) (Kb11 : Lt) (Kb16 : Lt) : awp tP zq42_M zq42_c16 (roundQ zq42_m16 Kb16 (zq42_Q16 K Kb11)) (zq42_fr16 t1 t4 t5 t8 t31 t32 t33 t46 t47 t48) H = zq42_b16 t1 t4 t5 t8 t31 t32 t33 t46 t47 t48 H K Kb11 Kb16 := by kernel_rfl
theorem zq42_loop16 {t1 t4 t5 t8 t31 t32 t33 t46 t47 t48 : AV} {H : Heap} {K : Kt} {Kb11 : Lt} (Inv : Nat → AV → Heap → Prop) (n : Nat) (h0 : HSc H → Inv n t48 H)
   (round : ∀ n t48 H', Inv n t48 H' → HSc H' → H.length ≤ H'.length → (zq42_fr16 t1 t4 t5 t8 t31 t32 t33 t46 t47 t48).all (AV.sc H'.length) = true → ∀ Kb16 : Lt, (∀ F'' H'', (∃ n', n' < n ∧ Back H.length (fun F2 H2 => ∃ t48, F2 = zq42_fr16 t1 t4 t5 t8 t31 t32 t33 t46 t47 t48 ∧ Inv n' t48 H2) F'' H'') → Kb16 F'' H'') → zq42_b16 t1 t4 t5 t8 t31 t32 t33 t46 t47 t48 H' K Kb11 Kb16) : zq42_l16 t1 t4 t5 t8 t31 t32 t33 t46 t47 t48 H K Kb11 :=
 aloop (M := zq42_M) zq42_m16 (fun n F H => ∃ t48, F = zq42_fr16 t1 t4 t5 t8 t31 t32 t33 t46 t47 t48 ∧ Inv n t48 H) n (fun hs _ => ⟨t48, rfl, h0 hs⟩) (fun n F H' ⟨t48, hF, hI⟩ h1 h2 h3 => by subst hF; rw [zq42_b16_eq]; exact round n t48 H' hI h1 h2 h3 _ (fun _ _ h => h))
theorem zq42_b11_eq (t1 t4 t5 t31 t32 t33 : AV) (H : Heap) (K : Kt) (Kb11 : Lt) : awp tP zq42_M zq42_c11 (roundQ zq42_m11 Kb11 (zq42_Q11 K)) (zq42_fr11 t1 t4 t5 t31 t32 t33) H = zq42_b11 t1 t4 t5 t31 t32 t33 H K Kb11 := by kernel_rfl
theorem zq42_loop11 {t1 t4 t5 t31 t32 t33 : AV} {H : Heap} {K : Kt} (Inv : Nat → AV → Heap → Prop) (n : Nat) (h0 : HSc H → Inv n t33 H)
   (round : ∀ n t33 H', Inv n t33 H' → HSc H' → H.length ≤ H'.length → (zq42_fr11 t1 t4 t5 t31 t32 t33).all (AV.sc H'.length) = true → ∀ Kb11 : Lt, (∀ F'' H'', (∃ n', n' < n ∧ Back H.length (fun F2 H2 => ∃ t33, F2 = zq42_fr11 t1 t4 t5 t31 t32 t33 ∧ Inv n' t33 H2) F'' H'') → Kb11 F'' H'') → zq42_b11 t1 t4 t5 t31 t32 t33 H' K Kb11) : zq42_l11 t1 t4 t5 t31 t32 t33 H K :=
 aloop (M := zq42_M) zq42_m11 (fun n F H => ∃ t33, F = zq42_fr11 t1 t4 t5 t31 t32 t33 ∧ Inv n t33 H) n (fun hs _ => ⟨t33, rfl, h0 hs⟩) (fun n F H' ⟨t33, hF, hI⟩ h1 h2 h3 => by subst hF; rw [zq42_b11_eq]; exact round n t33 H' hI h1 h2 h3 _ (fun _ _ h => h))
theorem zq42_b5_eq (t1 t4 t5 t18 t19 t20 : AV) (H : Heap) (K : Kt) (Kb5 : Lt) : awp tP zq42_M zq42_c5 (roundQ zq42_m5 Kb5 (zq42_Q5 K)) (zq42_fr5 t1 t4 t5 t18 t19 t20) H = zq42_b5 t1 t4 t5 t18 t19 t20 H K Kb5 := by kernel_rfl
theorem zq42_loop5 {t1 t4 t5 t18 t19 t20 : AV} {H : Heap} {K : Kt} (Inv : Nat → AV → Heap → Prop) (n : Nat) (h0 : HSc H → Inv n t20 H)
   (round : ∀ n t20 H', Inv n t20 H' → HSc H' → H.length ≤ H'.length → (zq42_fr5 t1 t4 t5 t18 t19 t20).all (AV.sc H'.length) = true → ∀ Kb5 : Lt, (∀ F'' H'', (∃ n', n' < n ∧ Back H.length (fun F2 H2 => ∃ t20, F2 = zq42_fr5 t1 t4 t5 t18 t19 t20 ∧ Inv n' t20 H2) F'' H'') → Kb5 F'' H'') → zq42_b5 t1 t4 t5 t18 t19 t20 H' K Kb5) : zq42_l5 t1 t4 t5 t18 t19 t20 H K :=
 aloop (M := zq42_M) zq42_m5 (fun n F H => ∃ t20, F = zq42_fr5 t1 t4 t5 t18 t19 t20 ∧ Inv n t20 H) n (fun hs _ => ⟨t20, rfl, h0 hs⟩) (fun n F H' ⟨t20, hF, hI⟩ h1 h2 h3 => by subst hF; rw [zq42_b5_eq]; exact round n t20 H' hI h1 h2 h3 _ (fun _ _ h => h))
theorem zq42_eq (t0 : AV) (H : Heap) (K : Kt) : awp tP zq42_M zq42_c (retQ tP zq42_r K) (t0 :: List.replicate 74 .unk) H = zq42 t0 H K := by kernel_rfl
theorem zq42_ok {t0 : AV} {H : Heap} {K : Kt} (h : HSc H → zq42 t0 H K) : ACalls tP n_zq42 [t0] H K :=
 acalls_body (M := zq42_M) Try.func44 (c := zq42_c) (by kernel_rfl) (fun hs => (zq42_eq t0 H K).mpr (h hs))
def zq43_M : Nat → List Bool
 | 5 => rl false [1,1,2,2,12,3,41]
 | 11 => rl false [1,1,2,2,32,3,21]
 | 14 => rl false [1,1,2,2,32,3,4,3,14]
 | _ => []
noncomputable def zq43_c : Code := Try.f45.body.getD .skip
noncomputable def zq43_r : List ResultVar := Try.f45.results.toList
def zq43_fr5 (t1 t4 t5 t18 t19 t20 : AV) : List AV := ux 1 (t1 :: ux 2 (t4 :: t5 :: ux 12 (t18 :: t19 :: t20 :: ux 41 [])))
def zq43_m5 : List Bool := zq43_M 5
noncomputable def zq43_c5 : Code := codeAt [1, 1, 1, 1, 0, 1, 0, 0] zq43_c
def zq43_Q5 (K : Kt) : AExit → List AV → Heap → Prop := contAt tP zq43_M [1, 1, 1, 1, 0, 1, 0] zq43_c (retQ tP zq43_r K)
def zq43_l5 (t1 t4 t5 t18 t19 t20 : AV) (H : Heap) (K : Kt) : Prop := ALoop tP zq43_c5 (zq43_Q5 K) (zq43_fr5 t1 t4 t5 t18 t19 t20) H
def zq43_fr11 (t1 t4 t5 t38 t39 t40 : AV) : List AV := ux 1 (t1 :: ux 2 (t4 :: t5 :: ux 32 (t38 :: t39 :: t40 :: ux 21 [])))
def zq43_m11 : List Bool := zq43_M 11
noncomputable def zq43_c11 : Code := codeAt [1, 1, 1, 1, 1, 0, 1, 0, 0] zq43_c
def zq43_Q11 (K : Kt) : AExit → List AV → Heap → Prop := contAt tP zq43_M [1, 1, 1, 1, 1, 0, 1, 0] zq43_c (retQ tP zq43_r K)
def zq43_l11 (t1 t4 t5 t38 t39 t40 : AV) (H : Heap) (K : Kt) : Prop := ALoop tP zq43_c11 (zq43_Q11 K) (zq43_fr11 t1 t4 t5 t38 t39 t40) H
def zq43_fr14 (t1 t4 t5 t38 t39 t40 t45 t46 t47 : AV) : List AV := ux 1 (t1 :: ux 2 (t4 :: t5 :: ux 32 (t38 :: t39 :: t40 :: ux 4 (t45 :: t46 :: t47 :: ux 14 []))))
def zq43_m14 : List Bool := zq43_M 14
noncomputable def zq43_c14 : Code := codeAt [1, 1, 0, 0, 1, 1, 0, 0] zq43_c11
def zq43_Q14 (K : Kt) (Kb11 : Lt) : AExit → List AV → Heap → Prop := contAt tP zq43_M [1, 1, 0, 0, 1, 1, 0] zq43_c11 (roundQ zq43_m11 Kb11 (zq43_Q11 K))
def zq43_l14 (t1 t4 t5 t38 t39 t40 t45 t46 t47 : AV) (H : Heap) (K : Kt) (Kb11 : Lt) : Prop := ALoop tP zq43_c14 (zq43_Q14 K Kb11) (zq43_fr14 t1 t4 t5 t38 t39 t40 t45 t46 t47) H
def zq43_b14 (t1 t4 t5 t38 t39 t40 t45 t46 t47 : AV) (H : Heap) (K : Kt) (Kb11 : Lt) (Kb14 : Lt) : Prop :=
 aBin .lss false t47 t46 fun t48 =>
 aTest t48
 (aIdxA 1 t45 t47 fun t49 =>
 aLoad false 1 t49 H fun t50 =>
 aCallV tP t5 [t50] H fun t53 H =>
 aUn .not t53 fun t54 =>
 aTest t54
 (K (.bool false) H)
 (aBin .add false t47 (.int .i64 1) fun t55 =>
 Kb14 (zq43_fr14 t1 t4 t5 t38 t39 t40 t45 t46 t55) H))
 (aBin .add false t40 (.int .i64 1) fun t56 =>
 Kb11 (zq43_fr11 t1 t4 t5 t38 t39 t56) H)
def zq43_b11 (t1 t4 t5 t38 t39 t40 : AV) (H : Heap) (K : Kt) (Kb11 : Lt) : Prop :=
 aBin .lss false t40 t39 fun t41 =>
 aTest t41
 (aIdxA 8 t38 t40 fun t42 =>
 aLoad true 8 t42 H fun t43 =>
 aNew [(.int .i64 0), (.int .i64 0), .snil, .snil, .snil, (.int .i64 0), (.int .i64 0), .snil] H fun t9 H =>
 aStore 8 t9 t43 H fun H =>
 aFld 3 t9 fun t44 =>
 aLoad false 1 t44 H fun t45 =>
 aLen 1 t45 fun t46 =>
 zq43_l14 t1 t4 t5 t38 t39 t40 t45 t46 (.int .i64 0) H K Kb11)
 (aLoad false 1 t4 H fun t57 =>
 aFld 2 t1 fun t58 =>
 aLoad false 1 t58 H fun t59 =>
 aLen 1 t59 fun t60 =>
 aBin .eql false t57 t60 fun t61 =>
 K t61 H)
def zq43_b5 (t1 t4 t5 t18 t19 t20 : AV) (H : Heap) (K : Kt) (Kb5 : Lt) : Prop :=
 aBin .lss false t20 t19 fun t21 =>
 aTest t21
 (aIdxA 7 t18 t20 fun t22 =>
 aLoad true 7 t22 H fun t23 =>
 aNew [(.str []), .snil, .snil, (.int .i64 0), (.int .i64 0), .snil, (.int .i64 0)] H fun t7 H =>
 aStore 7 t7 t23 H fun H =>
 aFld 1 t7 fun t25 =>
 aLoad false 1 t25 H fun t26 =>
 aCallV tP t5 [t26] H fun t27 H =>
 aUn .not t27 fun t28 =>
 aGuardJ t28 false H (fun k => k t5 H) fun t30 H =>
 aGuardJ t28 false H (fun k => aFld 2 t7 (k · H)) fun t31 H =>
 aGuardJ t28 false H (fun k => aLoad false 1 t31 H (k · H)) fun t32 H =>
 aGuardJ t28 false H (fun k => aCallV tP t30 [t32] H k) fun t33 H =>
 aGuardJ t28 false H (fun k => aUn .not t33 (k · H)) fun t34 H =>
 aPick t28 (.bool true) t34 fun t35 =>
 aTest t35
 (K (.bool false) H)
 (aBin .add false t20 (.int .i64 1) fun t36 =>
 Kb5 (zq43_fr5 t1 t4 t5 t18 t19 t36) H))
 (aFld 3 t1 fun t37 =>
 aLoad false 1 t37 H fun t38 =>
 aLen 1 t38 fun t39 =>
 zq43_l11 t1 t4 t5 t38 t39 (.int .i64 0) H K)
def zq43 (t0 : AV) (H : Heap) (K : Kt) : Prop :=
 aBox t0 H fun t1 H =>
 aFld 2 t1 fun t12 =>
 aLoad false 1 t12 H fun t13 =>
 aLen 1 t13 fun t14 =>
 aMake 1 [(.bool false)] t14 t14 H fun t15 H =>
 aNew [.snil] H fun t3 H =>
 aStore 1 t3 t15 H fun H =>
 aNew [(.int .i64 0)] H fun t4 H =>
 aStore 1 t4 (.int .i64 0) H fun H =>
 aClos n_zq71 [t3, t4] fun t16 =>
 aFld 1 t1 fun t17 =>
 aLoad false 1 t17 H fun t18 =>
 aLen 1 t18 fun t19 =>
 zq43_l5 t1 t4 t16 t18 t19 (.int .i64 0) H K
theorem zq43_b14_eq (t1 t4 t5 t38 t39 t40 t45 t46 t47 : AV) (H : Heap) (K : Kt) (Kb11 : Lt) (Kb14 : Lt) : awp tP zq43_M zq43_c14 (roundQ zq43_m14 Kb14 (zq43_Q14 K Kb11)) (zq43_fr14 t1 t4 t5 t38 t39 t40 t45 t46 t47) H = zq43_b14 t1 t4 t5 t38 t39 t40 t45 t46 t47 H K Kb11 Kb14 := by kernel_rfl
theorem zq43_loop14 {t1 t4 t5 t38 t39 t40 t45 t46 t47 : AV} {H : Heap} {K : Kt} {Kb11 : Lt} (Inv : Nat → AV → Heap → Prop) (n : Nat) (h0 : HSc H → Inv n t47 H)
   (round : ∀ n t47 H', Inv n t47 H' → HSc H' → H.length ≤ H'.length → (zq43_fr14 t1 t4 t5 t38 t39 t40 t45 t46 t47).all (AV.sc H'.length) = true → ∀ Kb14 : Lt, (∀ F'' H'', (∃ n', n' < n ∧ Back H.length (fun F2 H2 => ∃ t47, F2 = zq43_fr14 t1 t4 t5 t38 t39 t40 t45 t46 t47 ∧ Inv n' t47 H2) F'' H'') → Kb14 F'' H'') → zq43_b14 t1 t4 t5 t38 t39 t40 t45 t46 t47 H' K Kb11 Kb14) : zq43_l14 t1 t4 t5 t38 t39 t40 t45 t46 t47 H K Kb11 :=
 aloop (M := zq43_M) zq43_m14 (fun n F H => ∃ t47, F = zq43_fr14 t1 t4 t5 t38 t39 t40 t45 t46 t47 ∧ Inv n t47 H) n (fun hs _ => ⟨t47, rfl, h0 hs⟩) (fun n F H' ⟨t47, hF, hI⟩ h1 h2 h3 => by subst hF; rw [zq43_b14_eq]; exact round n t47 H' hI h1 h2 h3 _ (fun _ _ h => h))
theorem zq43_b11_eq (t1 t4 t5 t38 t39 t40 : AV) (H : Heap) (K : Kt) (Kb11 : Lt) : awp tP zq43_M zq43_c11 (roundQ zq43_m11 Kb11 (zq43_Q11 K)) (zq43_fr11 t1 t4 t5 t38 t39 t40) H = zq43_b11 t1 t4 t5 t38 t39 t40 H K Kb11 := by kernel_rfl
theorem zq43_loop11 {t1 t4 t5 t38 t39 t40 : AV} {H : Heap} {K : Kt} (Inv : Nat → AV → Heap → Prop) (n : Nat) (h0 : HSc H → Inv n t40 H)
   (round : ∀ n t40 H', Inv n t40 H' → HSc H' → H.length ≤ H'.length → (zq43_fr11 t1 t4 t5 t38 t39 t40).all (AV.sc H'.length) = true → ∀ Kb11 : Lt, (∀ F'' H'', (∃ n', n' < n ∧ Back H.length (fun F2 H2 => ∃ t40, F2 = zq43_fr11 t1 t4 t5 t38 t39 t40 ∧ Inv n' t40 H2) F'' H'') → Kb11 F'' H'') → zq43_b11 t1 t4 t5 t38 t39 t40 H' K Kb11) : zq43_l11 t1 t4 t5 t38 t39 t40 H K :=
 aloop (M := zq43_M) zq43_m11 (fun n F H => ∃ t40, F = zq43_fr11 t1 t4 t5 t38 t39 t40 ∧ Inv n t40 H) n (fun hs _ => ⟨t40, rfl, h0 hs⟩) (fun n F H' ⟨t40, hF, hI⟩ h1 h2 h3 => by subst hF; rw [zq43_b11_eq]; exact round n t40 H' hI h1 h2 h3 _ (fun _ _ h => h))
theorem zq43_b5_eq (t1 t4 t5 t18 t19 t20 : AV) (H : Heap) (K : Kt) (Kb5 : Lt) : awp tP zq43_M zq43_c5 (roundQ zq43_m5 Kb5 (zq43_Q5 K)) (zq43_fr5 t1 t4 t5 t18 t19 t20) H = zq43_b5 t1 t4 t5 t18 t19 t20 H K Kb5 := by kernel_rfl
theorem zq43_loop5 {t1 t4 t5 t18 t19 t20 : AV} {H : Heap} {K : Kt} (Inv : Nat → AV → Heap → Prop) (n : Nat) (h0 : HSc H → Inv n t20 H)
   (round : ∀ n t20 H', Inv n t20 H' → HSc H' → H.length ≤ H'.length → (zq43_fr5 t1 t4 t5 t18 t19 t20).all (AV.sc H'.length) = true → ∀ Kb5 : Lt, (∀ F'' H'', (∃ n', n' < n ∧ Back H.length (fun F2 H2 => ∃ t20, F2 = zq43_fr5 t1 t4 t5 t18 t19 t20 ∧ Inv n' t20 H2) F'' H'') → Kb5 F'' H'') → zq43_b5 t1 t4 t5 t18 t19 t20 H' K Kb5) : zq43_l5 t1 t4 t5 t18 t19 t20 H K :=
 aloop (M := zq43_M) zq43_m5 (fun n F H => ∃ t20, F = zq43_fr5 t1 t4 t5 t18 t19 t20 ∧ Inv n t20 H) n (fun hs _ => ⟨t20, rfl, h0 hs⟩) (fun n F H' ⟨t20, hF, hI⟩ h1 h2 h3 => by subst hF; rw [zq43_b5_eq]; exact round n t20 H' hI h1 h2 h3 _ (fun _ _ h => h))
theorem zq43_eq (t0 : AV) (H : Heap) (K : Kt) : awp tP zq43_M zq43_c (retQ tP zq43_r K) (t0 :: List.replicate 61 .unk) H = zq43 t0 H K := by kernel_rfl
theorem zq43_ok {t0 : AV} {H : Heap} {K : Kt} (h : HSc H → zq43 t0 H K) : ACalls tP n_zq43 [t0] H K :=
 acalls_body (M := zq43_M) Try.func45 (c := zq43_c) (by kernel_rfl) (fun hs => (zq43_eq t0 H K).mpr (h hs))
def zq44_M : Nat → List Bool
 | 6 => rl false [4,2,9,3,25]
 | _ => []
noncomputable def zq44_c : Code := Try.f46.body.getD .skip
noncomputable def zq44_r : List ResultVar := Try.f46.results.toList
def zq44_fr6 (t4 t5 t15 t16 t17 : AV) : List AV := ux 4 (t4 :: t5 :: ux 9 (t15 :: t16 :: t17 :: ux 25 []))
def zq44_m6 : List Bool := zq44_M 6
noncomputable def zq44_c6 : Code := codeAt [1, 1, 1, 1, 1, 0, 1, 0, 0] zq44_c
def zq44_Q6 (K : Kt) : AExit → List AV → Heap → Prop := contAt tP zq44_M [1, 1, 1, 1, 1, 0, 1, 0] zq44_c (retQ tP zq44_r K)
def zq44_l6 (t4 t5 t15 t16 t17 : AV) (H : Heap) (K : Kt) : Prop := ALoop tP zq44_c6 (zq44_Q6 K) (zq44_fr6 t4 t5 t15 t16 t17) H
def zq44_b6 (t4 t5 t15 t16 t17 : AV) (H : Heap) (K : Kt) (Kb6 : Lt) : Prop :=
 aBin .lss false t17 t16 fun t18 =>
 aTest t18
 (aIdxA 7 t15 t17 fun t19 =>
 aLoad true 7 t19 H fun t20 =>
 aNew [(.str []), .snil, .snil, (.int .i64 0), (.int .i64 0), .snil, (.int .i64 0)] H fun t7 H =>
 aStore 7 t7 t20 H fun H =>
 aLoad false 1 t4 H fun t21 =>
 aFld 1 t7 fun t22 =>
 aLoad false 1 t22 H fun t23 =>
 aCallV tP t21 [t23, (.bool true)] H fun t24 H =>
 aLoad false 1 t4 H fun t25 =>
 aFld 2 t7 fun t26 =>
 aLoad false 1 t26 H fun t27 =>
 aCallV tP t25 [t27, (.bool true)] H fun t28 H =>
 aLoad false 1 t5 H fun t29 =>
 aFld 6 t7 fun t30 =>
 aLoad false 1 t30 H fun t31 =>
 aCallV tP t29 [t31] H fun t32 H =>
 aUn .not t32 fun t33 =>
 aTest t33
 (K (.bool false) H)
 (aLoad false 1 t4 H fun t34 =>
 aFld 1 t7 fun t35 =>
 aLoad false 1 t35 H fun t36 =>
 aCallV tP t34 [t36, (.bool false)] H fun t37 H =>
 aLoad false 1 t4 H fun t38 =>
 aFld 2 t7 fun t39 =>
 aLoad false 1 t39 H fun t40 =>
 aCallV tP t38 [t40, (.bool false)] H fun t41 H =>
 aBin .add false t17 (.int .i64 1) fun t42 =>
 Kb6 (zq44_fr6 t4 t5 t15 t16 t42) H))
 (K (.bool true) H)
def zq44 (t0 : AV) (H : Heap) (K : Kt) : Prop :=
 aBox t0 H fun t1 H =>
 aFld 2 t1 fun t8 =>
 aLoad false 1 t8 H fun t9 =>
 aLen 1 t9 fun t10 =>
 aMake 1 [(.bool false)] t10 t10 H fun t11 H =>
 aNew [.snil] H fun t3 H =>
 aStore 1 t3 t11 H fun H =>
 aClos n_zq72 [t3] fun t12 =>
 aNew [.nilfn] H fun t4 H =>
 aStore 1 t4 t12 H fun H =>
 aNew [.nilfn] H fun t5 H =>
 aClos n_zq73 [t1, t3, t4, t5] fun t13 =>
 aStore 1 t5 t13 H fun H =>
 aFld 1 t1 fun t14 =>
 aLoad false 1 t14 H fun t15 =>
 aLen 1 t15 fun t16 =>
 zq44_l6 t4 t5 t15 t16 (.int .i64 0) H K
theorem zq44_b6_eq (t4 t5 t15 t16 t17 : AV) (H : Heap) (K : Kt) (Kb6 : Lt) : awp tP zq44_M zq44_c6 (roundQ zq44_m6 Kb6 (zq44_Q6 K)) (zq44_fr6 t4 t5 t15 t16 t17) H = zq44_b6 t4 t5 t15 t16 t17 H K Kb6 := by kernel_rfl
theorem zq44_loop6 {t4 t5 t15 t16 t17 : AV} {H : Heap} {K : Kt} (Inv : Nat → AV → Heap → Prop) (n : Nat) (h0 : HSc H → Inv n t17 H)
   (round : ∀ n t17 H', Inv n t17 H' → HSc H' → H.length ≤ H'.length → (zq44_fr6 t4 t5 t15 t16 t17).all (AV.sc H'.length) = true → ∀ Kb6 : Lt, (∀ F'' H'', (∃ n', n' < n ∧ Back H.length (fun F2 H2 => ∃ t17, F2 = zq44_fr6 t4 t5 t15 t16 t17 ∧ Inv n' t17 H2) F'' H'') → Kb6 F'' H'') → zq44_b6 t4 t5 t15 t16 t17 H' K Kb6) : zq44_l6 t4 t5 t15 t16 t17 H K :=
 aloop (M := zq44_M) zq44_m6 (fun n F H => ∃ t17, F = zq44_fr6 t4 t5 t15 t16 t17 ∧ Inv n t17 H) n (fun hs _ => ⟨t17, rfl, h0 hs⟩) (fun n F H' ⟨t17, hF, hI⟩ h1 h2 h3 => by subst hF; rw [zq44_b6_eq]; exact round n t17 H' hI h1 h2 h3 _ (fun _ _ h => h))
theorem zq44_eq (t0 : AV) (H : Heap) (K : Kt) : awp tP zq44_M zq44_c (retQ tP zq44_r K) (t0 :: List.replicate 42 .unk) H = zq44 t0 H K := by kernel_rfl
theorem zq44_ok {t0 : AV} {H : Heap} {K : Kt} (h : HSc H → zq44 t0 H K) : ACalls tP n_zq44 [t0] H K :=
 acalls_body (M := zq44_M) Try.func46 (c := zq44_c) (by kernel_rfl) (fun hs => (zq44_eq t0 H K).mpr (h hs))
def zq45_M : Nat → List Bool
 | 3 => rl false [1,1,1,1,12,3,30]
 | 9 => rl false [3,1,24,3,18]
 | _ => []
noncomputable def zq45_c : Code := Try.f47.body.getD .skip
noncomputable def zq45_r : List ResultVar := Try.f47.results.toList
def zq45_fr3 (t1 t3 t16 t17 t18 : AV) : List AV := ux 1 (t1 :: ux 1 (t3 :: ux 12 (t16 :: t17 :: t18 :: ux 30 [])))
def zq45_m3 : List Bool := zq45_M 3
noncomputable def zq45_c3 : Code := codeAt [1, 1, 0, 1, 0, 0] zq45_c
def zq45_Q3 (K : Kt) : AExit → List AV → Heap → Prop := contAt tP zq45_M [1, 1, 0, 1, 0] zq45_c (retQ tP zq45_r K)
def zq45_l3 (t1 t3 t16 t17 t18 : AV) (H : Heap) (K : Kt) : Prop := ALoop tP zq45_c3 (zq45_Q3 K) (zq45_fr3 t1 t3 t16 t17 t18) H
def zq45_fr9 (t3 t28 t29 t30 : AV) : List AV := ux 3 (t3 :: ux 24 (t28 :: t29 :: t30 :: ux 18 []))
def zq45_m9 : List Bool := zq45_M 9
noncomputable def zq45_c9 : Code := codeAt [1, 1, 1, 0, 1, 0, 0] zq45_c
def zq45_Q9 (K : Kt) : AExit → List AV → Heap → Prop := contAt tP zq45_M [1, 1, 1, 0, 1, 0] zq45_c (retQ tP zq45_r K)
def zq45_l9 (t3 t28 t29 t30 : AV) (H : Heap) (K : Kt) : Prop := ALoop tP zq45_c9 (zq45_Q9 K) (zq45_fr9 t3 t28 t29 t30) H
def zq45_b9 (t3 t28 t29 t30 : AV) (H : Heap) (K : Kt) (Kb9 : Lt) : Prop :=
 aBin .lss false t30 t29 fun t31 =>
 aTest t31
 (aIdxA 7 t28 t30 fun t33 =>
 aLoad true 7 t33 H fun t34 =>
 aNew [(.str []), .snil, .snil, (.int .i64 0), (.int .i64 0), .snil, (.int .i64 0)] H fun t7 H =>
 aStore 7 t7 t34 H fun H =>
 aFld 0 t7 fun t35 =>
 aLoad false 1 t35 H fun t36 =>
 aBin .eql false t36 (.str []) fun t37 =>
 aGuardJ t37 true H (fun k => k t3 H) fun t39 H =>
 aGuardJ t37 true H (fun k => aNil t39 (k · H)) fun t40 H =>
 aGuardJ t37 true H (fun k => aFld 4 t40 (k · H)) fun t41 H =>
 aGuardJ t37 true H (fun k => aLoad false 1 t41 H (k · H)) fun t42 H =>
 aGuardJ t37 true H (fun k => k t30 H) fun t43 H =>
 aGuardJ t37 true H (fun k => aIdxA 1 t42 t43 (k · H)) fun t44 H =>
 aGuardJ t37 true H (fun k => aLoad false 1 t44 H (k · H)) fun t45 H =>
 aGuardJ t37 true H (fun k => aBin .neq false t45 (.int .i64 1) (k · H)) fun t46 H =>
 aPick t37 t46 (.bool false) fun t47 =>
 aTest t47
 (K (.bool false) H)
 (aBin .add false t30 (.int .i64 1) fun t48 =>
 Kb9 (zq45_fr9 t3 t28 t29 t48) H))
 (K (.bool true) H)
def zq45_b3 (t1 t3 t16 t17 t18 : AV) (H : Heap) (K : Kt) (Kb3 : Lt) : Prop :=
 aBin .lss false t18 t17 fun t19 =>
 aTest t19
 (aIdxA 8 t16 t18 fun t20 =>
 aLoad true 8 t20 H fun t21 =>
 aNew [(.int .i64 0), (.int .i64 0), .snil, .snil, .snil, (.int .i64 0), (.int .i64 0), .snil] H fun t5 H =>
 aStore 8 t5 t21 H fun H =>
 aLoad true 8 t5 H fun t23 =>
 ACalls tP n_zq74 [t3, t23] H fun t24 H =>
 aUn .not t24 fun t25 =>
 aTest t25
 (K (.bool false) H)
 (aBin .add false t18 (.int .i64 1) fun t26 =>
 Kb3 (zq45_fr3 t1 t3 t16 t17 t26) H))
 (aFld 1 t1 fun t27 =>
 aLoad false 1 t27 H fun t28 =>
 aLen 1 t28 fun t29 =>
 zq45_l9 t3 t28 t29 (.int .i64 0) H K)
def zq45 (t0 : AV) (H : Heap) (K : Kt) : Prop :=
 aBox t0 H fun t1 H =>
 aPure H (fun k => aLoad true 4 t1 H (k · H)) fun t8 =>
 aPure H (fun k => aFld 1 t1 (k · H)) fun t9 =>
 aPure H (fun k => aLoad false 1 t9 H (k · H)) fun t10 =>
 aPure H (fun k => aLen 1 t10 (k · H)) fun t11 =>
 aMake 8 [(.int .i64 0)] t11 t11 H fun t12 H =>
 aPure H (fun k => aBuild [.snil, .snil, .snil, .snil, .snil] [(0, 4), (4, 1)] [(0, t8), (1, t12)] (k · H)) fun t13 =>
 aBox t13 H fun t14 H =>
 aPure H (fun k => k t14 H) fun t3 =>
 aFld 3 t1 fun t15 =>
 aLoad false 1 t15 H fun t16 =>
 aLen 1 t16 fun t17 =>
 zq45_l3 t1 t3 t16 t17 (.int .i64 0) H K
theorem zq45_b9_eq (t3 t28 t29 t30 : AV) (H : Heap) (K : Kt) (Kb9 : Lt) : awp tP zq45_M zq45_c9 (roundQ zq45_m9 Kb9 (zq45_Q9 K)) (zq45_fr9 t3 t28 t29 t30) H = zq45_b9 t3 t28 t29 t30 H K Kb9 := by kernel_rfl
theorem zq45_loop9 {t3 t28 t29 t30 : AV} {H : Heap} {K : Kt} (Inv : Nat → AV → Heap → Prop) (n : Nat) (h0 : HSc H → Inv n t30 H)
   (round : ∀ n t30 H', Inv n t30 H' → HSc H' → H.length ≤ H'.length → (zq45_fr9 t3 t28 t29 t30).all (AV.sc H'.length) = true → ∀ Kb9 : Lt, (∀ F'' H'', (∃ n', n' < n ∧ Back H.length (fun F2 H2 => ∃ t30, F2 = zq45_fr9 t3 t28 t29 t30 ∧ Inv n' t30 H2) F'' H'') → Kb9 F'' H'') → zq45_b9 t3 t28 t29 t30 H' K Kb9) : zq45_l9 t3 t28 t29 t30 H K :=
 aloop (M := zq45_M) zq45_m9 (fun n F H => ∃ t30, F = zq45_fr9 t3 t28 t29 t30 ∧ Inv n t30 H) n (fun hs _ => ⟨t30, rfl, h0 hs⟩) (fun n F H' ⟨t30, hF, hI⟩ h1 h2 h3 => by subst hF; rw [zq45_b9_eq]; exact round n t30 H' hI h1 h2 h3 _ (fun _ _ h => h))
theorem zq45_b3_eq (t1 t3 t16 t17 t18 : AV) (H : Heap) (K : Kt) (Kb3 : Lt) : awp tP zq45_M zq45_c3 (roundQ zq45_m3 Kb3 (zq45_Q3 K)) (zq45_fr3 t1 t3 t16 t17 t18) H = zq45_b3 t1 t3 t16 t17 t18 H K Kb3 := by kernel_rfl
theorem zq45_loop3 {t1 t3 t16 t17 t18 : AV} {H : Heap} {K : Kt} (Inv : Nat → AV → Heap → Prop) (n : Nat) (h0 : HSc H → Inv n t18 H)
   (round : ∀ n t18 H', Inv n t18 H' → HSc H' → H.length ≤ H'.length → (zq45_fr3 t1 t3 t16 t17 t18).all (AV.sc H'.length) = true → ∀ Kb3 : Lt, (∀ F'' H'', (∃ n', n' < n ∧ Back H.length (fun F2 H2 => ∃ t18, F2 = zq45_fr3 t1 t3 t16 t17 t18 ∧ Inv n' t18 H2) F'' H'') → Kb3 F'' H'') → zq45_b3 t1 t3 t16 t17 t18 H' K Kb3) : zq45_l3 t1 t3 t16 t17 t18 H K :=
 aloop (M := zq45_M) zq45_m3 (fun n F H => ∃ t18, F = zq45_fr3 t1 t3 t16 t17 t18 ∧ Inv n t18 H) n (fun hs _ => ⟨t18, rfl, h0 hs⟩) (fun n F H' ⟨t18, hF, hI⟩ h1 h2 h3 => by subst hF; rw [zq45_b3_eq]; exact round n t18 H' hI h1 h2 h3 _ (fun _ _ h => h))
theorem zq45_eq (t0 : AV) (H : Heap) (K : Kt) : awp tP zq45_M zq45_c (retQ tP zq45_r K) (t0 :: List.replicate 48 .unk) H = zq45 t0 H K := by kernel_rfl
theorem zq45_ok {t0 : AV} {H : Heap} {K : Kt} (h : HSc H → zq45 t0 H K) : ACalls tP n_zq45 [t0] H K :=
 acalls_body (M := zq45_M) Try.func47 (c := zq45_c) (by kernel_rfl) (fun hs => (zq45_eq t0 H K).mpr (h hs))
def zq65_M : Nat → List Bool
 | 6 => rl false [0,2,6,1,18,3,29]
 | _ => []
noncomputable def zq65_c : Code := Try.f67.body.getD .skip
noncomputable def zq65_r : List ResultVar := Try.f67.results.toList
def zq65_fr6 (t0 t1 t8 t27 t28 t29 : AV) : List AV := t0 :: t1 :: ux 6 (t8 :: ux 18 (t27 :: t28 :: t29 :: ux 29 []))
def zq65_m6 : List Bool := zq65_M 6
noncomputable def zq65_c6 : Code := codeAt [1, 1, 1, 1, 0, 1, 0, 0] zq65_c
def zq65_Q6 (K : Kt) : AExit → List AV → Heap → Prop := contAt tP zq65_M [1, 1, 1, 1, 0, 1, 0] zq65_c (retQ tP zq65_r K)
def zq65_l6 (t0 t1 t8 t27 t28 t29 : AV) (H : Heap) (K : Kt) : Prop := ALoop tP zq65_c6 (zq65_Q6 K) (zq65_fr6 t0 t1 t8 t27 t28 t29) H
def zq65_b6 (t0 t1 t8 t27 t28 t29 : AV) (H : Heap) (K : Kt) (Kb6 : Lt) : Prop :=
 aBin .lss false t29 t28 fun t30 =>
 aTest t30
 (aIdxA 3 t27 t29 fun t32 =>
 aLoad true 3 t32 H fun t33 =>
 aNew [(.int .i64 0), (.int .i64 0), .snil] H fun t10 H =>
 aStore 3 t10 t33 H fun H =>
 aPure H (fun k => k t0 H) fun t34 =>
 aPure H (fun k => k t1 H) fun t35 =>
 aPure H (fun k => aBin .add false t35 (.int .i64 1) (k · H)) fun t36 =>
 aPure H (fun k => aSlice 1 3 t34 none (some t36) (k · H)) fun t37 =>
 aPure H (fun k => aLoad true 3 t10 H (k · H)) fun t38 =>
 aPure H (fun k => k t0 H) fun t39 =>
 aPure H (fun k => k t1 H) fun t40 =>
 aPure H (fun k => aIdxA 3 t39 t40 (k · H)) fun t41 =>
 aPure H (fun k => aFld 1 t41 (k · H)) fun t42 =>
 aPure H (fun k => aLoad false 1 t42 H (k · H)) fun t43 =>
 aPureX H (fun H k => ACalls tP n_zq68 [t37, t38, t43] H k) fun t44 =>
 aPure H (fun k => aUn .not t44 (k · H)) fun t45 =>
 aPure H (fun k => k t45 H) fun t46 =>
 aGuardJ t46 false H (fun k => aPure H (fun l => l t8 H) (k · H)) fun t47 H =>
 aGuardJ t46 false H (fun k => aPure H (fun l => l t29 H) (k · H)) fun t48 H =>
 aGuardJ t46 false H (fun k => aPure H (fun l => aIdxA 1 t47 t48 (l · H)) (k · H)) fun t49 H =>
 aGuardJ t46 false H (fun k => aPure H (fun l => aLoad false 1 t49 H (l · H)) (k · H)) fun t50 H =>
 aGuardJ t46 false H (fun k => aPure H (fun l => aUn .not t50 (l · H)) (k · H)) fun t51 H =>
 aGuardJ t46 false H (fun k => aPure H (fun l => l t51 H) (k · H)) fun t52 H =>
 aGuardJ t52 true H (fun k => aPure H (fun l => aLoad true 3 t10 H (l · H)) (k · H)) fun t53 H =>
 aGuardJ t52 true H (fun k => aPure H (fun l => l t1 H) (k · H)) fun t54 H =>
 aGuardJ t52 true H (fun k => aPureX H (fun H l => ACalls tP n_zq84 [t53, t54] H l) (k · H)) fun t55 H =>
 aGuardJ t46 false H (fun k => aPure H (fun l => aPick t52 t55 (.bool false) (l · H)) (k · H)) fun t56 H =>
 aPure H (fun k => aPick t46 (.bool true) t56 (k · H)) fun t57 =>
 aTest t57
 (K (.bool false) H)
 (aBin .add false t29 (.int .i64 1) fun t58 =>
 Kb6 (zq65_fr6 t0 t1 t8 t27 t28 t58) H))
 (K (.bool true) H)
def zq65 (t0 t1 t2 : AV) (H : Heap) (K : Kt) : Prop :=
 aIdxA 3 t0 t1 fun t13 =>
 aFld 2 t13 fun t14 =>
 aLoad false 1 t14 H fun t15 =>
 aIdxA 2 t15 t2 fun t17 =>
 aFld 1 t17 fun t18 =>
 aLoad false 1 t18 H fun t19 =>
 aLen 1 t19 fun t21 =>
 aBin .gtr false t21 (.int .i64 6) fun t22 =>
 aTest t22
 (K (.bool false) H)
 (ACalls tP n_zq83 [t0, t1, t2] H fun t26 H =>
 aLen 1 t19 fun t28 =>
 zq65_l6 t0 t1 t26 t19 t28 (.int .i64 0) H K)
theorem zq65_b6_eq (t0 t1 t8 t27 t28 t29 : AV) (H : Heap) (K : Kt) (Kb6 : Lt) : awp tP zq65_M zq65_c6 (roundQ zq65_m6 Kb6 (zq65_Q6 K)) (zq65_fr6 t0 t1 t8 t27 t28 t29) H = zq65_b6 t0 t1 t8 t27 t28 t29 H K Kb6 := by kernel_rfl
theorem zq65_loop6 {t0 t1 t8 t27 t28 t29 : AV} {H : Heap} {K : Kt} (Inv : Nat → AV → Heap → Prop) (n : Nat) (h0 : HSc H → Inv n t29 H)
   (round : ∀ n t29 H', Inv n t29 H' → HSc H' → H.length ≤ H'.length → (zq65_fr6 t0 t1 t8 t27 t28 t29).all (AV.sc H'.length) = true → ∀ Kb6 : Lt, (∀ F'' H'', (∃ n', n' < n ∧ Back H.length (fun F2 H2 => ∃ t29, F2 = zq65_fr6 t0 t1 t8 t27 t28 t29 ∧ Inv n' t29 H2) F'' H'') → Kb6 F'' H'') → zq65_b6 t0 t1 t8 t27 t28 t29 H' K Kb6) : zq65_l6 t0 t1 t8 t27 t28 t29 H K :=
 aloop (M := zq65_M) zq65_m6 (fun n F H => ∃ t29, F = zq65_fr6 t0 t1 t8 t27 t28 t29 ∧ Inv n t29 H) n (fun hs _ => ⟨t29, rfl, h0 hs⟩) (fun n F H' ⟨t29, hF, hI⟩ h1 h2 h3 => by subst hF; rw [zq65_b6_eq]; exact round n t29 H' hI h1 h2 h3 _ (fun _ _ h => h))
theorem zq65_eq (t0 t1 t2 : AV) (H : Heap) (K : Kt) : awp tP zq65_M zq65_c (retQ tP zq65_r K) (t0 :: t1 :: t2 :: List.replicate 56 .unk) H = zq65 t0 t1 t2 H K := by kernel_rfl
theorem zq65_ok {t0 t1 t2 : AV} {H : Heap} {K : Kt} (h : HSc H → zq65 t0 t1 t2 H K) : ACalls tP n_zq65 [t0, t1, t2] H K :=
 acalls_body (M := zq65_M) Try.func67 (c := zq65_c) (by kernel_rfl) (fun hs => (zq65_eq t0 t1 t2 H K).mpr (h hs))
def zq67_M (_ : Nat) : List Bool := []
noncomputable def zq67_c : Code := Try.f69.body.getD .skip
noncomputable def zq67_r : List ResultVar := Try.f69.results.toList
def zq67 (t0 t1 : AV) (H : Heap) (K : Kt) : Prop :=
 aBox t0 H fun t2 H =>
 aFld 0 t1 fun t4 =>
 aLoad false 1 t4 H fun t5 =>
 aLoad true 3 t2 H fun t6 =>
 ACalls tP n_zq68 [t5, t6, (.int .i64 0)] H fun t7 H =>
 aUn .not t7 fun t8 =>
 K t8 H
theorem zq67_eq (t0 t1 : AV) (H : Heap) (K : Kt) : awp tP zq67_M zq67_c (retQ tP zq67_r K) (t0 :: t1 :: List.replicate 7 .unk) H = zq67 t0 t1 H K := by kernel_rfl
theorem zq67_ok {t0 t1 : AV} {H : Heap} {K : Kt} (h : HSc H → zq67 t0 t1 H K) : ACalls tP n_zq67 [t0, t1] H K :=
 acalls_body (M := zq67_M) Try.func69 (c := zq67_c) (by kernel_rfl) (fun hs => (zq67_eq t0 t1 H K).mpr (h hs))
def zq70_M (_ : Nat) : List Bool := []
noncomputable def zq70_c : Code := Try.f72.body.getD .skip
noncomputable def zq70_r : List ResultVar := Try.f72.results.toList
def zq70 (t0 t1 t2 : AV) (H : Heap) (K : Kt) : Prop :=
 aLoad false 1 t1 H fun t5 =>
 aIdxA 1 t5 t0 fun t7 =>
 aLoad false 1 t7 H fun t8 =>
 aTest t8
 (K (.bool false) H)
 (aLoad false 1 t1 H fun t9 =>
 aIdxA 1 t9 t0 fun t11 =>
 aStore 1 t11 (.bool true) H fun H =>
 aLoad false 1 t2 H fun t12 =>
 aBin .add false t12 (.int .i64 1) fun t13 =>
 aStore 1 t2 t13 H fun H =>
 K (.bool true) H)
theorem zq70_eq (t0 t1 t2 : AV) (H : Heap) (K : Kt) : awp tP zq70_M zq70_c (retQ tP zq70_r K) (t0 :: t1 :: t2 :: List.replicate 11 .unk) H = zq70 t0 t1 t2 H K := by kernel_rfl
theorem zq70_ok {t0 t1 t2 : AV} {H : Heap} {K : Kt} (h : HSc H → zq70 t0 t1 t2 H K) : ACalls tP n_zq70 [t0, t1, t2] H K :=
 acalls_body (M := zq70_M) Try.func72 (c := zq70_c) (by kernel_rfl) (fun hs => (zq70_eq t0 t1 t2 H K).mpr (h hs))
def zq71_M : Nat → List Bool
 | 2 => rl false [1,2,4,3,23]
 | _ => []
noncomputable def zq71_c : Code := Try.f73.body.getD .skip
noncomputable def zq71_r : List ResultVar := Try.f73.results.toList
def zq71_fr2 (t1 t2 t7 t8 t9 : AV) : List AV := ux 1 (t1 :: t2 :: ux 4 (t7 :: t8 :: t9 :: ux 23 []))
def zq71_m2 : List Bool := zq71_M 2
noncomputable def zq71_c2 : Code := codeAt [1, 0, 1, 0, 0] zq71_c
def zq71_Q2 (K : Kt) : AExit → List AV → Heap → Prop := contAt tP zq71_M [1, 0, 1, 0] zq71_c (retQ tP zq71_r K)
def zq71_l2 (t1 t2 t7 t8 t9 : AV) (H : Heap) (K : Kt) : Prop := ALoop tP zq71_c2 (zq71_Q2 K) (zq71_fr2 t1 t2 t7 t8 t9) H
def zq71_b2 (t1 t2 t7 t8 t9 : AV) (H : Heap) (K : Kt) (Kb2 : Lt) : Prop :=
 aBin .lss false t9 t8 fun t10 =>
 aTest t10
 (aIdxA 1 t7 t9 fun t11 =>
 aLoad false 1 t11 H fun t12 =>
 aBin .lss false t12 (.int .i64 0) fun t14 =>
 aGuardJ t14 false H (fun k => k t12 H) fun t16 H =>
 aGuardJ t14 false H (fun k => aLoad false 1 t1 H (k · H)) fun t17 H =>
 aGuardJ t14 false H (fun k => aLen 1 t17 (k · H)) fun t18 H =>
 aGuardJ t14 false H (fun k => aBin .geq false t16 t18 (k · H)) fun t19 H =>
 aPick t14 (.bool true) t19 fun t20 =>
 aGuardJ t20 false H (fun k => aLoad false 1 t1 H (k · H)) fun t22 H =>
 aGuardJ t20 false H (fun k => k t12 H) fun t23 H =>
 aGuardJ t20 false H (fun k => aIdxA 1 t22 t23 (k · H)) fun t24 H =>
 aGuardJ t20 false H (fun k => aLoad false 1 t24 H (k · H)) fun t25 H =>
 aPick t20 (.bool true) t25 fun t26 =>
 aTest t26
 (K (.bool false) H)
 (aLoad false 1 t1 H fun t27 =>
 aIdxA 1 t27 t12 fun t29 =>
 aStore 1 t29 (.bool true) H fun H =>
 aLoad false 1 t2 H fun t30 =>
 aBin .add false t30 (.int .i64 1) fun t31 =>
 aStore 1 t2 t31 H fun H =>
 aBin .add false t9 (.int .i64 1) fun t32 =>
 Kb2 (zq71_fr2 t1 t2 t7 t8 t32) H))
 (K (.bool true) H)
def zq71 (t0 t1 t2 : AV) (H : Heap) (K : Kt) : Prop :=
 aLen 1 t0 fun t8 =>
 zq71_l2 t1 t2 t0 t8 (.int .i64 0) H K
theorem zq71_b2_eq (t1 t2 t7 t8 t9 : AV) (H : Heap) (K : Kt) (Kb2 : Lt) : awp tP zq71_M zq71_c2 (roundQ zq71_m2 Kb2 (zq71_Q2 K)) (zq71_fr2 t1 t2 t7 t8 t9) H = zq71_b2 t1 t2 t7 t8 t9 H K Kb2 := by kernel_rfl
theorem zq71_loop2 {t1 t2 t7 t8 t9 : AV} {H : Heap} {K : Kt} (Inv : Nat → AV → Heap → Prop) (n : Nat) (h0 : HSc H → Inv n t9 H)
   (round : ∀ n t9 H', Inv n t9 H' → HSc H' → H.length ≤ H'.length → (zq71_fr2 t1 t2 t7 t8 t9).all (AV.sc H'.length) = true → ∀ Kb2 : Lt, (∀ F'' H'', (∃ n', n' < n ∧ Back H.length (fun F2 H2 => ∃ t9, F2 = zq71_fr2 t1 t2 t7 t8 t9 ∧ Inv n' t9 H2) F'' H'') → Kb2 F'' H'') → zq71_b2 t1 t2 t7 t8 t9 H' K Kb2) : zq71_l2 t1 t2 t7 t8 t9 H K :=
 aloop (M := zq71_M) zq71_m2 (fun n F H => ∃ t9, F = zq71_fr2 t1 t2 t7 t8 t9 ∧ Inv n t9 H) n (fun hs _ => ⟨t9, rfl, h0 hs⟩) (fun n F H' ⟨t9, hF, hI⟩ h1 h2 h3 => by subst hF; rw [zq71_b2_eq]; exact round n t9 H' hI h1 h2 h3 _ (fun _ _ h => h))
theorem zq71_eq (t0 t1 t2 : AV) (H : Heap) (K : Kt) : awp tP zq71_M zq71_c (retQ tP zq71_r K) (t0 :: t1 :: t2 :: List.replicate 30 .unk) H = zq71 t0 t1 t2 H K := by kernel_rfl
theorem zq71_ok {t0 t1 t2 : AV} {H : Heap} {K : Kt} (h : HSc H → zq71 t0 t1 t2 H K) : ACalls tP n_zq71 [t0, t1, t2] H K :=
 acalls_body (M := zq71_M) Try.func73 (c := zq71_c) (by kernel_rfl) (fun hs => (zq71_eq t0 t1 t2 H K).mpr (h hs))
def zq72_M : Nat → List Bool
 | 1 => rl false [1,2,4,3,8]
 | _ => []
noncomputable def zq72_c : Code := Try.f74.body.getD .skip
noncomputable def zq72_r : List ResultVar := Try.f74.results.toList
def zq72_fr1 (t1 t2 t7 t8 t9 : AV) : List AV := ux 1 (t1 :: t2 :: ux 4 (t7 :: t8 :: t9 :: ux 8 []))
def zq72_m1 : List Bool := zq72_M 1
noncomputable def zq72_c1 : Code := codeAt [1, 0, 0] zq72_c
def zq72_Q1 (K : Kt) : AExit → List AV → Heap → Prop := contAt tP zq72_M [1, 0] zq72_c (retQ tP zq72_r K)
def zq72_l1 (t1 t2 t7 t8 t9 : AV) (H : Heap) (K : Kt) : Prop := ALoop tP zq72_c1 (zq72_Q1 K) (zq72_fr1 t1 t2 t7 t8 t9) H
def zq72_b1 (t1 t2 t7 t8 t9 : AV) (H : Heap) (K : Kt) (Kb1 : Lt) : Prop :=
 aBin .lss false t9 t8 fun t10 =>
 aTest t10
 (aIdxA 1 t7 t9 fun t11 =>
 aLoad false 1 t11 H fun t12 =>
 aLoad false 1 t2 H fun t13 =>
 aIdxA 1 t13 t12 fun t16 =>
 aStore 1 t16 t1 H fun H =>
 aBin .add false t9 (.int .i64 1) fun t17 =>
 Kb1 (zq72_fr1 t1 t2 t7 t8 t17) H)
 (aRet [] (K · H))
def zq72 (t0 t1 t2 : AV) (H : Heap) (K : Kt) : Prop :=
 aLen 1 t0 fun t8 =>
 zq72_l1 t1 t2 t0 t8 (.int .i64 0) H K
theorem zq72_b1_eq (t1 t2 t7 t8 t9 : AV) (H : Heap) (K : Kt) (Kb1 : Lt) : awp tP zq72_M zq72_c1 (roundQ zq72_m1 Kb1 (zq72_Q1 K)) (zq72_fr1 t1 t2 t7 t8 t9) H = zq72_b1 t1 t2 t7 t8 t9 H K Kb1 := by kernel_rfl
theorem zq72_loop1 {t1 t2 t7 t8 t9 : AV} {H : Heap} {K : Kt} (Inv : Nat → AV → Heap → Prop) (n : Nat) (h0 : HSc H → Inv n t9 H)
   (round : ∀ n t9 H', Inv n t9 H' → HSc H' → H.length ≤ H'.length → (zq72_fr1 t1 t2 t7 t8 t9).all (AV.sc H'.length) = true → ∀ Kb1 : Lt, (∀ F'' H'', (∃ n', n' < n ∧ Back H.length (fun F2 H2 => ∃ t9, F2 = zq72_fr1 t1 t2 t7 t8 t9 ∧ Inv n' t9 H2) F'' H'') → Kb1 F'' H'') → zq72_b1 t1 t2 t7 t8 t9 H' K Kb1) : zq72_l1 t1 t2 t7 t8 t9 H K :=
 aloop (M := zq72_M) zq72_m1 (fun n F H => ∃ t9, F = zq72_fr1 t1 t2 t7 t8 t9 ∧ Inv n t9 H) n (fun hs _ => ⟨t9, rfl, h0 hs⟩) (fun n F H' ⟨t9, hF, hI⟩ h1 h2 h3 => by subst hF; rw [zq72_b1_eq]; exact round n t9 H' hI h1 h2 h3 _ (fun _ _ h => h))
theorem zq72_eq (t0 t1 t2 : AV) (H : Heap) (K : Kt) : awp tP zq72_M zq72_c (retQ tP zq72_r K) (t0 :: t1 :: t2 :: List.replicate 15 .unk) H = zq72 t0 t1 t2 H K := by kernel_rfl
theorem zq72_ok {t0 t1 t2 : AV} {H : Heap} {K : Kt} (h : HSc H → zq72 t0 t1 t2 H K) : ACalls tP n_zq72 [t0, t1, t2] H K :=
 acalls_body (M := zq72_M) Try.func74 (c := zq72_c) (by kernel_rfl) (fun hs => (zq72_eq t0 t1 t2 H K).mpr (h hs))
def zq73_M : Nat → List Bool
 | 3 => rl false [2,3,2,1,10,3,46]
 | 9 => rl false [3,2,2,1,33,3,23]
 | 200011 => rl false [0,1]
 | 200014 => rl false [0,1]
 | _ => []
noncomputable def zq73_c : Code := Try.f75.body.getD .skip
noncomputable def zq73_r : List ResultVar := Try.f75.results.toList
def zq73_fr3 (t2 t3 t4 t7 t18 t19 t20 : AV) : List AV := ux 2 (t2 :: t3 :: t4 :: ux 2 (t7 :: ux 10 (t18 :: t19 :: t20 :: ux 46 [])))
def zq73_m3 : List Bool := zq73_M 3
noncomputable def zq73_c3 : Code := codeAt [1, 1, 0, 1, 0, 0] zq73_c
def zq73_Q3 (K : Kt) : AExit → List AV → Heap → Prop := contAt tP zq73_M [1, 1, 0, 1, 0] zq73_c (retQ tP zq73_r K)
def zq73_l3 (t2 t3 t4 t7 t18 t19 t20 : AV) (H : Heap) (K : Kt) : Prop := ALoop tP zq73_c3 (zq73_Q3 K) (zq73_fr3 t2 t3 t4 t7 t18 t19 t20) H
def zq73_fr9 (t3 t4 t7 t41 t42 t43 : AV) : List AV := ux 3 (t3 :: t4 :: ux 2 (t7 :: ux 33 (t41 :: t42 :: t43 :: ux 23 [])))
def zq73_m9 : List Bool := zq73_M 9
noncomputable def zq73_c9 : Code := codeAt [1, 1, 1, 0, 1, 0, 0] zq73_c
def zq73_Q9 (K : Kt) : AExit → List AV → Heap → Prop := contAt tP zq73_M [1, 1, 1, 0, 1, 0] zq73_c (retQ tP zq73_r K)
def zq73_l9 (t3 t4 t7 t41 t42 t43 : AV) (H : Heap) (K : Kt) : Prop := ALoop tP zq73_c9 (zq73_Q9 K) (zq73_fr9 t3 t4 t7 t41 t42 t43) H
def zq73_b9 (t3 t4 t7 t41 t42 t43 : AV) (H : Heap) (K : Kt) (Kb9 : Lt) : Prop :=
 aBin .lss false t43 t42 fun t44 =>
 aTest t44
 (aIdxA 1 t41 t43 fun t46 =>
 aLoad false 1 t46 H fun t47 =>
 aPure H (fun k => aLoad false 1 t3 H (k · H)) fun t48 =>
 aPure H (fun k => aFld 3 t7 (k · H)) fun t49 =>
 aPure H (fun k => aLoad false 1 t49 H (k · H)) fun t50 =>
 aPure H (fun k => k t43 H) fun t51 =>
 aPure H (fun k => aIdxA 1 t50 t51 (k · H)) fun t52 =>
 aPure H (fun k => aLoad false 1 t52 H (k · H)) fun t53 =>
 aDet .w false H (fun k => aCallV tP t48 [t53, (.bool true)] H k) fun t54 H =>
 aLoad false 1 t4 H fun t55 =>
 aCallV tP t55 [t47] H fun t57 H =>
 aUn .not t57 fun t58 =>
 aTest t58
 (K (.bool false) H)
 (aPure H (fun k => aLoad false 1 t3 H (k · H)) fun t59 =>
 aPure H (fun k => aFld 3 t7 (k · H)) fun t60 =>
 aPure H (fun k => aLoad false 1 t60 H (k · H)) fun t61 =>
 aPure H (fun k => k t43 H) fun t62 =>
 aPure H (fun k => aIdxA 1 t61 t62 (k · H)) fun t63 =>
 aPure H (fun k => aLoad false 1 t63 H (k · H)) fun t64 =>
 aDet .w false H (fun k => aCallV tP t59 [t64, (.bool false)] H k) fun t65 H =>
 aBin .add false t43 (.int .i64 1) fun t66 =>
 Kb9 (zq73_fr9 t3 t4 t7 t41 t42 t66) H))
 (K (.bool true) H)
def zq73_b3 (t2 t3 t4 t7 t18 t19 t20 : AV) (H : Heap) (K : Kt) (Kb3 : Lt) : Prop :=
 aBin .lss false t20 t19 fun t21 =>
 aTest t21
 (aIdxA 1 t18 t20 fun t22 =>
 aLoad false 1 t22 H fun t23 =>
 aBin .lss false t23 (.int .i64 0) fun t25 =>
 aGuardJ t25 false H (fun k => k t23 H) fun t27 H =>
 aGuardJ t25 false H (fun k => aLoad false 1 t2 H (k · H)) fun t28 H =>
 aGuardJ t25 false H (fun k => aLen 1 t28 (k · H)) fun t29 H =>
 aGuardJ t25 false H (fun k => aBin .geq false t27 t29 (k · H)) fun t30 H =>
 aPick t25 (.bool true) t30 fun t31 =>
 aGuardJ t31 false H (fun k => aLoad false 1 t2 H (k · H)) fun t33 H =>
 aGuardJ t31 false H (fun k => k t23 H) fun t34 H =>
 aGuardJ t31 false H (fun k => aIdxA 1 t33 t34 (k · H)) fun t35 H =>
 aGuardJ t31 false H (fun k => aLoad false 1 t35 H (k · H)) fun t36 H =>
 aGuardJ t31 false H (fun k => aUn .not t36 (k · H)) fun t37 H =>
 aPick t31 (.bool true) t37 fun t38 =>
 aTest t38
 (K (.bool false) H)
 (aBin .add false t20 (.int .i64 1) fun t39 =>
 Kb3 (zq73_fr3 t2 t3 t4 t7 t18 t19 t39) H))
 (aFld 4 t7 fun t40 =>
 aLoad false 1 t40 H fun t41 =>
 aLen 1 t41 fun t42 =>
 zq73_l9 t3 t4 t7 t41 t42 (.int .i64 0) H K)
def zq73 (t0 t1 t2 t3 t4 : AV) (H : Heap) (K : Kt) : Prop :=
 aFld 3 t1 fun t12 =>
 aLoad false 1 t12 H fun t13 =>
 aIdxA 8 t13 t0 fun t15 =>
 aLoad true 8 t15 H fun t16 =>
 aNew [(.int .i64 0), (.int .i64 0), .snil, .snil, .snil, (.int .i64 0), (.int .i64 0), .snil] H fun t7 H =>
 aStore 8 t7 t16 H fun H =>
 aFld 2 t7 fun t17 =>
 aLoad false 1 t17 H fun t18 =>
 aLen 1 t18 fun t19 =>
 zq73_l3 t2 t3 t4 t7 t18 t19 (.int .i64 0) H K
theorem zq73_b9_eq (t3 t4 t7 t41 t42 t43 : AV) (H : Heap) (K : Kt) (Kb9 : Lt) : awp tP zq73_M zq73_c9 (roundQ zq73_m9 Kb9 (zq73_Q9 K)) (zq73_fr9 t3 t4 t7 t41 t42 t43) H = zq73_b9 t3 t4 t7 t41 t42 t43 H K Kb9 := by kernel_rfl
theorem zq73_loop9 {t3 t4 t7 t41 t42 t43 : AV} {H : Heap} {K : Kt} (Inv : Nat → AV → Heap → Prop) (n : Nat) (h0 : HSc H → Inv n t43 H)
   (round : ∀ n t43 H', Inv n t43 H' → HSc H' → H.length ≤ H'.length → (zq73_fr9 t3 t4 t7 t41 t42 t43).all (AV.sc H'.length) = true → ∀ Kb9 : Lt, (∀ F'' H'', (∃ n', n' < n ∧ Back H.length (fun F2 H2 => ∃ t43, F2 = zq73_fr9 t3 t4 t7 t41 t42 t43 ∧ Inv n' t43 H2) F'' H'') → Kb9 F'' H'') → zq73_b9 t3 t4 t7 t41 t42 t43 H' K Kb9) : zq73_l9 t3 t4 t7 t41 t42 t43 H K :=
 aloop (M := zq73_M) zq73_m9 (fun n F H => ∃ t43, F = zq73_fr9 t3 t4 t7 t41 t42 t43 ∧ Inv n t43 H) n (fun hs _ => ⟨t43, rfl, h0 hs⟩) (fun n F H' ⟨t43, hF, hI⟩ h1 h2 h3 => by subst hF; rw [zq73_b9_eq]; exact round n t43 H' hI h1 h2 h3 _ (fun _ _ h => h))
theorem zq73_b3_eq (t2 t3 t4 t7 t18 t19 t20 : AV) (H : Heap) (K : Kt) (Kb3 : Lt) : awp tP zq73_M zq73_c3 (roundQ zq73_m3 Kb3 (zq73_Q3 K)) (zq73_fr3 t2 t3 t4 t7 t18 t19 t20) H = zq73_b3 t2 t3 t4 t7 t18 t19 t20 H K Kb3 := by kernel_rfl
theorem zq73_loop3 {t2 t3 t4 t7 t18 t19 t20 : AV} {H : Heap} {K : Kt} (Inv : Nat → AV → Heap → Prop) (n : Nat) (h0 : HSc H → Inv n t20 H)
   (round : ∀ n t20 H', Inv n t20 H' → HSc H' → H.length ≤ H'.length → (zq73_fr3 t2 t3 t4 t7 t18 t19 t20).all (AV.sc H'.length) = true → ∀ Kb3 : Lt, (∀ F'' H'', (∃ n', n' < n ∧ Back H.length (fun F2 H2 => ∃ t20, F2 = zq73_fr3 t2 t3 t4 t7 t18 t19 t20 ∧ Inv n' t20 H2) F'' H'') → Kb3 F'' H'') → zq73_b3 t2 t3 t4 t7 t18 t19 t20 H' K Kb3) : zq73_l3 t2 t3 t4 t7 t18 t19 t20 H K :=
 aloop (M := zq73_M) zq73_m3 (fun n F H => ∃ t20, F = zq73_fr3 t2 t3 t4 t7 t18 t19 t20 ∧ Inv n t20 H) n (fun hs _ => ⟨t20, rfl, h0 hs⟩) (fun n F H' ⟨t20, hF, hI⟩ h1 h2 h3 => by subst hF; rw [zq73_b3_eq]; exact round n t20 H' hI h1 h2 h3 _ (fun _ _ h => h))
theorem zq73_eq (t0 t1 t2 t3 t4 : AV) (H : Heap) (K : Kt) : awp tP zq73_M zq73_c (retQ tP zq73_r K) (t0 :: t1 :: t2 :: t3 :: t4 :: List.replicate 62 .unk) H = zq73 t0 t1 t2 t3 t4 H K := by kernel_rfl
theorem zq73_ok {t0 t1 t2 t3 t4 : AV} {H : Heap} {K : Kt} (h : HSc H → zq73 t0 t1 t2 t3 t4 H K) : ACalls tP n_zq73 [t0, t1, t2, t3, t4] H K :=
 acalls_body (M := zq73_M) Try.func75 (c := zq73_c) (by kernel_rfl) (fun hs => (zq73_eq t0 t1 t2 t3 t4 H K).mpr (h hs))
def zq89_M (_ : Nat) : List Bool := []
noncomputable def zq89_c : Code := Try.f91.body.getD .skip
noncomputable def zq89_r : List ResultVar := Try.f91.results.toList
def zq89 (t0 t1 t2 : AV) (H : Heap) (K : Kt) : Prop :=
 aBox t0 H fun t3 H =>
 aBin .lss false t1 (.int .i64 0) fun t8 =>
 aGuardJ t8 false H (fun k => aFld 2 t3 (k · H)) fun t10 H =>
 aGuardJ t8 false H (fun k => aLoad false 1 t10 H (k · H)) fun t11 H =>
 aGuardJ t8 false H (fun k => aLen 1 t11 (k · H)) fun t12 H =>
 aGuardJ t8 false H (fun k => k t1 H) fun t13 H =>
 aGuardJ t8 false H (fun k => aBin .eql false t12 t13 (k · H)) fun t14 H =>
 aPick t8 (.bool true) t14 fun t15 =>
 aGuardJ t15 true H (fun k => aFld 4 t3 (k · H)) fun t17 H =>
 aGuardJ t15 true H (fun k => aLoad false 1 t17 H (k · H)) fun t18 H =>
 aGuardJ t15 true H (fun k => aLen 1 t18 (k · H)) fun t19 H =>
 aGuardJ t15 true H (fun k => k t2 H) fun t20 H =>
 aGuardJ t15 true H (fun k => aBin .eql false t19 t20 (k · H)) fun t21 H =>
 aPick t15 t21 (.bool false) fun t22 =>
 K t22 H
theorem zq89_eq (t0 t1 t2 : AV) (H : Heap) (K : Kt) : awp tP zq89_M zq89_c (retQ tP zq89_r K) (t0 :: t1 :: t2 :: List.replicate 20 .unk) H = zq89 t0 t1 t2 H K := by kernel_rfl
theorem zq89_ok {t0 t1 t2 : AV} {H : Heap} {K : Kt} (h : HSc H → zq89 t0 t1 t2 H K) : ACalls tP n_zq89 [t0, t1, t2] H K :=
 acalls_body (M := zq89_M) Try.func91 (c := zq89_c) (by kernel_rfl) (fun hs => (zq89_eq t0 t1 t2 H K).mpr (h hs))
def zq90_M (_ : Nat) : List Bool := []
noncomputable def zq90_c : Code := Try.f92.body.getD .skip
noncomputable def zq90_r : List ResultVar := Try.f92.results.toList
def zq90 (t0 : AV) (H : Heap) (K : Kt) : Prop :=
 aNew [(.int .i64 0), (.int .i64 0), .snil] H fun t2 H =>
 aBuild [(.int .i64 0), (.int .i64 0), .snil] [(0, 1), (1, 1), (2, 1)] [(0, t0)] fun t4 =>
 aStore 3 t2 t4 H fun H =>
 aLoad true 3 t2 H fun r0 =>
 K r0 H
theorem zq90_eq (t0 : AV) (H : Heap) (K : Kt) : awp tP zq90_M zq90_c (retQ tP zq90_r K) (t0 :: List.replicate 4 .unk) H = zq90 t0 H K := by kernel_rfl
theorem zq90_ok {t0 : AV} {H : Heap} {K : Kt} (h : HSc H → zq90 t0 H K) : ACalls tP n_zq90 [t0] H K :=
 acalls_body (M := zq90_M) Try.func92 (c := zq90_c) (by kernel_rfl) (fun hs => (zq90_eq t0 H K).mpr (h hs))
def zq91_M (_ : Nat) : List Bool := []
noncomputable def zq91_c : Code := Try.f93.body.getD .skip
noncomputable def zq91_r : List ResultVar := Try.f93.results.toList
def zq91 (t0 t1 : AV) (H : Heap) (K : Kt) : Prop :=
 aUn .neg t1 fun t6 =>
 aBin .leq false t6 t0 fun t8 =>
 aGuardJ t8 true H (fun k => k t0 H) fun t10 H =>
 aGuardJ t8 true H (fun k => k t1 H) fun t11 H =>
 aGuardJ t8 true H (fun k => aBin .leq false t10 t11 (k · H)) fun t12 H =>
 aPick t8 t12 (.bool false) fun t13 =>
 K t13 H
theorem zq91_eq (t0 t1 : AV) (H : Heap) (K : Kt) : awp tP zq91_M zq91_c (retQ tP zq91_r K) (t0 :: t1 :: List.replicate 12 .unk) H = zq91 t0 t1 H K := by kernel_rfl
theorem zq91_ok {t0 t1 : AV} {H : Heap} {K : Kt} (h : HSc H → zq91 t0 t1 H K) : ACalls tP n_zq91 [t0, t1] H K :=
 acalls_body (M := zq91_M) Try.func93 (c := zq91_c) (by kernel_rfl) (fun hs => (zq91_eq t0 t1 H K).mpr (h hs))
def zq92_M (_ : Nat) : List Bool := []
noncomputable def zq92_c : Code := Try.f94.body.getD .skip
noncomputable def zq92_r : List ResultVar := Try.f94.results.toList
def zq92 (t0 t1 t2 : AV) (H : Heap) (K : Kt) : Prop :=
 ACalls tP n_zq94 [t0, t1] H fun t9 H =>
 ACalls tP n_zq87 [t9, t2, (.fn n_zq69 [])] H fun t11 H =>
 K t11 H
theorem zq92_eq (t0 t1 t2 : AV) (H : Heap) (K : Kt) : awp tP zq92_M zq92_c (retQ tP zq92_r K) (t0 :: t1 :: t2 :: List.replicate 9 .unk) H = zq92 t0 t1 t2 H K := by kernel_rfl
theorem zq92_ok {t0 t1 t2 : AV} {H : Heap} {K : Kt} (h : HSc H → zq92 t0 t1 t2 H K) : ACalls tP n_zq92 [t0, t1, t2] H K :=
 acalls_body (M := zq92_M) Try.func94 (c := zq92_c) (by kernel_rfl) (fun hs => (zq92_eq t0 t1 t2 H K).mpr (h hs))
def zq93_M (_ : Nat) : List Bool := []
noncomputable def zq93_c : Code := Try.f95.body.getD .skip
noncomputable def zq93_r : List ResultVar := Try.f95.results.toList
def zq93 (t0 t1 : AV) (H : Heap) (K : Kt) : Prop :=
 aNew [(.int .i64 0), (.int .i64 0), .snil] H fun t4 H =>
 aBuild [(.int .i64 0), (.int .i64 0), .snil] [(0, 1), (1, 1), (2, 1)] [(0, t0), (2, t1)] fun t7 =>
 aStore 3 t4 t7 H fun H =>
 aLoad true 3 t4 H fun r0 =>
 K r0 H
theorem zq93_eq (t0 t1 : AV) (H : Heap) (K : Kt) : awp tP zq93_M zq93_c (retQ tP zq93_r K) (t0 :: t1 :: List.replicate 6 .unk) H = zq93 t0 t1 H K := by kernel_rfl
theorem zq93_ok {t0 t1 : AV} {H : Heap} {K : Kt} (h : HSc H → zq93 t0 t1 H K) : ACalls tP n_zq93 [t0, t1] H K :=
 acalls_body (M := zq93_M) Try.func95 (c := zq93_c) (by kernel_rfl) (fun hs => (zq93_eq t0 t1 H K).mpr (h hs))
def zq94_M : Nat → List Bool
 | 3 => rl false [0,1,4,1,2,3,16]
 | _ => []
noncomputable def zq94_c : Code := Try.f96.body.getD .skip
noncomputable def zq94_r : List ResultVar := Try.f96.results.toList
def zq94_fr3 (t0 t5 t8 t9 t10 : AV) : List AV := t0 :: ux 4 (t5 :: ux 2 (t8 :: t9 :: t10 :: ux 16 []))
def zq94_m3 : List Bool := zq94_M 3
noncomputable def zq94_c3 : Code := codeAt [1, 1, 0, 1, 0, 0] zq94_c
def zq94_Q3 (K : Kt) : AExit → List AV → Heap → Prop := contAt tP zq94_M [1, 1, 0, 1, 0] zq94_c (retQ tP zq94_r K)
def zq94_l3 (t0 t5 t8 t9 t10 : AV) (H : Heap) (K : Kt) : Prop := ALoop tP zq94_c3 (zq94_Q3 K) (zq94_fr3 t0 t5 t8 t9 t10) H
def zq94_b3 (t0 t5 t8 t9 t10 : AV) (H : Heap) (K : Kt) (Kb3 : Lt) : Prop :=
 aBin .lss false t10 t9 fun t11 =>
 aTest t11
 (aIdxA 1 t8 t10 fun t12 =>
 aLoad false 1 t12 H fun t13 =>
 aNil t0 fun t16 =>
 aFld 0 t16 fun t17 =>
 aFld 2 t17 fun t18 =>
 aLoad false 1 t18 H fun t19 =>
 aIdxA 3 t19 t13 fun t21 =>
 aLoad true 3 t21 H fun t22 =>
 aBuildS 3 [(.int .i64 0), (.int .i64 0), .snil] 1 [(0, t22)] fun t23 =>
 aAppend e_api_Type 3 40 t5 t23 H fun t24 H =>
 aBin .add false t10 (.int .i64 1) fun t25 =>
 Kb3 (zq94_fr3 t0 t24 t8 t9 t25) H)
 (K t5 H)
def zq94 (t0 t1 : AV) (H : Heap) (K : Kt) : Prop :=
 aLen 1 t1 fun t9 =>
 zq94_l3 t0 .snil t1 t9 (.int .i64 0) H K
theorem zq94_b3_eq (t0 t5 t8 t9 t10 : AV) (H : Heap) (K : Kt) (Kb3 : Lt) : awp tP zq94_M zq94_c3 (roundQ zq94_m3 Kb3 (zq94_Q3 K)) (zq94_fr3 t0 t5 t8 t9 t10) H = zq94_b3 t0 t5 t8 t9 t10 H K Kb3 := by kernel_rfl
theorem zq94_loop3 {t0 t5 t8 t9 t10 : AV} {H : Heap} {K : Kt} (Inv : Nat → AV → AV → Heap → Prop) (n : Nat) (h0 : HSc H → Inv n t5 t10 H)
   (round : ∀ n t5 t10 H', Inv n t5 t10 H' → HSc H' → H.length ≤ H'.length → (zq94_fr3 t0 t5 t8 t9 t10).all (AV.sc H'.length) = true → ∀ Kb3 : Lt, (∀ F'' H'', (∃ n', n' < n ∧ Back H.length (fun F2 H2 => ∃ t5 t10, F2 = zq94_fr3 t0 t5 t8 t9 t10 ∧ Inv n' t5 t10 H2) F'' H'') → Kb3 F'' H'') → zq94_b3 t0 t5 t8 t9 t10 H' K Kb3) : zq94_l3 t0 t5 t8 t9 t10 H K :=
 aloop (M := zq94_M) zq94_m3 (fun n F H => ∃ t5 t10, F = zq94_fr3 t0 t5 t8 t9 t10 ∧ Inv n t5 t10 H) n (fun hs _ => ⟨t5, t10, rfl, h0 hs⟩) (fun n F H' ⟨t5, t10, hF, hI⟩ h1 h2 h3 => by subst hF; rw [zq94_b3_eq]; exact round n t5 t10 H' hI h1 h2 h3 _ (fun _ _ h => h))
theorem zq94_eq (t0 t1 : AV) (H : Heap) (K : Kt) : awp tP zq94_M zq94_c (retQ tP zq94_r K) (t0 :: t1 :: List.replicate 25 .unk) H = zq94 t0 t1 H K := by kernel_rfl
theorem zq94_ok {t0 t1 : AV} {H : Heap} {K : Kt} (h : HSc H → zq94 t0 t1 H K) : ACalls tP n_zq94 [t0, t1] H K :=
 acalls_body (M := zq94_M) Try.func96 (c := zq94_c) (by kernel_rfl) (fun hs => (zq94_eq t0 t1 H K).mpr (h hs))
def zq104_M (_ : Nat) : List Bool := []
noncomputable def zq104_c : Code := Try.f106.body.getD .skip
noncomputable def zq104_r : List ResultVar := Try.f106.results.toList
def zq104 (t0 t1 : AV) (H : Heap) (K : Kt) : Prop :=
 aBox t0 H fun t2 H =>
 aFld 3 t2 fun t5 =>
 aLoad false 1 t5 H fun t6 =>
 ACalls tP n_zq125 [t6, t1, (.fn n_zq126 [])] H fun t8 H =>
 K t8 H
theorem zq104_eq (t0 t1 : AV) (H : Heap) (K : Kt) : awp tP zq104_M zq104_c (retQ tP zq104_r K) (t0 :: t1 :: List.replicate 7 .unk) H = zq104 t0 t1 H K := by kernel_rfl
theorem zq104_ok {t0 t1 : AV} {H : Heap} {K : Kt} (h : HSc H → zq104 t0 t1 H K) : ACalls tP n_zq104 [t0, t1] H K :=
 acalls_body (M := zq104_M) Try.func106 (c := zq104_c) (by kernel_rfl) (fun hs => (zq104_eq t0 t1 H K).mpr (h hs))
def zq105_M (_ : Nat) : List Bool := []
noncomputable def zq105_c : Code := Try.f107.body.getD .skip
noncomputable def zq105_r : List ResultVar := Try.f107.results.toList
def zq105 (t0 t1 t2 : AV) (H : Heap) (K : Kt) : Prop :=
 aBox t1 H fun t4 H =>
 aNew [(.int .i64 0), (.int .i64 0), .snil] H fun t6 H =>
 aPure H (fun k => k t0 H) fun t7 =>
 aPure H (fun k => aNil t7 (k · H)) fun t8 =>
 aPure H (fun k => aFld 0 t8 (k · H)) fun t9 =>
 aPure H (fun k => aFld 3 t9 (k · H)) fun t10 =>
 aPure H (fun k => aLoad false 1 t10 H (k · H)) fun t11 =>
 aPure H (fun k => aFld 4 t4 (k · H)) fun t12 =>
 aPure H (fun k => aLoad false 1 t12 H (k · H)) fun t13 =>
 aPure H (fun k => k t2 H) fun t14 =>
 aPure H (fun k => aIdxA 1 t13 t14 (k · H)) fun t15 =>
 aPure H (fun k => aLoad false 1 t15 H (k · H)) fun t16 =>
 aPure H (fun k => aIdxA 8 t11 t16 (k · H)) fun t17 =>
 aPure H (fun k => aFld 5 t17 (k · H)) fun t18 =>
 aPure H (fun k => aLoad true 3 t18 H (k · H)) fun t19 =>
 aStore 3 t6 t19 H fun H =>
 aLoad true 3 t6 H fun r0 =>
 K r0 H
theorem zq105_eq (t0 t1 t2 : AV) (H : Heap) (K : Kt) : awp tP zq105_M zq105_c (retQ tP zq105_r K) (t0 :: t1 :: t2 :: List.replicate 17 .unk) H = zq105 t0 t1 t2 H K := by kernel_rfl
theorem zq105_ok {t0 t1 t2 : AV} {H : Heap} {K : Kt} (h : HSc H → zq105 t0 t1 t2 H K) : ACalls tP n_zq105 [t0, t1, t2] H K :=
 acalls_body (M := zq105_M) Try.func107 (c := zq105_c) (by kernel_rfl) (fun hs => (zq105_eq t0 t1 t2 H K).mpr (h hs))
def zq106_M : Nat → List Bool
 | 2 => rl false [0,1,3,1,2,1,16]
 | _ => []
noncomputable def zq106_c : Code := Try.f108.body.getD .skip
noncomputable def zq106_r : List ResultVar := Try.f108.results.toList
def zq106_fr2 (t0 t4 t7 : AV) : List AV := t0 :: ux 3 (t4 :: ux 2 (t7 :: ux 16 []))
def zq106_m2 : List Bool := zq106_M 2
noncomputable def zq106_c2 : Code := codeAt [1, 0, 1, 0, 0] zq106_c
def zq106_Q2 (K : Kt) : AExit → List AV → Heap → Prop := contAt tP zq106_M [1, 0, 1, 0] zq106_c (retQ tP zq106_r K)
def zq106_l2 (t0 t4 t7 : AV) (H : Heap) (K : Kt) : Prop := ALoop tP zq106_c2 (zq106_Q2 K) (zq106_fr2 t0 t4 t7) H
def zq106_b2 (t0 t4 t7 : AV) (H : Heap) (K : Kt) (Kb2 : Lt) : Prop :=
 aFld 4 t4 fun t10 =>
 aLoad false 1 t10 H fun t11 =>
 aLen 1 t11 fun t12 =>
 aBin .lss false t7 t12 fun t13 =>
 aTest t13
 (aPure H (fun k => k t0 H) fun t16 =>
 aPure H (fun k => aLoad true 8 t4 H (k · H)) fun t17 =>
 aPure H (fun k => k t7 H) fun t18 =>
 aPureX H (fun H k => ACalls tP n_zq105 [t16, t17, t18] H k) fun t19 =>
 aPure H (fun k => aFld 5 t4 (k · H)) fun t20 =>
 aPure H (fun k => aLoad true 3 t20 H (k · H)) fun t21 =>
 aPureX H (fun H k => ACalls tP n_zq69 [t19, t21] H k) fun t22 =>
 aPure H (fun k => aUn .not t22 (k · H)) fun t23 =>
 aTest t23
 (K (.bool false) H)
 (aBin .add false t7 (.int .i64 1) fun t15 =>
 Kb2 (zq106_fr2 t0 t4 t15) H))
 (K (.bool true) H)
def zq106 (t0 t1 t2 : AV) (H : Heap) (K : Kt) : Prop :=
 aBox t1 H fun t4 H =>
 zq106_l2 t0 t4 t2 H K
theorem zq106_b2_eq (t0 t4 t7 : AV) (H : Heap) (K : Kt) (Kb2 : Lt) : awp tP zq106_M zq106_c2 (roundQ zq106_m2 Kb2 (zq106_Q2 K)) (zq106_fr2 t0 t4 t7) H = zq106_b2 t0 t4 t7 H K Kb2 := by kernel_rfl
theorem zq106_loop2 {t0 t4 t7 : AV} {H : Heap} {K : Kt} (Inv : Nat → AV → Heap → Prop) (n : Nat) (h0 : HSc H → Inv n t7 H)
   (round : ∀ n t7 H', Inv n t7 H' → HSc H' → H.length ≤ H'.length → (zq106_fr2 t0 t4 t7).all (AV.sc H'.length) = true → ∀ Kb2 : Lt, (∀ F'' H'', (∃ n', n' < n ∧ Back H.length (fun F2 H2 => ∃ t7, F2 = zq106_fr2 t0 t4 t7 ∧ Inv n' t7 H2) F'' H'') → Kb2 F'' H'') → zq106_b2 t0 t4 t7 H' K Kb2) : zq106_l2 t0 t4 t7 H K :=
 aloop (M := zq106_M) zq106_m2 (fun n F H => ∃ t7, F = zq106_fr2 t0 t4 t7 ∧ Inv n t7 H) n (fun hs _ => ⟨t7, rfl, h0 hs⟩) (fun n F H' ⟨t7, hF, hI⟩ h1 h2 h3 => by subst hF; rw [zq106_b2_eq]; exact round n t7 H' hI h1 h2 h3 _ (fun _ _ h => h))
theorem zq106_eq (t0 t1 t2 : AV) (H : Heap) (K : Kt) : awp tP zq106_M zq106_c (retQ tP zq106_r K) (t0 :: t1 :: t2 :: List.replicate 21 .unk) H = zq106 t0 t1 t2 H K := by kernel_rfl
theorem zq106_ok {t0 t1 t2 : AV} {H : Heap} {K : Kt} (h : HSc H → zq106 t0 t1 t2 H K) : ACalls tP n_zq106 [t0, t1, t2] H K :=
 acalls_body (M := zq106_M) Try.func108 (c := zq106_c) (by kernel_rfl) (fun hs => (zq106_eq t0 t1 t2 H K).mpr (h hs))
def zq125_M : Nat → List Bool
 | 4 => rl false [1,2,12,3,14]
 | _ => []
noncomputable def zq125_c : Code := Try.f127.body.getD .skip
noncomputable def zq125_r : List ResultVar := Try.f127.results.toList
def zq125_fr4 (t1 t2 t15 t16 t17 : AV) : List AV := ux 1 (t1 :: t2 :: ux 12 (t15 :: t16 :: t17 :: ux 14 []))
def zq125_m4 : List Bool := zq125_M 4
noncomputable def zq125_c4 : Code := codeAt [1, 1, 0, 1, 0, 0] zq125_c
def zq125_Q4 (K : Kt) : AExit → List AV → Heap → Prop := contAt tP zq125_M [1, 1, 0, 1, 0] zq125_c (retQ tP zq125_r K)
def zq125_l4 (t1 t2 t15 t16 t17 : AV) (H : Heap) (K : Kt) : Prop := ALoop tP zq125_c4 (zq125_Q4 K) (zq125_fr4 t1 t2 t15 t16 t17) H
def zq125_b4 (t1 t2 t15 t16 t17 : AV) (H : Heap) (K : Kt) (Kb4 : Lt) : Prop :=
 aBin .lss false t17 t16 fun t18 =>
 aTest t18
 (aIdxA 1 t15 t17 fun t20 =>
 aLoad false 1 t20 H fun t21 =>
 aIdxA 1 t1 t17 fun t24 =>
 aLoad false 1 t24 H fun t25 =>
 aCallV tP t2 [t21, t25] H fun t29 H =>
 aUn .not t29 fun t30 =>
 aTest t30
 (K (.bool false) H)
 (aBin .add false t17 (.int .i64 1) fun t31 =>
 Kb4 (zq125_fr4 t1 t2 t15 t16 t31) H))
 (K (.bool true) H)
def zq125 (t0 t1 t2 : AV) (H : Heap) (K : Kt) : Prop :=
 aLen 1 t0 fun t11 =>
 aLen 1 t1 fun t13 =>
 aBin .neq false t11 t13 fun t14 =>
 aTest t14
 (K (.bool false) H)
 (aLen 1 t0 fun t16 =>
 zq125_l4 t1 t2 t0 t16 (.int .i64 0) H K)
theorem zq125_b4_eq (t1 t2 t15 t16 t17 : AV) (H : Heap) (K : Kt) (Kb4 : Lt) : awp tP zq125_M zq125_c4 (roundQ zq125_m4 Kb4 (zq125_Q4 K)) (zq125_fr4 t1 t2 t15 t16 t17) H = zq125_b4 t1 t2 t15 t16 t17 H K Kb4 := by kernel_rfl
theorem zq125_loop4 {t1 t2 t15 t16 t17 : AV} {H : Heap} {K : Kt} (Inv : Nat → AV → Heap → Prop) (n : Nat) (h0 : HSc H → Inv n t17 H)
   (round : ∀ n t17 H', Inv n t17 H' → HSc H' → H.length ≤ H'.length → (zq125_fr4 t1 t2 t15 t16 t17).all (AV.sc H'.length) = true → ∀ Kb4 : Lt, (∀ F'' H'', (∃ n', n' < n ∧ Back H.length (fun F2 H2 => ∃ t17, F2 = zq125_fr4 t1 t2 t15 t16 t17 ∧ Inv n' t17 H2) F'' H'') → Kb4 F'' H'') → zq125_b4 t1 t2 t15 t16 t17 H' K Kb4) : zq125_l4 t1 t2 t15 t16 t17 H K :=
 aloop (M := zq125_M) zq125_m4 (fun n F H => ∃ t17, F = zq125_fr4 t1 t2 t15 t16 t17 ∧ Inv n t17 H) n (fun hs _ => ⟨t17, rfl, h0 hs⟩) (fun n F H' ⟨t17, hF, hI⟩ h1 h2 h3 => by subst hF; rw [zq125_b4_eq]; exact round n t17 H' hI h1 h2 h3 _ (fun _ _ h => h))
theorem zq125_eq (t0 t1 t2 : AV) (H : Heap) (K : Kt) : awp tP zq125_M zq125_c (retQ tP zq125_r K) (t0 :: t1 :: t2 :: List.replicate 29 .unk) H = zq125 t0 t1 t2 H K := by kernel_rfl
theorem zq125_ok {t0 t1 t2 : AV} {H : Heap} {K : Kt} (h : HSc H → zq125 t0 t1 t2 H K) : ACalls tP n_zq125 [t0, t1, t2] H K :=
 acalls_body (M := zq125_M) Try.func127 (c := zq125_c) (by kernel_rfl) (fun hs => (zq125_eq t0 t1 t2 H K).mpr (h hs))
def zq126_M (_ : Nat) : List Bool := []
noncomputable def zq126_c : Code := Try.f128.body.getD .skip
noncomputable def zq126_r : List ResultVar := Try.f128.results.toList
def zq126 (t0 t1 : AV) (H : Heap) (K : Kt) : Prop :=
 aLen 1 t0 fun t6 =>
 aBin .eql false t6 t1 fun t8 =>
 K t8 H
theorem zq126_eq (t0 t1 : AV) (H : Heap) (K : Kt) : awp tP zq126_M zq126_c (retQ tP zq126_r K) (t0 :: t1 :: List.replicate 7 .unk) H = zq126 t0 t1 H K := by kernel_rfl
theorem zq126_ok {t0 t1 : AV} {H : Heap} {K : Kt} (h : HSc H → zq126 t0 t1 H K) : ACalls tP n_zq126 [t0, t1] H K :=
 acalls_body (M := zq126_M) Try.func128 (c := zq126_c) (by kernel_rfl) (fun hs => (zq126_eq t0 t1 H K).mpr (h hs))
def zq11_M (_ : Nat) : List Bool := []
noncomputable def zq11_c : Code := Try.f13.body.getD .skip
noncomputable def zq11_r : List ResultVar := Try.f13.results.toList
def zq11 (t0 : AV) (H : Heap) (K : Kt) : Prop :=
 aBox t0 H fun t1 H =>
 aFld 0 t1 fun t3 =>
 aLoad false 1 t3 H fun t4 =>
 ACalls tP n_zq39 [t4] H fun t5 H =>
 aGuardJ t5 true H (fun k => aLoad true 4 t1 H (k · H)) fun t7 H =>
 aGuardJ t5 true H (fun k => ACalls tP n_zq40 [t7] H k) fun t8 H =>
 aPick t5 t8 (.bool false) fun t9 =>
 aGuardJ t9 true H (fun k => aLoad true 4 t1 H (k · H)) fun t11 H =>
 aGuardJ t9 true H (fun k => ACalls tP n_zq41 [t11] H k) fun t12 H =>
 aPick t9 t12 (.bool false) fun t13 =>
 aGuardJ t13 true H (fun k => aLoad true 4 t1 H (k · H)) fun t15 H =>
 aGuardJ t13 true H (fun k => ACalls tP n_zq42 [t15] H k) fun t16 H =>
 aPick t13 t16 (.bool false) fun t17 =>
 aGuardJ t17 true H (fun k => aLoad true 4 t1 H (k · H)) fun t19 H =>
 aGuardJ t17 true H (fun k => ACalls tP n_zq43 [t19] H k) fun t20 H =>
 aPick t17 t20 (.bool false) fun t21 =>
 aGuardJ t21 true H (fun k => aLoad true 4 t1 H (k · H)) fun t23 H =>
 aGuardJ t21 true H (fun k => ACalls tP n_zq44 [t23] H k) fun t24 H =>
 aPick t21 t24 (.bool false) fun t25 =>
 aGuardJ t25 true H (fun k => aLoad true 4 t1 H (k · H)) fun t27 H =>
 aGuardJ t25 true H (fun k => ACalls tP n_zq45 [t27] H k) fun t28 H =>
 aPick t25 t28 (.bool false) fun t29 =>
 K t29 H
theorem zq11_eq (t0 : AV) (H : Heap) (K : Kt) : awp tP zq11_M zq11_c (retQ tP zq11_r K) (t0 :: List.replicate 29 .unk) H = zq11 t0 H K := by kernel_rfl
theorem zq11_ok {t0 : AV} {H : Heap} {K : Kt} (h : HSc H → zq11 t0 H K) : ACalls tP n_zq11 [t0] H K :=
 acalls_body (M := zq11_M) Try.func13 (c := zq11_c) (by kernel_rfl) (fun hs => (zq11_eq t0 H K).mpr (h hs))
end Go.Proofs.Ytkdmpbhbmmhijaa
