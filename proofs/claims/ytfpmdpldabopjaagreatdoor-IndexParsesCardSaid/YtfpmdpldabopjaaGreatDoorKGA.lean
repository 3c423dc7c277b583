/- The shallow forms of functions of the program, printed by a program (absgen.py) off the translation, each tied to the model by the kernel. -/
import Derived.Test.YtfpmdpldabopjaaGreatDoorKNum
import Derived.Test.YtfpmdpldabopjaaGreatDoorProg
import Derived.KernelRfl
namespace Go.Proofs.YtfpmdpldabopjaaGreatDoor
open Go Go.Abs
set_option linter.unusedVariables false
set_option maxRecDepth 100000
def zq84_M (_ : Nat) : List Bool := []
noncomputable def zq84_c : Code := Tryz.f86.body.getD .skip
noncomputable def zq84_r : List ResultVar := Tryz.f86.results.toList
def zq84 (t0 : AV) (H : Heap) (K : Kt) : Prop :=
 aBox t0 H fun t1 H =>
 aFld 0 t1 fun t3 =>
 aLoad false 1 t3 H fun t4 =>
 ACalls Tryz.prog n_zq146 [t4] H fun t5 H =>
 aGuardJ t5 true H (fun K' => aLoad true 4 t1 H (K' · H)) fun t7 H =>
 aGuardJ t5 true H (fun K' => ACalls Tryz.prog n_zq147 [t7] H K') fun t8 H =>
 aPick t5 t8 (.bool false) fun t9 =>
 aGuardJ t9 true H (fun K' => aLoad true 4 t1 H (K' · H)) fun t11 H =>
 aGuardJ t9 true H (fun K' => ACalls Tryz.prog n_zq148 [t11] H K') fun t12 H =>
 aPick t9 t12 (.bool false) fun t13 =>
 aGuardJ t13 true H (fun K' => aLoad true 4 t1 H (K' · H)) fun t15 H =>
 aGuardJ t13 true H (fun K' => ACalls Tryz.prog n_zq149 [t15] H K') fun t16 H =>
 aPick t13 t16 (.bool false) fun t17 =>
 aGuardJ t17 true H (fun K' => aLoad true 4 t1 H (K' · H)) fun t19 H =>
 aGuardJ t17 true H (fun K' => ACalls Tryz.prog n_zq150 [t19] H K') fun t20 H =>
 aPick t17 t20 (.bool false) fun t21 =>
 aGuardJ t21 true H (fun K' => aLoad true 4 t1 H (K' · H)) fun t23 H =>
 aGuardJ t21 true H (fun K' => ACalls Tryz.prog n_zq151 [t23] H K') fun t24 H =>
 aPick t21 t24 (.bool false) fun t25 =>
 aGuardJ t25 true H (fun K' => aLoad true 4 t1 H (K' · H)) fun t27 H =>
 aGuardJ t25 true H (fun K' => ACalls Tryz.prog n_zq152 [t27] H K') fun t28 H =>
 aPick t25 t28 (.bool false) fun t29 =>
 K t29 H
theorem zq84_eq (t0 : AV) (H : Heap) (K : Kt) : awp Tryz.prog zq84_M zq84_c (retQ Tryz.prog zq84_r K) (t0 :: List.replicate 29 .unk) H = zq84 t0 H K := by kernel_rfl
theorem zq84_ok {t0 : AV} {H : Heap} {K : Kt} (h : HSc H → zq84 t0 H K) : ACalls Tryz.prog n_zq84 [t0] H K :=
 acalls_body (M := zq84_M) Tryz.func86 (c := zq84_c) (by kernel_rfl) (fun hs => (zq84_eq t0 H K).mpr (h hs))
def zq147_M (_ : Nat) : List Bool := []
noncomputable def zq147_c : Code := Tryz.f149.body.getD .skip
noncomputable def zq147_r : List ResultVar := Tryz.f149.results.toList
def zq147 (t0 : AV) (H : Heap) (K : Kt) : Prop :=
 aBox t0 H fun t1 H =>
 aFld 2 t1 fun t3 =>
 aLoad false 1 t3 H fun t4 =>
 aLen 1 t4 fun t5 =>
 aBin .leq false t5 (.int .i64 3000) fun t6 =>
 aGuardJ t6 true H (fun K' => aFld 2 t1 (K' · H)) fun t8 H =>
 aGuardJ t6 true H (fun K' => aLoad false 1 t8 H (K' · H)) fun t9 H =>
 aGuardJ t6 true H (fun K' => aClos n_zq189 [t1] (K' · H)) fun t10 H =>
 aGuardJ t6 true H (fun K' => ACalls Tryz.prog n_zq144 [t9, t10] H K') fun t11 H =>
 aGuardJ t6 true H (fun K' => aUn .not t11 (K' · H)) fun t12 H =>
 aPick t6 t12 (.bool false) fun t13 =>
 K t13 H
theorem zq147_eq (t0 : AV) (H : Heap) (K : Kt) : awp Tryz.prog zq147_M zq147_c (retQ Tryz.prog zq147_r K) (t0 :: List.replicate 13 .unk) H = zq147 t0 H K := by kernel_rfl
theorem zq147_ok {t0 : AV} {H : Heap} {K : Kt} (h : HSc H → zq147 t0 H K) : ACalls Tryz.prog n_zq147 [t0] H K :=
 acalls_body (M := zq147_M) Tryz.func149 (c := zq147_c) (by kernel_rfl) (fun hs => (zq147_eq t0 H K).mpr (h hs))
def zq148_M : Nat → List Bool
 | 6 => rl false [1,1,1,2,14,3,59]
 | _ => []
noncomputable def zq148_c : Code := Tryz.f150.body.getD .skip
noncomputable def zq148_r : List ResultVar := Tryz.f150.results.toList
def zq148_fr6 (t1 t3 t4 t19 t20 t21 : AV) : List AV := ux 1 (t1 :: ux 1 (t3 :: t4 :: ux 14 (t19 :: t20 :: t21 :: ux 59 [])))
def zq148_m6 : List Bool := zq148_M 6
noncomputable def zq148_c6 : Code := codeAt [1, 1, 1, 1, 0, 1, 0, 0] zq148_c
def zq148_Q6 (K : Kt) : AExit → List AV → Heap → Prop := contAt Tryz.prog zq148_M [1, 1, 1, 1, 0, 1, 0] zq148_c (retQ Tryz.prog zq148_r K)
def zq148_l6 (t1 t3 t4 t19 t20 t21 : AV) (H : Heap) (K : Kt) : Prop := ALoop Tryz.prog zq148_c6 (zq148_Q6 K) (zq148_fr6 t1 t3 t4 t19 t20 t21) H
def zq148_j1 (t1 t3 t4 t6 t19 t20 t21 : AV) (H : Heap) (K : Kt) (Kb6 : Lt) : Prop :=
 aFld 0 t6 fun t42 =>
 aLoad false 1 t42 H fun t43 =>
 aMUpd t3 t43 (.bool true) H fun H =>
 aFld 1 t6 fun t44 =>
 aLoad false 1 t44 H fun t45 =>
 aLen 1 t45 fun t46 =>
 aBin .gtr false t46 (.int .i64 6) fun t47 =>
 aGuardJ t47 false H (fun K' => aFld 0 t1 (K' · H)) fun t49 H =>
 aGuardJ t47 false H (fun K' => aLoad false 1 t49 H (K' · H)) fun t50 H =>
 aGuardJ t47 false H (fun K' => aFld 3 t6 (K' · H)) fun t51 H =>
 aGuardJ t47 false H (fun K' => aLoad true 3 t51 H (K' · H)) fun t52 H =>
 aGuardJ t47 false H (fun K' => ACalls Tryz.prog n_zq85 [t50, t52, (.int .i64 0)] H K') fun t53 H =>
 aGuardJ t47 false H (fun K' => aUn .not t53 (K' · H)) fun t54 H =>
 aPick t47 (.bool true) t54 fun t55 =>
 aTest t55
 (K (.bool false) H)
 (aPure H (fun K' => aFld 6 t6 (K' · H)) fun t56 =>
 aPure H (fun K' => aLoadC false 1 t56 H (K' · H)) fun t57 =>
 aPure H (fun K' => aBin .lss false t57 (.int .i64 0) (K' · H)) fun t58 =>
 aPure H (fun K' => K' t58 H) fun t59 =>
 aGuardJ t59 false H (fun K' => aPure H (fun K'' => aFld 6 t6 (K'' · H)) (K' · H)) fun t60 H =>
 aGuardJ t59 false H (fun K' => aPure H (fun K'' => aLoadC false 1 t60 H (K'' · H)) (K' · H)) fun t61 H =>
 aGuardJ t59 false H (fun K' => aPure H (fun K'' => aFld 3 t1 (K'' · H)) (K' · H)) fun t62 H =>
 aGuardJ t59 false H (fun K' => aPure H (fun K'' => aLoadC false 1 t62 H (K'' · H)) (K' · H)) fun t63 H =>
 aGuardJ t59 false H (fun K' => aPure H (fun K'' => aLen 1 t63 (K'' · H)) (K' · H)) fun t64 H =>
 aGuardJ t59 false H (fun K' => aPure H (fun K'' => aBin .geq false t61 t64 (K'' · H)) (K' · H)) fun t65 H =>
 aPure H (fun K' => aPick t59 (.bool true) t65 (K' · H)) fun t66 =>
 aPure H (fun K' => K' t66 H) fun t67 =>
 aGuardJ t67 false H (fun K' => aPure H (fun K'' => aFld 3 t1 (K'' · H)) (K' · H)) fun t68 H =>
 aGuardJ t67 false H (fun K' => aPure H (fun K'' => aLoadC false 1 t68 H (K'' · H)) (K' · H)) fun t69 H =>
 aGuardJ t67 false H (fun K' => aPure H (fun K'' => aFld 6 t6 (K'' · H)) (K' · H)) fun t70 H =>
 aGuardJ t67 false H (fun K' => aPure H (fun K'' => aLoadC false 1 t70 H (K'' · H)) (K' · H)) fun t71 H =>
 aGuardJ t67 false H (fun K' => aPure H (fun K'' => aIdxA 8 t69 t71 (K'' · H)) (K' · H)) fun t72 H =>
 aGuardJ t67 false H (fun K' => aPure H (fun K'' => aFld 5 t72 (K'' · H)) (K' · H)) fun t73 H =>
 aGuardJ t67 false H (fun K' => aPure H (fun K'' => aLoadC true 3 t73 H (K'' · H)) (K' · H)) fun t74 H =>
 aGuardJ t67 false H (fun K' => aPure H (fun K'' => aFld 3 t6 (K'' · H)) (K' · H)) fun t75 H =>
 aGuardJ t67 false H (fun K' => aPure H (fun K'' => aLoadC true 3 t75 H (K'' · H)) (K' · H)) fun t76 H =>
 aGuardJ t67 false H (fun K' => aPureX H (fun H K'' => ACalls Tryz.prog n_zq190 [t74, t76] H K'') (K' · H)) fun t77 H =>
 aGuardJ t67 false H (fun K' => aPure H (fun K'' => aUn .not t77 (K'' · H)) (K' · H)) fun t78 H =>
 aPure H (fun K' => aPick t67 (.bool true) t78 (K' · H)) fun t79 =>
 aTest t79
 (K (.bool false) H)
 (aBin .add false t21 (.int .i64 1) fun t80 =>
 Kb6 (zq148_fr6 t1 t3 t4 t19 t20 t80) H))
def zq148_b6 (t1 t3 t4 t19 t20 t21 : AV) (H : Heap) (K : Kt) (Kb6 : Lt) : Prop :=
 aBin .lss false t21 t20 fun t22 =>
 aTest t22
 (aIdxA 7 t19 t21 fun t23 =>
 aLoad true 7 t23 H fun t24 =>
 aNew [(.str []), .snil, .snil, (.int .i64 0), (.int .i64 0), .snil, (.int .i64 0)] H fun t6 H =>
 aStore 7 t6 t24 H fun H =>
 aFld 0 t6 fun t25 =>
 aLoad false 1 t25 H fun t26 =>
 aBin .eql false t26 (.str []) fun t27 =>
 aTest t27
 (zq148_j1 t1 t3 (.bool true) t6 t19 t20 t21 H K Kb6)
 (aGuardJ t4 false H (fun K' => K' t3 H) fun t30 H =>
 aGuardJ t4 false H (fun K' => aFld 0 t6 (K' · H)) fun t31 H =>
 aGuardJ t4 false H (fun K' => aLoad false 1 t31 H (K' · H)) fun t32 H =>
 aGuardJ t4 false H (fun K' => aLkp (.bool false) false t30 t32 H (K' · H)) fun t33 H =>
 aPick t4 (.bool true) t33 fun t34 =>
 aGuardJ t34 false H (fun K' => aFld 2 t6 (K' · H)) fun t36 H =>
 aGuardJ t34 false H (fun K' => aLoad false 1 t36 H (K' · H)) fun t37 H =>
 aGuardJ t34 false H (fun K' => aLen 1 t37 (K' · H)) fun t38 H =>
 aGuardJ t34 false H (fun K' => aBin .gtr false t38 (.int .i64 0) (K' · H)) fun t39 H =>
 aPick t34 (.bool true) t39 fun t40 =>
 aTest t40
 (K (.bool false) H)
 (zq148_j1 t1 t3 t4 t6 t19 t20 t21 H K Kb6)))
 (K (.bool true) H)
def zq148 (t0 : AV) (H : Heap) (K : Kt) : Prop :=
 aBox t0 H fun t1 H =>
 aFld 1 t1 fun t7 =>
 aLoad false 1 t7 H fun t8 =>
 aLen 1 t8 fun t9 =>
 aBin .gtr false t9 (.int .i64 64) fun t10 =>
 aGuardJ t10 false H (fun K' => aFld 3 t1 (K' · H)) fun t12 H =>
 aGuardJ t10 false H (fun K' => aLoad false 1 t12 H (K' · H)) fun t13 H =>
 aGuardJ t10 false H (fun K' => aLen 1 t13 (K' · H)) fun t14 H =>
 aGuardJ t10 false H (fun K' => aBin .gtr false t14 (.int .i64 3000) (K' · H)) fun t15 H =>
 aPick t10 (.bool true) t15 fun t16 =>
 aTest t16
 (K (.bool false) H)
 (aMkMap H fun t17 H =>
 aFld 1 t1 fun t18 =>
 aLoad false 1 t18 H fun t19 =>
 aLen 1 t19 fun t20 =>
 zq148_l6 t1 t17 (.bool false) t19 t20 (.int .i64 0) H K)
theorem zq148_b6_eq (t1 t3 t4 t19 t20 t21 : AV) (H : Heap) (K : Kt) (Kb6 : Lt) : awp Tryz.prog zq148_M zq148_c6 (roundQ zq148_m6 Kb6 (zq148_Q6 K)) (zq148_fr6 t1 t3 t4 t19 t20 t21) H = zq148_b6 t1 t3 t4 t19 t20 t21 H K Kb6 := by kernel_rfl
theorem zq148_loop6 {t1 t3 t4 t19 t20 t21 : AV} {H : Heap} {K : Kt} (Inv : Nat → AV → AV → Heap → Prop) (n : Nat) (h0 : HSc H → Inv n t4 t21 H)
   (round : ∀ n t4 t21 H', Inv n t4 t21 H' → HSc H' → H.length ≤ H'.length → (zq148_fr6 t1 t3 t4 t19 t20 t21).all (AV.sc H'.length) = true → ∀ Kb6 : Lt, (∀ F'' H'', (∃ n', n' < n ∧ Back H.length (fun F2 H2 => ∃ t4 t21, F2 = zq148_fr6 t1 t3 t4 t19 t20 t21 ∧ Inv n' t4 t21 H2) F'' H'') → Kb6 F'' H'') → zq148_b6 t1 t3 t4 t19 t20 t21 H' K Kb6) : zq148_l6 t1 t3 t4 t19 t20 t21 H K :=
 aloop (M := zq148_M) zq148_m6 (fun n F H => ∃ t4 t21, F = zq148_fr6 t1 t3 t4 t19 t20 t21 ∧ Inv n t4 t21 H) n (fun hs _ => ⟨t4, t21, rfl, h0 hs⟩) (fun n F H' ⟨t4, t21, hF, hI⟩ h1 h2 h3 => by subst hF; rw [zq148_b6_eq]; exact round n t4 t21 H' hI h1 h2 h3 _ (fun _ _ h => h))
theorem zq148_eq (t0 : AV) (H : Heap) (K : Kt) : awp Tryz.prog zq148_M zq148_c (retQ Tryz.prog zq148_r K) (t0 :: List.replicate 80 .unk) H = zq148 t0 H K := by kernel_rfl
theorem zq148_ok {t0 : AV} {H : Heap} {K : Kt} (h : HSc H → zq148 t0 H K) : ACalls Tryz.prog n_zq148 [t0] H K :=
 acalls_body (M := zq148_M) Tryz.func150 (c := zq148_c) (by kernel_rfl) (fun hs => (zq148_eq t0 H K).mpr (h hs))
def zq149_M : Nat → List Bool
 | 5 => rl false [1,1,2,2,12,3,54]
 | 11 => rl false [1,1,2,2,25,3,41]
 | 16 => rl false [1,1,2,2,2,1,22,3,12,3,26]
 | _ => []
noncomputable def zq149_c : Code := Tryz.f151.body.getD .skip
noncomputable def zq149_r : List ResultVar := Tryz.f151.results.toList
def zq149_fr5 (t1 t4 t5 t18 t19 t20 : AV) : List AV := ux 1 (t1 :: ux 2 (t4 :: t5 :: ux 12 (t18 :: t19 :: t20 :: ux 54 [])))
def zq149_m5 : List Bool := zq149_M 5
noncomputable def zq149_c5 : Code := codeAt [1, 1, 1, 1, 0, 1, 0, 0] zq149_c
def zq149_Q5 (K : Kt) : AExit → List AV → Heap → Prop := contAt Tryz.prog zq149_M [1, 1, 1, 1, 0, 1, 0] zq149_c (retQ Tryz.prog zq149_r K)
def zq149_l5 (t1 t4 t5 t18 t19 t20 : AV) (H : Heap) (K : Kt) : Prop := ALoop Tryz.prog zq149_c5 (zq149_Q5 K) (zq149_fr5 t1 t4 t5 t18 t19 t20) H
def zq149_fr11 (t1 t4 t5 t31 t32 t33 : AV) : List AV := ux 1 (t1 :: ux 2 (t4 :: t5 :: ux 25 (t31 :: t32 :: t33 :: ux 41 [])))
def zq149_m11 : List Bool := zq149_M 11
noncomputable def zq149_c11 : Code := codeAt [1, 1, 1, 1, 1, 0, 1, 0, 0] zq149_c
def zq149_Q11 (K : Kt) : AExit → List AV → Heap → Prop := contAt Tryz.prog zq149_M [1, 1, 1, 1, 1, 0, 1, 0] zq149_c (retQ Tryz.prog zq149_r K)
def zq149_l11 (t1 t4 t5 t31 t32 t33 : AV) (H : Heap) (K : Kt) : Prop := ALoop Tryz.prog zq149_c11 (zq149_Q11 K) (zq149_fr11 t1 t4 t5 t31 t32 t33) H
def zq149_fr16 (t1 t4 t5 t8 t31 t32 t33 t46 t47 t48 : AV) : List AV := ux 1 (t1 :: ux 2 (t4 :: t5 :: ux 2 (t8 :: ux 22 (t31 :: t32 :: t33 :: ux 12 (t46 :: t47 :: t48 :: ux 26 [])))))
noncomputable def zq149_c16 : Code := codeAt [1, 1, 0, 0, 1, 1, 1, 0, 0] zq149_c11
def zq149_Q16 (K : Kt) (Kb11 : Lt) : AExit → List AV → Heap → Prop := contAt Tryz.prog zq149_M [1, 1, 0, 0, 1, 1, 1, 0] zq149_c11 (roundQ zq149_m11 Kb11 (zq149_Q11 K))
def zq149_l16 (t1 t4 t5 t8 t31 t32 t33 t46 t47 t48 : AV) (H : Heap) (K : Kt) (Kb11 : Lt) : Prop := ALoop Tryz.prog zq149_c16 (zq149_Q16 K Kb11) (zq149_fr16 t1 t4 t5 t8 t31 t32 t33 t46 t47 t48) H
def zq149_b11 (t1 t4 t5 t31 t32 t33 : AV) (H : Heap) (K : Kt) (Kb11 : Lt) : Prop :=
 aBin .lss false t33 t32 fun t34 =>
 aTest t34
 (aIdxA 8 t31 t33 fun t36 =>
 aLoad true 8 t36 H fun t37 =>
 aNew [(.int .i64 0), (.int .i64 0), .snil, .snil, .snil, (.int .i64 0), (.int .i64 0), .snil] H fun t9 H =>
 aStore 8 t9 t37 H fun H =>
 aFld 3 t9 fun t38 =>
 aLoad false 1 t38 H fun t39 =>
 aLen 1 t39 fun t40 =>
 aFld 4 t9 fun t41 =>
 aLoad false 1 t41 H fun t42 =>
 aLen 1 t42 fun t43 =>
 aBin .neq false t40 t43 fun t44 =>
 aTest t44
 (K (.bool false) H)
 (aFld 4 t9 fun t45 =>
 aLoad false 1 t45 H fun t46 =>
 aLen 1 t46 fun t47 =>
 zq149_l16 t1 t4 t5 t33 t31 t32 t33 t46 t47 (.int .i64 0) H K Kb11))
 (aLoad false 1 t4 H fun t70 =>
 aFld 3 t1 fun t71 =>
 aLoad false 1 t71 H fun t72 =>
 aLen 1 t72 fun t73 =>
 aBin .eql false t70 t73 fun t74 =>
 K t74 H)
def zq149_b5 (t1 t4 t5 t18 t19 t20 : AV) (H : Heap) (K : Kt) (Kb5 : Lt) : Prop :=
 aBin .lss false t20 t19 fun t21 =>
 aTest t21
 (aIdxA 7 t18 t20 fun t22 =>
 aLoad true 7 t22 H fun t23 =>
 aNew [(.str []), .snil, .snil, (.int .i64 0), (.int .i64 0), .snil, (.int .i64 0)] H fun t7 H =>
 aStore 7 t7 t23 H fun H =>
 aFld 6 t7 fun t25 =>
 aLoad false 1 t25 H fun t26 =>
 aCallV Tryz.prog t5 [t26] H fun t27 H =>
 aUn .not t27 fun t28 =>
 aTest t28
 (K (.bool false) H)
 (aBin .add false t20 (.int .i64 1) fun t29 =>
 Kb5 (zq149_fr5 t1 t4 t5 t18 t19 t29) H))
 (aFld 3 t1 fun t30 =>
 aLoad false 1 t30 H fun t31 =>
 aLen 1 t31 fun t32 =>
 zq149_l11 t1 t4 t5 t31 t32 (.int .i64 0) H K)
def zq149 (t0 : AV) (H : Heap) (K : Kt) : Prop :=
 aBox t0 H fun t1 H =>
 aFld 3 t1 fun t12 =>
 aLoad false 1 t12 H fun t13 =>
 aLen 1 t13 fun t14 =>
 aMake 1 [(.bool false)] t14 t14 H fun t15 H =>
 aNew [.snil] H fun t3 H =>
 aStore 1 t3 t15 H fun H =>
 aNew [(.int .i64 0)] H fun t4 H =>
 aStore 1 t4 (.int .i64 0) H fun H =>
 aClos n_zq191 [t3, t4] fun t16 =>
 aFld 1 t1 fun t17 =>
 aLoad false 1 t17 H fun t18 =>
 aLen 1 t18 fun t19 =>
 zq149_l5 t1 t4 t16 t18 t19 (.int .i64 0) H K
theorem zq149_b11_eq (t1 t4 t5 t31 t32 t33 : AV) (H : Heap) (K : Kt) (Kb11 : Lt) : awp Tryz.prog zq149_M zq149_c11 (roundQ zq149_m11 Kb11 (zq149_Q11 K)) (zq149_fr11 t1 t4 t5 t31 t32 t33) H = zq149_b11 t1 t4 t5 t31 t32 t33 H K Kb11 := by kernel_rfl
theorem zq149_loop11 {t1 t4 t5 t31 t32 t33 : AV} {H : Heap} {K : Kt} (Inv : Nat → AV → Heap → Prop) (n : Nat) (h0 : HSc H → Inv n t33 H)
   (round : ∀ n t33 H', Inv n t33 H' → HSc H' → H.length ≤ H'.length → (zq149_fr11 t1 t4 t5 t31 t32 t33).all (AV.sc H'.length) = true → ∀ Kb11 : Lt, (∀ F'' H'', (∃ n', n' < n ∧ Back H.length (fun F2 H2 => ∃ t33, F2 = zq149_fr11 t1 t4 t5 t31 t32 t33 ∧ Inv n' t33 H2) F'' H'') → Kb11 F'' H'') → zq149_b11 t1 t4 t5 t31 t32 t33 H' K Kb11) : zq149_l11 t1 t4 t5 t31 t32 t33 H K :=
 aloop (M := zq149_M) zq149_m11 (fun n F H => ∃ t33, F = zq149_fr11 t1 t4 t5 t31 t32 t33 ∧ Inv n t33 H) n (fun hs _ => ⟨t33, rfl, h0 hs⟩) (fun n F H' ⟨t33, hF, hI⟩ h1 h2 h3 => by subst hF; rw [zq149_b11_eq]; exact round n t33 H' hI h1 h2 h3 _ (fun _ _ h => h))
theorem zq149_b5_eq (t1 t4 t5 t18 t19 t20 : AV) (H : Heap) (K : Kt) (Kb5 : Lt) : awp Tryz.prog zq149_M zq149_c5 (roundQ zq149_m5 Kb5 (zq149_Q5 K)) (zq149_fr5 t1 t4 t5 t18 t19 t20) H = zq149_b5 t1 t4 t5 t18 t19 t20 H K Kb5 := by kernel_rfl
theorem zq149_loop5 {t1 t4 t5 t18 t19 t20 : AV} {H : Heap} {K : Kt} (Inv : Nat → AV → Heap → Prop) (n : Nat) (h0 : HSc H → Inv n t20 H)
   (round : ∀ n t20 H', Inv n t20 H' → HSc H' → H.length ≤ H'.length → (zq149_fr5 t1 t4 t5 t18 t19 t20).all (AV.sc H'.length) = true → ∀ Kb5 : Lt, (∀ F'' H'', (∃ n', n' < n ∧ Back H.length (fun F2 H2 => ∃ t20, F2 = zq149_fr5 t1 t4 t5 t18 t19 t20 ∧ Inv n' t20 H2) F'' H'') → Kb5 F'' H'') → zq149_b5 t1 t4 t5 t18 t19 t20 H' K Kb5) : zq149_l5 t1 t4 t5 t18 t19 t20 H K :=
 aloop (M := zq149_M) zq149_m5 (fun n F H => ∃ t20, F = zq149_fr5 t1 t4 t5 t18 t19 t20 ∧ Inv n t20 H) n (fun hs _ => ⟨t20, rfl, h0 hs⟩) (fun n F H' ⟨t20, hF, hI⟩ h1 h2 h3 => by subst hF; rw [zq149_b5_eq]; exact round n t20 H' hI h1 h2 h3 _ (fun _ _ h => h))
theorem zq149_eq (t0 : AV) (H : Heap) (K : Kt) : awp Tryz.prog zq149_M zq149_c (retQ Tryz.prog zq149_r K) (t0 :: List.replicate 74 .unk) H = zq149 t0 H K := by kernel_rfl
theorem zq149_ok {t0 : AV} {H : Heap} {K : Kt} (h : HSc H → zq149 t0 H K) : ACalls Tryz.prog n_zq149 [t0] H K :=
 acalls_body (M := zq149_M) Tryz.func151 (c := zq149_c) (by kernel_rfl) (fun hs => (zq149_eq t0 H K).mpr (h hs))
def zq150_M : Nat → List Bool
 | 5 => rl false [1,1,2,2,12,3,41]
 | 11 => rl false [1,1,2,2,32,3,21]
 | 14 => rl false [1,1,2,2,32,3,4,3,14]
 | _ => []
noncomputable def zq150_c : Code := Tryz.f152.body.getD .skip
noncomputable def zq150_r : List ResultVar := Tryz.f152.results.toList
def zq150_fr5 (t1 t4 t5 t18 t19 t20 : AV) : List AV := ux 1 (t1 :: ux 2 (t4 :: t5 :: ux 12 (t18 :: t19 :: t20 :: ux 41 [])))
def zq150_m5 : List Bool := zq150_M 5
noncomputable def zq150_c5 : Code := codeAt [1, 1, 1, 1, 0, 1, 0, 0] zq150_c
def zq150_Q5 (K : Kt) : AExit → List AV → Heap → Prop := contAt Tryz.prog zq150_M [1, 1, 1, 1, 0, 1, 0] zq150_c (retQ Tryz.prog zq150_r K)
def zq150_l5 (t1 t4 t5 t18 t19 t20 : AV) (H : Heap) (K : Kt) : Prop := ALoop Tryz.prog zq150_c5 (zq150_Q5 K) (zq150_fr5 t1 t4 t5 t18 t19 t20) H
def zq150_fr11 (t1 t4 t5 t38 t39 t40 : AV) : List AV := ux 1 (t1 :: ux 2 (t4 :: t5 :: ux 32 (t38 :: t39 :: t40 :: ux 21 [])))
def zq150_m11 : List Bool := zq150_M 11
noncomputable def zq150_c11 : Code := codeAt [1, 1, 1, 1, 1, 0, 1, 0, 0] zq150_c
def zq150_Q11 (K : Kt) : AExit → List AV → Heap → Prop := contAt Tryz.prog zq150_M [1, 1, 1, 1, 1, 0, 1, 0] zq150_c (retQ Tryz.prog zq150_r K)
def zq150_l11 (t1 t4 t5 t38 t39 t40 : AV) (H : Heap) (K : Kt) : Prop := ALoop Tryz.prog zq150_c11 (zq150_Q11 K) (zq150_fr11 t1 t4 t5 t38 t39 t40) H
def zq150_fr14 (t1 t4 t5 t38 t39 t40 t45 t46 t47 : AV) : List AV := ux 1 (t1 :: ux 2 (t4 :: t5 :: ux 32 (t38 :: t39 :: t40 :: ux 4 (t45 :: t46 :: t47 :: ux 14 []))))
noncomputable def zq150_c14 : Code := codeAt [1, 1, 0, 0, 1, 1, 0, 0] zq150_c11
def zq150_Q14 (K : Kt) (Kb11 : Lt) : AExit → List AV → Heap → Prop := contAt Tryz.prog zq150_M [1, 1, 0, 0, 1, 1, 0] zq150_c11 (roundQ zq150_m11 Kb11 (zq150_Q11 K))
def zq150_l14 (t1 t4 t5 t38 t39 t40 t45 t46 t47 : AV) (H : Heap) (K : Kt) (Kb11 : Lt) : Prop := ALoop Tryz.prog zq150_c14 (zq150_Q14 K Kb11) (zq150_fr14 t1 t4 t5 t38 t39 t40 t45 t46 t47) H
def zq150_b11 (t1 t4 t5 t38 t39 t40 : AV) (H : Heap) (K : Kt) (Kb11 : Lt) : Prop :=
 aBin .lss false t40 t39 fun t41 =>
 aTest t41
 (aIdxA 8 t38 t40 fun t42 =>
 aLoad true 8 t42 H fun t43 =>
 aNew [(.int .i64 0), (.int .i64 0), .snil, .snil, .snil, (.int .i64 0), (.int .i64 0), .snil] H fun t9 H =>
 aStore 8 t9 t43 H fun H =>
 aFld 3 t9 fun t44 =>
 aLoad false 1 t44 H fun t45 =>
 aLen 1 t45 fun t46 =>
 zq150_l14 t1 t4 t5 t38 t39 t40 t45 t46 (.int .i64 0) H K Kb11)
 (aLoad false 1 t4 H fun t57 =>
 aFld 2 t1 fun t58 =>
 aLoad false 1 t58 H fun t59 =>
 aLen 1 t59 fun t60 =>
 aBin .eql false t57 t60 fun t61 =>
 K t61 H)
def zq150_b5 (t1 t4 t5 t18 t19 t20 : AV) (H : Heap) (K : Kt) (Kb5 : Lt) : Prop :=
 aBin .lss false t20 t19 fun t21 =>
 aTest t21
 (aIdxA 7 t18 t20 fun t22 =>
 aLoad true 7 t22 H fun t23 =>
 aNew [(.str []), .snil, .snil, (.int .i64 0), (.int .i64 0), .snil, (.int .i64 0)] H fun t7 H =>
 aStore 7 t7 t23 H fun H =>
 aFld 1 t7 fun t25 =>
 aLoad false 1 t25 H fun t26 =>
 aCallV Tryz.prog t5 [t26] H fun t27 H =>
 aUn .not t27 fun t28 =>
 aGuardJ t28 false H (fun K' => K' t5 H) fun t30 H =>
 aGuardJ t28 false H (fun K' => aFld 2 t7 (K' · H)) fun t31 H =>
 aGuardJ t28 false H (fun K' => aLoad false 1 t31 H (K' · H)) fun t32 H =>
 aGuardJ t28 false H (fun K' => aCallV Tryz.prog t30 [t32] H K') fun t33 H =>
 aGuardJ t28 false H (fun K' => aUn .not t33 (K' · H)) fun t34 H =>
 aPick t28 (.bool true) t34 fun t35 =>
 aTest t35
 (K (.bool false) H)
 (aBin .add false t20 (.int .i64 1) fun t36 =>
 Kb5 (zq150_fr5 t1 t4 t5 t18 t19 t36) H))
 (aFld 3 t1 fun t37 =>
 aLoad false 1 t37 H fun t38 =>
 aLen 1 t38 fun t39 =>
 zq150_l11 t1 t4 t5 t38 t39 (.int .i64 0) H K)
def zq150 (t0 : AV) (H : Heap) (K : Kt) : Prop :=
 aBox t0 H fun t1 H =>
 aFld 2 t1 fun t12 =>
 aLoad false 1 t12 H fun t13 =>
 aLen 1 t13 fun t14 =>
 aMake 1 [(.bool false)] t14 t14 H fun t15 H =>
 aNew [.snil] H fun t3 H =>
 aStore 1 t3 t15 H fun H =>
 aNew [(.int .i64 0)] H fun t4 H =>
 aStore 1 t4 (.int .i64 0) H fun H =>
 aClos n_zq192 [t3, t4] fun t16 =>
 aFld 1 t1 fun t17 =>
 aLoad false 1 t17 H fun t18 =>
 aLen 1 t18 fun t19 =>
 zq150_l5 t1 t4 t16 t18 t19 (.int .i64 0) H K
theorem zq150_b11_eq (t1 t4 t5 t38 t39 t40 : AV) (H : Heap) (K : Kt) (Kb11 : Lt) : awp Tryz.prog zq150_M zq150_c11 (roundQ zq150_m11 Kb11 (zq150_Q11 K)) (zq150_fr11 t1 t4 t5 t38 t39 t40) H = zq150_b11 t1 t4 t5 t38 t39 t40 H K Kb11 := by kernel_rfl
theorem zq150_loop11 {t1 t4 t5 t38 t39 t40 : AV} {H : Heap} {K : Kt} (Inv : Nat → AV → Heap → Prop) (n : Nat) (h0 : HSc H → Inv n t40 H)
   (round : ∀ n t40 H', Inv n t40 H' → HSc H' → H.length ≤ H'.length → (zq150_fr11 t1 t4 t5 t38 t39 t40).all (AV.sc H'.length) = true → ∀ Kb11 : Lt, (∀ F'' H'', (∃ n', n' < n ∧ Back H.length (fun F2 H2 => ∃ t40, F2 = zq150_fr11 t1 t4 t5 t38 t39 t40 ∧ Inv n' t40 H2) F'' H'') → Kb11 F'' H'') → zq150_b11 t1 t4 t5 t38 t39 t40 H' K Kb11) : zq150_l11 t1 t4 t5 t38 t39 t40 H K :=
 aloop (M := zq150_M) zq150_m11 (fun n F H => ∃ t40, F = zq150_fr11 t1 t4 t5 t38 t39 t40 ∧ Inv n t40 H) n (fun hs _ => ⟨t40, rfl, h0 hs⟩) (fun n F H' ⟨t40, hF, hI⟩ h1 h2 h3 => by subst hF; rw [zq150_b11_eq]; exact round n t40 H' hI h1 h2 h3 _ (fun _ _ h => h))
theorem zq150_b5_eq (t1 t4 t5 t18 t19 t20 : AV) (H : Heap) (K : Kt) (Kb5 : Lt) : awp Tryz.prog zq150_M zq150_c5 (roundQ zq150_m5 Kb5 (zq150_Q5 K)) (zq150_fr5 t1 t4 t5 t18 t19 t20) H = zq150_b5 t1 t4 t5 t18 t19 t20 H K Kb5 := by kernel_rfl
theorem zq150_loop5 {t1 t4 t5 t18 t19 t20 : AV} {H : Heap} {K : Kt} (Inv : Nat → AV → Heap → Prop) (n : Nat) (h0 : HSc H → Inv n t20 H)
   (round : ∀ n t20 H', Inv n t20 H' → HSc H' → H.length ≤ H'.length → (zq150_fr5 t1 t4 t5 t18 t19 t20).all (AV.sc H'.length) = true → ∀ Kb5 : Lt, (∀ F'' H'', (∃ n', n' < n ∧ Back H.length (fun F2 H2 => ∃ t20, F2 = zq150_fr5 t1 t4 t5 t18 t19 t20 ∧ Inv n' t20 H2) F'' H'') → Kb5 F'' H'') → zq150_b5 t1 t4 t5 t18 t19 t20 H' K Kb5) : zq150_l5 t1 t4 t5 t18 t19 t20 H K :=
 aloop (M := zq150_M) zq150_m5 (fun n F H => ∃ t20, F = zq150_fr5 t1 t4 t5 t18 t19 t20 ∧ Inv n t20 H) n (fun hs _ => ⟨t20, rfl, h0 hs⟩) (fun n F H' ⟨t20, hF, hI⟩ h1 h2 h3 => by subst hF; rw [zq150_b5_eq]; exact round n t20 H' hI h1 h2 h3 _ (fun _ _ h => h))
theorem zq150_eq (t0 : AV) (H : Heap) (K : Kt) : awp Tryz.prog zq150_M zq150_c (retQ Tryz.prog zq150_r K) (t0 :: List.replicate 61 .unk) H = zq150 t0 H K := by kernel_rfl
theorem zq150_ok {t0 : AV} {H : Heap} {K : Kt} (h : HSc H → zq150 t0 H K) : ACalls Tryz.prog n_zq150 [t0] H K :=
 acalls_body (M := zq150_M) Tryz.func152 (c := zq150_c) (by kernel_rfl) (fun hs => (zq150_eq t0 H K).mpr (h hs))
def zq151_M : Nat → List Bool
 | 6 => rl false [4,2,9,3,25]
 | _ => []
noncomputable def zq151_c : Code := Tryz.f153.body.getD .skip
noncomputable def zq151_r : List ResultVar := Tryz.f153.results.toList
def zq151_fr6 (t4 t5 t15 t16 t17 : AV) : List AV := ux 4 (t4 :: t5 :: ux 9 (t15 :: t16 :: t17 :: ux 25 []))
def zq151_m6 : List Bool := zq151_M 6
noncomputable def zq151_c6 : Code := codeAt [1, 1, 1, 1, 1, 0, 1, 0, 0] zq151_c
def zq151_Q6 (K : Kt) : AExit → List AV → Heap → Prop := contAt Tryz.prog zq151_M [1, 1, 1, 1, 1, 0, 1, 0] zq151_c (retQ Tryz.prog zq151_r K)
def zq151_l6 (t4 t5 t15 t16 t17 : AV) (H : Heap) (K : Kt) : Prop := ALoop Tryz.prog zq151_c6 (zq151_Q6 K) (zq151_fr6 t4 t5 t15 t16 t17) H
def zq151_b6 (t4 t5 t15 t16 t17 : AV) (H : Heap) (K : Kt) (Kb6 : Lt) : Prop :=
 aBin .lss false t17 t16 fun t18 =>
 aTest t18
 (aIdxA 7 t15 t17 fun t19 =>
 aLoad true 7 t19 H fun t20 =>
 aNew [(.str []), .snil, .snil, (.int .i64 0), (.int .i64 0), .snil, (.int .i64 0)] H fun t7 H =>
 aStore 7 t7 t20 H fun H =>
 aLoad false 1 t4 H fun t21 =>
 aFld 1 t7 fun t22 =>
 aLoad false 1 t22 H fun t23 =>
 aCallV Tryz.prog t21 [t23, (.bool true)] H fun t24 H =>
 aLoad false 1 t4 H fun t25 =>
 aFld 2 t7 fun t26 =>
 aLoad false 1 t26 H fun t27 =>
 aCallV Tryz.prog t25 [t27, (.bool true)] H fun t28 H =>
 aLoad false 1 t5 H fun t29 =>
 aFld 6 t7 fun t30 =>
 aLoad false 1 t30 H fun t31 =>
 aCallV Tryz.prog t29 [t31] H fun t32 H =>
 aUn .not t32 fun t33 =>
 aTest t33
 (K (.bool false) H)
 (aLoad false 1 t4 H fun t34 =>
 aFld 1 t7 fun t35 =>
 aLoad false 1 t35 H fun t36 =>
 aCallV Tryz.prog t34 [t36, (.bool false)] H fun t37 H =>
 aLoad false 1 t4 H fun t38 =>
 aFld 2 t7 fun t39 =>
 aLoad false 1 t39 H fun t40 =>
 aCallV Tryz.prog t38 [t40, (.bool false)] H fun t41 H =>
 aBin .add false t17 (.int .i64 1) fun t42 =>
 Kb6 (zq151_fr6 t4 t5 t15 t16 t42) H))
 (K (.bool true) H)
def zq151 (t0 : AV) (H : Heap) (K : Kt) : Prop :=
 aBox t0 H fun t1 H =>
 aFld 2 t1 fun t8 =>
 aLoad false 1 t8 H fun t9 =>
 aLen 1 t9 fun t10 =>
 aMake 1 [(.bool false)] t10 t10 H fun t11 H =>
 aNew [.snil] H fun t3 H =>
 aStore 1 t3 t11 H fun H =>
 aClos n_zq193 [t3] fun t12 =>
 aNew [.nilfn] H fun t4 H =>
 aStore 1 t4 t12 H fun H =>
 aNew [.nilfn] H fun t5 H =>
 aClos n_zq194 [t1, t3, t4, t5] fun t13 =>
 aStore 1 t5 t13 H fun H =>
 aFld 1 t1 fun t14 =>
 aLoad false 1 t14 H fun t15 =>
 aLen 1 t15 fun t16 =>
 zq151_l6 t4 t5 t15 t16 (.int .i64 0) H K
theorem zq151_b6_eq (t4 t5 t15 t16 t17 : AV) (H : Heap) (K : Kt) (Kb6 : Lt) : awp Tryz.prog zq151_M zq151_c6 (roundQ zq151_m6 Kb6 (zq151_Q6 K)) (zq151_fr6 t4 t5 t15 t16 t17) H = zq151_b6 t4 t5 t15 t16 t17 H K Kb6 := by kernel_rfl
theorem zq151_loop6 {t4 t5 t15 t16 t17 : AV} {H : Heap} {K : Kt} (Inv : Nat → AV → Heap → Prop) (n : Nat) (h0 : HSc H → Inv n t17 H)
   (round : ∀ n t17 H', Inv n t17 H' → HSc H' → H.length ≤ H'.length → (zq151_fr6 t4 t5 t15 t16 t17).all (AV.sc H'.length) = true → ∀ Kb6 : Lt, (∀ F'' H'', (∃ n', n' < n ∧ Back H.length (fun F2 H2 => ∃ t17, F2 = zq151_fr6 t4 t5 t15 t16 t17 ∧ Inv n' t17 H2) F'' H'') → Kb6 F'' H'') → zq151_b6 t4 t5 t15 t16 t17 H' K Kb6) : zq151_l6 t4 t5 t15 t16 t17 H K :=
 aloop (M := zq151_M) zq151_m6 (fun n F H => ∃ t17, F = zq151_fr6 t4 t5 t15 t16 t17 ∧ Inv n t17 H) n (fun hs _ => ⟨t17, rfl, h0 hs⟩) (fun n F H' ⟨t17, hF, hI⟩ h1 h2 h3 => by subst hF; rw [zq151_b6_eq]; exact round n t17 H' hI h1 h2 h3 _ (fun _ _ h => h))
theorem zq151_eq (t0 : AV) (H : Heap) (K : Kt) : awp Tryz.prog zq151_M zq151_c (retQ Tryz.prog zq151_r K) (t0 :: List.replicate 42 .unk) H = zq151 t0 H K := by kernel_rfl
theorem zq151_ok {t0 : AV} {H : Heap} {K : Kt} (h : HSc H → zq151 t0 H K) : ACalls Tryz.prog n_zq151 [t0] H K :=
 acalls_body (M := zq151_M) Tryz.func153 (c := zq151_c) (by kernel_rfl) (fun hs => (zq151_eq t0 H K).mpr (h hs))
end Go.Proofs.YtfpmdpldabopjaaGreatDoor
namespace Go.Proofs.YtfpmdpldabopjaaGreatDoor
open Go Go.Abs
set_option linter.unusedVariables false
set_option maxRecDepth 100000
def zq152_M : Nat → List Bool
 | 3 => rl false [1,1,1,1,12,3,30]
 | 9 => rl false [3,1,24,3,18]
 | _ => []
noncomputable def zq152_c : Code := Tryz.f154.body.getD .skip
noncomputable def zq152_r : List ResultVar := Tryz.f154.results.toList
def zq152_fr3 (t1 t3 t16 t17 t18 : AV) : List AV := ux 1 (t1 :: ux 1 (t3 :: ux 12 (t16 :: t17 :: t18 :: ux 30 [])))
def zq152_m3 : List Bool := zq152_M 3
noncomputable def zq152_c3 : Code := codeAt [1, 1, 0, 1, 0, 0] zq152_c
def zq152_Q3 (K : Kt) : AExit → List AV → Heap → Prop := contAt Tryz.prog zq152_M [1, 1, 0, 1, 0] zq152_c (retQ Tryz.prog zq152_r K)
def zq152_l3 (t1 t3 t16 t17 t18 : AV) (H : Heap) (K : Kt) : Prop := ALoop Tryz.prog zq152_c3 (zq152_Q3 K) (zq152_fr3 t1 t3 t16 t17 t18) H
def zq152_fr9 (t3 t28 t29 t30 : AV) : List AV := ux 3 (t3 :: ux 24 (t28 :: t29 :: t30 :: ux 18 []))
def zq152_m9 : List Bool := zq152_M 9
noncomputable def zq152_c9 : Code := codeAt [1, 1, 1, 0, 1, 0, 0] zq152_c
def zq152_Q9 (K : Kt) : AExit → List AV → Heap → Prop := contAt Tryz.prog zq152_M [1, 1, 1, 0, 1, 0] zq152_c (retQ Tryz.prog zq152_r K)
def zq152_l9 (t3 t28 t29 t30 : AV) (H : Heap) (K : Kt) : Prop := ALoop Tryz.prog zq152_c9 (zq152_Q9 K) (zq152_fr9 t3 t28 t29 t30) H
def zq152_b9 (t3 t28 t29 t30 : AV) (H : Heap) (K : Kt) (Kb9 : Lt) : Prop :=
 aBin .lss false t30 t29 fun t31 =>
 aTest t31
 (aIdxA 7 t28 t30 fun t33 =>
 aLoad true 7 t33 H fun t34 =>
 aNew [(.str []), .snil, .snil, (.int .i64 0), (.int .i64 0), .snil, (.int .i64 0)] H fun t7 H =>
 aStore 7 t7 t34 H fun H =>
 aFld 0 t7 fun t35 =>
 aLoad false 1 t35 H fun t36 =>
 aBin .eql false t36 (.str []) fun t37 =>
 aGuardJ t37 true H (fun K' => K' t3 H) fun t39 H =>
 aGuardJ t37 true H (fun K' => aNil t39 (K' · H)) fun t40 H =>
 aGuardJ t37 true H (fun K' => aFld 4 t40 (K' · H)) fun t41 H =>
 aGuardJ t37 true H (fun K' => aLoad false 1 t41 H (K' · H)) fun t42 H =>
 aGuardJ t37 true H (fun K' => K' t30 H) fun t43 H =>
 aGuardJ t37 true H (fun K' => aIdxA 1 t42 t43 (K' · H)) fun t44 H =>
 aGuardJ t37 true H (fun K' => aLoad false 1 t44 H (K' · H)) fun t45 H =>
 aGuardJ t37 true H (fun K' => aBin .neq false t45 (.int .i64 1) (K' · H)) fun t46 H =>
 aPick t37 t46 (.bool false) fun t47 =>
 aTest t47
 (K (.bool false) H)
 (aBin .add false t30 (.int .i64 1) fun t48 =>
 Kb9 (zq152_fr9 t3 t28 t29 t48) H))
 (K (.bool true) H)
def zq152_b3 (t1 t3 t16 t17 t18 : AV) (H : Heap) (K : Kt) (Kb3 : Lt) : Prop :=
 aBin .lss false t18 t17 fun t19 =>
 aTest t19
 (aIdxA 8 t16 t18 fun t20 =>
 aLoad true 8 t20 H fun t21 =>
 aNew [(.int .i64 0), (.int .i64 0), .snil, .snil, .snil, (.int .i64 0), (.int .i64 0), .snil] H fun t5 H =>
 aStore 8 t5 t21 H fun H =>
 aLoad true 8 t5 H fun t23 =>
 ACalls Tryz.prog n_zq195 [t3, t23] H fun t24 H =>
 aUn .not t24 fun t25 =>
 aTest t25
 (K (.bool false) H)
 (aBin .add false t18 (.int .i64 1) fun t26 =>
 Kb3 (zq152_fr3 t1 t3 t16 t17 t26) H))
 (aFld 1 t1 fun t27 =>
 aLoad false 1 t27 H fun t28 =>
 aLen 1 t28 fun t29 =>
 zq152_l9 t3 t28 t29 (.int .i64 0) H K)
def zq152 (t0 : AV) (H : Heap) (K : Kt) : Prop :=
 aBox t0 H fun t1 H =>
 aPure H (fun K' => aLoadC true 4 t1 H (K' · H)) fun t8 =>
 aPure H (fun K' => aFld 1 t1 (K' · H)) fun t9 =>
 aPure H (fun K' => aLoadC false 1 t9 H (K' · H)) fun t10 =>
 aPure H (fun K' => aLen 1 t10 (K' · H)) fun t11 =>
 aMake 8 [(.int .i64 0)] t11 t11 H fun t12 H =>
 aPure H (fun K' => aBuild [.snil, .snil, .snil, .snil, .snil] [(0, 4), (4, 1)] [(0, t8), (1, t12)] (K' · H)) fun t13 =>
 aBox t13 H fun t14 H =>
 aPure H (fun K' => K' t14 H) fun t3 =>
 aFld 3 t1 fun t15 =>
 aLoad false 1 t15 H fun t16 =>
 aLen 1 t16 fun t17 =>
 zq152_l3 t1 t3 t16 t17 (.int .i64 0) H K
theorem zq152_b9_eq (t3 t28 t29 t30 : AV) (H : Heap) (K : Kt) (Kb9 : Lt) : awp Tryz.prog zq152_M zq152_c9 (roundQ zq152_m9 Kb9 (zq152_Q9 K)) (zq152_fr9 t3 t28 t29 t30) H = zq152_b9 t3 t28 t29 t30 H K Kb9 := by kernel_rfl
theorem zq152_loop9 {t3 t28 t29 t30 : AV} {H : Heap} {K : Kt} (Inv : Nat → AV → Heap → Prop) (n : Nat) (h0 : HSc H → Inv n t30 H)
   (round : ∀ n t30 H', Inv n t30 H' → HSc H' → H.length ≤ H'.length → (zq152_fr9 t3 t28 t29 t30).all (AV.sc H'.length) = true → ∀ Kb9 : Lt, (∀ F'' H'', (∃ n', n' < n ∧ Back H.length (fun F2 H2 => ∃ t30, F2 = zq152_fr9 t3 t28 t29 t30 ∧ Inv n' t30 H2) F'' H'') → Kb9 F'' H'') → zq152_b9 t3 t28 t29 t30 H' K Kb9) : zq152_l9 t3 t28 t29 t30 H K :=
 aloop (M := zq152_M) zq152_m9 (fun n F H => ∃ t30, F = zq152_fr9 t3 t28 t29 t30 ∧ Inv n t30 H) n (fun hs _ => ⟨t30, rfl, h0 hs⟩) (fun n F H' ⟨t30, hF, hI⟩ h1 h2 h3 => by subst hF; rw [zq152_b9_eq]; exact round n t30 H' hI h1 h2 h3 _ (fun _ _ h => h))
theorem zq152_b3_eq (t1 t3 t16 t17 t18 : AV) (H : Heap) (K : Kt) (Kb3 : Lt) : awp Tryz.prog zq152_M zq152_c3 (roundQ zq152_m3 Kb3 (zq152_Q3 K)) (zq152_fr3 t1 t3 t16 t17 t18) H = zq152_b3 t1 t3 t16 t17 t18 H K Kb3 := by kernel_rfl
theorem zq152_loop3 {t1 t3 t16 t17 t18 : AV} {H : Heap} {K : Kt} (Inv : Nat → AV → Heap → Prop) (n : Nat) (h0 : HSc H → Inv n t18 H)
   (round : ∀ n t18 H', Inv n t18 H' → HSc H' → H.length ≤ H'.length → (zq152_fr3 t1 t3 t16 t17 t18).all (AV.sc H'.length) = true → ∀ Kb3 : Lt, (∀ F'' H'', (∃ n', n' < n ∧ Back H.length (fun F2 H2 => ∃ t18, F2 = zq152_fr3 t1 t3 t16 t17 t18 ∧ Inv n' t18 H2) F'' H'') → Kb3 F'' H'') → zq152_b3 t1 t3 t16 t17 t18 H' K Kb3) : zq152_l3 t1 t3 t16 t17 t18 H K :=
 aloop (M := zq152_M) zq152_m3 (fun n F H => ∃ t18, F = zq152_fr3 t1 t3 t16 t17 t18 ∧ Inv n t18 H) n (fun hs _ => ⟨t18, rfl, h0 hs⟩) (fun n F H' ⟨t18, hF, hI⟩ h1 h2 h3 => by subst hF; rw [zq152_b3_eq]; exact round n t18 H' hI h1 h2 h3 _ (fun _ _ h => h))
theorem zq152_eq (t0 : AV) (H : Heap) (K : Kt) : awp Tryz.prog zq152_M zq152_c (retQ Tryz.prog zq152_r K) (t0 :: List.replicate 48 .unk) H = zq152 t0 H K := by kernel_rfl
theorem zq152_ok {t0 : AV} {H : Heap} {K : Kt} (h : HSc H → zq152 t0 H K) : ACalls Tryz.prog n_zq152 [t0] H K :=
 acalls_body (M := zq152_M) Tryz.func154 (c := zq152_c) (by kernel_rfl) (fun hs => (zq152_eq t0 H K).mpr (h hs))
end Go.Proofs.YtfpmdpldabopjaaGreatDoor
