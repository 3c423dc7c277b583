/- The shallow forms of functions of the program, printed by a program (absgen.py) off the translation, each tied to the model by the kernel. -/
import Derived.Test.YtfpmdpldabopjaaGreatDoorKNum
import Derived.Test.YtfpmdpldabopjaaGreatDoorProg
import Derived.KernelRfl
namespace Go.Proofs.YtfpmdpldabopjaaGreatDoor
open Go Go.Abs
set_option linter.unusedVariables false
set_option maxRecDepth 100000
def zq31_M : Nat → List Bool
 | 5 => rl false [0,2,5,1,32,3,16]
 | _ => []
noncomputable def zq31_c : Code := Tryz.f33.body.getD .skip
noncomputable def zq31_r : List ResultVar := Tryz.f33.results.toList
def zq31_fr5 (t0 t1 t7 t40 t41 t42 : AV) : List AV := t0 :: t1 :: ux 5 (t7 :: ux 32 (t40 :: t41 :: t42 :: ux 16 []))
def zq31_m5 : List Bool := zq31_M 5
noncomputable def zq31_c5 : Code := codeAt [1, 1, 1, 0, 1, 0, 0] zq31_c
def zq31_Q5 (K : Kt) : AExit → List AV → Heap → Prop := contAt Tryz.prog zq31_M [1, 1, 1, 0, 1, 0] zq31_c (retQ Tryz.prog zq31_r K)
def zq31_l5 (t0 t1 t7 t40 t41 t42 : AV) (H : Heap) (K : Kt) : Prop := ALoop Tryz.prog zq31_c5 (zq31_Q5 K) (zq31_fr5 t0 t1 t7 t40 t41 t42) H
def zq31_b5 (t0 t1 t7 t40 t41 t42 : AV) (H : Heap) (K : Kt) (Kb5 : Lt) : Prop :=
 aBin .lss false t42 t41 fun t43 =>
 aTest t43
 (aIdxA 3 t40 t42 fun t44 =>
 aLoad true 3 t44 H fun t45 =>
 aNew [(.int .i64 0), (.int .i64 0), .snil] H fun t9 H =>
 aStore 3 t9 t45 H fun H =>
 aPure H (fun K' => K' t7 H) fun t46 =>
 aPure H (fun K' => aLoadC true 3 t9 H (K' · H)) fun t47 =>
 aPure H (fun K' => K' t1 H) fun t48 =>
 aPure H (fun K' => K' t0 H) fun t49 =>
 aPure H (fun K' => K' t1 H) fun t50 =>
 aPure H (fun K' => aIdxA 3 t49 t50 (K' · H)) fun t51 =>
 aPure H (fun K' => aFld 1 t51 (K' · H)) fun t52 =>
 aPure H (fun K' => aLoadC false 1 t52 H (K' · H)) fun t53 =>
 aPureX H (fun H K' => ACalls Tryz.prog n_zq68 [t47, t48, t53] H K') fun t54 =>
 aPure H (fun K' => aBuildS 1 [(.bool false)] 1 [(0, t54)] (K' · H)) fun t55 =>
 aAppend e_bool 1 1 t46 t55 H fun t56 H =>
 aPure H (fun K' => K' t56 H) fun t7 =>
 aBin .add false t42 (.int .i64 1) fun t57 =>
 Kb5 (zq31_fr5 t0 t1 t7 t40 t41 t57) H)
 (K t7 H)
def zq31 (t0 t1 t2 : AV) (H : Heap) (K : Kt) : Prop :=
 aBin .lss false t1 (.int .i64 0) fun t11 =>
 aGuardJ t11 false H (fun K' => K' t1 H) fun t13 H =>
 aGuardJ t11 false H (fun K' => K' t0 H) fun t14 H =>
 aGuardJ t11 false H (fun K' => aLen 1 t14 (K' · H)) fun t15 H =>
 aGuardJ t11 false H (fun K' => aBin .geq false t13 t15 (K' · H)) fun t16 H =>
 aPick t11 (.bool true) t16 fun t17 =>
 aGuardJ t17 false H (fun K' => K' t2 H) fun t19 H =>
 aGuardJ t17 false H (fun K' => aBin .lss false t19 (.int .i64 0) (K' · H)) fun t20 H =>
 aPick t17 (.bool true) t20 fun t21 =>
 aGuardJ t21 false H (fun K' => K' t2 H) fun t23 H =>
 aGuardJ t21 false H (fun K' => K' t0 H) fun t24 H =>
 aGuardJ t21 false H (fun K' => K' t1 H) fun t25 H =>
 aGuardJ t21 false H (fun K' => aIdxA 3 t24 t25 (K' · H)) fun t26 H =>
 aGuardJ t21 false H (fun K' => aFld 2 t26 (K' · H)) fun t27 H =>
 aGuardJ t21 false H (fun K' => aLoad false 1 t27 H (K' · H)) fun t28 H =>
 aGuardJ t21 false H (fun K' => aLen 1 t28 (K' · H)) fun t29 H =>
 aGuardJ t21 false H (fun K' => aBin .geq false t23 t29 (K' · H)) fun t30 H =>
 aPick t21 (.bool true) t30 fun t31 =>
 aTest t31
 (K .snil H)
 (aIdxA 3 t0 t1 fun t34 =>
 aFld 2 t34 fun t35 =>
 aLoad false 1 t35 H fun t36 =>
 aIdxA 2 t36 t2 fun t38 =>
 aFld 1 t38 fun t39 =>
 aLoad false 1 t39 H fun t40 =>
 aLen 1 t40 fun t41 =>
 zq31_l5 t0 t1 .snil t40 t41 (.int .i64 0) H K)
theorem zq31_b5_eq (t0 t1 t7 t40 t41 t42 : AV) (H : Heap) (K : Kt) (Kb5 : Lt) : awp Tryz.prog zq31_M zq31_c5 (roundQ zq31_m5 Kb5 (zq31_Q5 K)) (zq31_fr5 t0 t1 t7 t40 t41 t42) H = zq31_b5 t0 t1 t7 t40 t41 t42 H K Kb5 := by kernel_rfl
theorem zq31_loop5 {t0 t1 t7 t40 t41 t42 : AV} {H : Heap} {K : Kt} (Inv : Nat → AV → AV → Heap → Prop) (n : Nat) (h0 : HSc H → Inv n t7 t42 H)
   (round : ∀ n t7 t42 H', Inv n t7 t42 H' → HSc H' → H.length ≤ H'.length → (zq31_fr5 t0 t1 t7 t40 t41 t42).all (AV.sc H'.length) = true → ∀ Kb5 : Lt, (∀ F'' H'', (∃ n', n' < n ∧ Back H.length (fun F2 H2 => ∃ t7 t42, F2 = zq31_fr5 t0 t1 t7 t40 t41 t42 ∧ Inv n' t7 t42 H2) F'' H'') → Kb5 F'' H'') → zq31_b5 t0 t1 t7 t40 t41 t42 H' K Kb5) : zq31_l5 t0 t1 t7 t40 t41 t42 H K :=
 aloop (M := zq31_M) zq31_m5 (fun n F H => ∃ t7 t42, F = zq31_fr5 t0 t1 t7 t40 t41 t42 ∧ Inv n t7 t42 H) n (fun hs _ => ⟨t7, t42, rfl, h0 hs⟩) (fun n F H' ⟨t7, t42, hF, hI⟩ h1 h2 h3 => by subst hF; rw [zq31_b5_eq]; exact round n t7 t42 H' hI h1 h2 h3 _ (fun _ _ h => h))
theorem zq31_eq (t0 t1 t2 : AV) (H : Heap) (K : Kt) : awp Tryz.prog zq31_M zq31_c (retQ Tryz.prog zq31_r K) (t0 :: t1 :: t2 :: List.replicate 56 .unk) H = zq31 t0 t1 t2 H K := by kernel_rfl
theorem zq31_ok {t0 t1 t2 : AV} {H : Heap} {K : Kt} (h : HSc H → zq31 t0 t1 t2 H K) : ACalls Tryz.prog n_zq31 [t0, t1, t2] H K :=
 acalls_body (M := zq31_M) Tryz.func33 (c := zq31_c) (by kernel_rfl) (fun hs => (zq31_eq t0 t1 t2 H K).mpr (h hs))
def zq27_M (_ : Nat) : List Bool := []
noncomputable def zq27_c : Code := Tryz.f29.body.getD .skip
noncomputable def zq27_r : List ResultVar := Tryz.f29.results.toList
def zq27 (H : Heap) (K : Kt) : Prop :=
 aBuild [(.int .i64 0), (.int .i64 0), .snil] [(0, 1), (1, 1), (2, 1)] [(0, (.int .i64 1))] fun t2 =>
 aBuildS 3 [(.int .i64 0), (.int .i64 0), .snil] 1 [(0, t2)] fun t3 =>
 aBuild [(.int .i64 0), (.int .i64 0), .snil] [(0, 1), (1, 1), (2, 1)] [(0, (.int .i64 7)), (2, t3)] fun t4 =>
 aNew [(.int .i64 0), (.int .i64 0), .snil] H fun t1 H =>
 aStore 3 t1 t4 H fun H =>
 aLoad true 3 t1 H fun t5 =>
 aBuild [(.int .i64 0), .snil] [(0, 1), (1, 1)] [(0, (.int .i64 2))] fun t6 =>
 ACalls Tryz.prog n_zq25 [.snil, t5, t6] H fun t7 H =>
 aBin .eql false t7 (.int .i64 2) fun t8 =>
 aGuardJ t8 true H (fun K' => aLoad true 3 t1 H (K' · H)) fun t10 H =>
 aGuardJ t8 true H (fun K' => aBuild [(.int .i64 0), .snil] [(0, 1), (1, 1)] [(0, (.int .i64 2))] (K' · H)) fun t11 H =>
 aGuardJ t8 true H (fun K' => ACalls Tryz.prog n_zq23 [.snil, t10, t11] H K') fun t12 H =>
 aPick t8 t12 (.bool false) fun t13 =>
 aGuardJ t13 true H (fun K' => aLoad true 3 t1 H (K' · H)) fun t15 H =>
 aGuardJ t13 true H (fun K' => aBuild [(.int .i64 0), .snil] [(0, 1), (1, 1)] [(0, (.int .i64 2))] (K' · H)) fun t16 H =>
 aGuardJ t13 true H (fun K' => ACalls Tryz.prog n_zq28 [.snil, t15, t16] H K') fun t17 H =>
 aGuardJ t13 true H (fun K' => aBin .eql false t17 (.str [50]) (K' · H)) fun t18 H =>
 aPick t13 t18 (.bool false) fun t19 =>
 K t19 H
theorem zq27_eq (H : Heap) (K : Kt) : awp Tryz.prog zq27_M zq27_c (retQ Tryz.prog zq27_r K) (List.replicate 20 .unk) H = zq27 H K := by kernel_rfl
theorem zq27_ok {H : Heap} {K : Kt} (h : HSc H → zq27 H K) : ACalls Tryz.prog n_zq27 [] H K :=
 acalls_body (M := zq27_M) Tryz.func29 (c := zq27_c) (by kernel_rfl) (fun hs => (zq27_eq H K).mpr (h hs))
def zq28_M (_ : Nat) : List Bool := []
noncomputable def zq28_c : Code := Tryz.f30.body.getD .skip
noncomputable def zq28_r : List ResultVar := Tryz.f30.results.toList
def zq28 (t0 t1 t2 : AV) (H : Heap) (K : Kt) : Prop :=
 aBox t1 H fun t4 H =>
 aBox t2 H fun t5 H =>
 aLoad true 3 t4 H fun t9 =>
 aLoad true 2 t5 H fun t10 =>
 ACalls Tryz.prog n_zq23 [t0, t9, t10] H fun t11 H =>
 aUn .not t11 fun t12 =>
 aTest t12
 (K (.str []) H)
 (aNewB 73 [.nilp, .snil] H fun t7 H =>
 aLoad true 3 t4 H fun t14 =>
 aLoad true 2 t5 H fun t15 =>
 ACalls Tryz.prog n_zq63 [t7, t0, t14, t15] H fun t16 H =>
 ACalls Tryz.prog n_zq56 [t7] H fun t17 H =>
 K t17 H)
theorem zq28_eq (t0 t1 t2 : AV) (H : Heap) (K : Kt) : awp Tryz.prog zq28_M zq28_c (retQ Tryz.prog zq28_r K) (t0 :: t1 :: t2 :: List.replicate 15 .unk) H = zq28 t0 t1 t2 H K := by kernel_rfl
theorem zq28_ok {t0 t1 t2 : AV} {H : Heap} {K : Kt} (h : HSc H → zq28 t0 t1 t2 H K) : ACalls Tryz.prog n_zq28 [t0, t1, t2] H K :=
 acalls_body (M := zq28_M) Tryz.func30 (c := zq28_c) (by kernel_rfl) (fun hs => (zq28_eq t0 t1 t2 H K).mpr (h hs))
def zq63_M : Nat → List Bool
 | 10 => rl false [0,2,4,1,30,3,41]
 | 200014 => rl false [0,1]
 | _ => []
noncomputable def zq63_c : Code := Tryz.f65.body.getD .skip
noncomputable def zq63_r : List ResultVar := Tryz.f65.results.toList
def zq63_j1 (H : Heap) (K : Kt) : Prop :=
 aRet [] (K · H)
def zq63_fr10 (t0 t1 t6 t37 t38 t39 : AV) : List AV := t0 :: t1 :: ux 4 (t6 :: ux 30 (t37 :: t38 :: t39 :: ux 41 []))
def zq63_m10 : List Bool := zq63_M 10
noncomputable def zq63_c10 : Code := codeAt [1, 1, 0, 1, 1, 1, 1, 1, 0, 1, 0, 1, 0, 0] zq63_c
def zq63_Q10 (K : Kt) : AExit → List AV → Heap → Prop := contAt Tryz.prog zq63_M [1, 1, 0, 1, 1, 1, 1, 1, 0, 1, 0, 1, 0] zq63_c (retQ Tryz.prog zq63_r K)
def zq63_l10 (t0 t1 t6 t37 t38 t39 : AV) (H : Heap) (K : Kt) : Prop := ALoop Tryz.prog zq63_c10 (zq63_Q10 K) (zq63_fr10 t0 t1 t6 t37 t38 t39) H
def zq63_j4 (t0 t1 t6 t37 t38 t39 : AV) (H : Heap) (K : Kt) (Kb10 : Lt) : Prop :=
 aBin .add false t39 (.int .i64 1) fun t78 =>
 Kb10 (zq63_fr10 t0 t1 t6 t37 t38 t78) H
def zq63_j3 (t0 t1 t6 t37 t38 t39 : AV) (H : Heap) (K : Kt) (Kb10 : Lt) : Prop :=
 zq63_j4 t0 t1 t6 t37 t38 t39 H K Kb10
def zq63_j2 (t0 t1 t6 t9 t37 t38 t39 : AV) (H : Heap) (K : Kt) (Kb10 : Lt) : Prop :=
 aPure H (fun K' => K' t0 H) fun t48 =>
 aPure H (fun K' => K' t1 H) fun t49 =>
 aPure H (fun K' => aFld 1 t6 (K' · H)) fun t50 =>
 aPure H (fun K' => aLoadC false 1 t50 H (K' · H)) fun t51 =>
 aPure H (fun K' => aIdxA 3 t49 t51 (K' · H)) fun t52 =>
 aPure H (fun K' => aFld 2 t52 (K' · H)) fun t53 =>
 aPure H (fun K' => aLoadC false 1 t53 H (K' · H)) fun t54 =>
 aPure H (fun K' => aFld 0 t9 (K' · H)) fun t55 =>
 aPure H (fun K' => aLoadC false 1 t55 H (K' · H)) fun t56 =>
 aPure H (fun K' => aIdxA 2 t54 t56 (K' · H)) fun t57 =>
 aPure H (fun K' => aFld 0 t57 (K' · H)) fun t58 =>
 aPure H (fun K' => aLoadC false 1 t58 H (K' · H)) fun t59 =>
 aDet .w false H (fun K' => ACalls Tryz.prog n_zq97 [t48, t59] H K') fun t60 H =>
 aLoad true 3 t6 H fun t63 =>
 aFld 0 t9 fun t64 =>
 aLoad false 1 t64 H fun t65 =>
 ACalls Tryz.prog n_zq107 [t1, t63, t65] H fun t66 H =>
 aExt t66 0 fun t67 =>
 aExt t66 1 fun t68 =>
 aLen 1 t67 fun t70 =>
 aBin .gtr false t70 (.int .i64 0) fun t71 =>
 aTest t71
 (aFld 1 t9 fun t75 =>
 aLoad false 1 t75 H fun t76 =>
 ACalls Tryz.prog n_zq109 [t0, t1, t67, t76] H fun t77 H =>
 zq63_j3 t0 t1 t6 t37 t38 t39 H K Kb10)
 (zq63_j3 t0 t1 t6 t37 t38 t39 H K Kb10)
def zq63_b10 (t0 t1 t6 t37 t38 t39 : AV) (H : Heap) (K : Kt) (Kb10 : Lt) : Prop :=
 aBin .lss false t39 t38 fun t40 =>
 aTest t40
 (aIdxA 2 t37 t39 fun t42 =>
 aLoad true 2 t42 H fun t43 =>
 aNew [(.int .i64 0), .snil] H fun t9 H =>
 aStore 2 t9 t43 H fun H =>
 aBin .gtr false t39 (.int .i64 0) fun t45 =>
 aTest t45
 (ACalls Tryz.prog n_zq97 [t0, (.str [44, 32])] H fun t47 H =>
 zq63_j2 t0 t1 t6 t9 t37 t38 t39 H K Kb10)
 (zq63_j2 t0 t1 t6 t9 t37 t38 t39 H K Kb10))
 (ACalls Tryz.prog n_zq97 [t0, (.str [93])] H fun t80 H =>
 zq63_j1 H K)
def zq63 (t0 t1 t2 t3 : AV) (H : Heap) (K : Kt) : Prop :=
 aBox t2 H fun t6 H =>
 aBox t3 H fun t7 H =>
 aFld 0 t6 fun t12 =>
 aLoad false 1 t12 H fun t13 =>
 aBin .eql false t13 (.int .i64 6) fun t17 =>
 aTest t17
 (aFld 2 t6 fun t20 =>
 aLoad false 1 t20 H fun t21 =>
 aFld 1 t7 fun t22 =>
 aLoad false 1 t22 H fun t23 =>
 ACalls Tryz.prog n_zq109 [t0, t1, t21, t23] H fun t24 H =>
 zq63_j1 H K)
 (aBin .eql false t13 (.int .i64 7) fun t26 =>
 aTest t26
 (aFld 0 t7 fun t28 =>
 aLoad false 1 t28 H fun t29 =>
 ACalls Tryz.prog n_zq110 [t29] H fun t30 H =>
 ACalls Tryz.prog n_zq97 [t0, t30] H fun t31 H =>
 zq63_j1 H K)
 (aBin .eql false t13 (.int .i64 5) fun t33 =>
 aTest t33
 (ACalls Tryz.prog n_zq97 [t0, (.str [91])] H fun t35 H =>
 aFld 1 t7 fun t36 =>
 aLoad false 1 t36 H fun t37 =>
 aLen 1 t37 fun t38 =>
 zq63_l10 t0 t1 t6 t37 t38 (.int .i64 0) H K)
 (ACalls Tryz.prog n_zq97 [t0, (.str [42])] H fun t15 H =>
 zq63_j1 H K)))
theorem zq63_b10_eq (t0 t1 t6 t37 t38 t39 : AV) (H : Heap) (K : Kt) (Kb10 : Lt) : awp Tryz.prog zq63_M zq63_c10 (roundQ zq63_m10 Kb10 (zq63_Q10 K)) (zq63_fr10 t0 t1 t6 t37 t38 t39) H = zq63_b10 t0 t1 t6 t37 t38 t39 H K Kb10 := by kernel_rfl
theorem zq63_loop10 {t0 t1 t6 t37 t38 t39 : AV} {H : Heap} {K : Kt} (Inv : Nat → AV → Heap → Prop) (n : Nat) (h0 : HSc H → Inv n t39 H)
   (round : ∀ n t39 H', Inv n t39 H' → HSc H' → H.length ≤ H'.length → (zq63_fr10 t0 t1 t6 t37 t38 t39).all (AV.sc H'.length) = true → ∀ Kb10 : Lt, (∀ F'' H'', (∃ n', n' < n ∧ Back H.length (fun F2 H2 => ∃ t39, F2 = zq63_fr10 t0 t1 t6 t37 t38 t39 ∧ Inv n' t39 H2) F'' H'') → Kb10 F'' H'') → zq63_b10 t0 t1 t6 t37 t38 t39 H' K Kb10) : zq63_l10 t0 t1 t6 t37 t38 t39 H K :=
 aloop (M := zq63_M) zq63_m10 (fun n F H => ∃ t39, F = zq63_fr10 t0 t1 t6 t37 t38 t39 ∧ Inv n t39 H) n (fun hs _ => ⟨t39, rfl, h0 hs⟩) (fun n F H' ⟨t39, hF, hI⟩ h1 h2 h3 => by subst hF; rw [zq63_b10_eq]; exact round n t39 H' hI h1 h2 h3 _ (fun _ _ h => h))
theorem zq63_eq (t0 t1 t2 t3 : AV) (H : Heap) (K : Kt) : awp Tryz.prog zq63_M zq63_c (retQ Tryz.prog zq63_r K) (t0 :: t1 :: t2 :: t3 :: List.replicate 77 .unk) H = zq63 t0 t1 t2 t3 H K := by kernel_rfl
theorem zq63_ok {t0 t1 t2 t3 : AV} {H : Heap} {K : Kt} (h : HSc H → zq63 t0 t1 t2 t3 H K) : ACalls Tryz.prog n_zq63 [t0, t1, t2, t3] H K :=
 acalls_body (M := zq63_M) Tryz.func65 (c := zq63_c) (by kernel_rfl) (fun hs => (zq63_eq t0 t1 t2 t3 H K).mpr (h hs))
end Go.Proofs.YtfpmdpldabopjaaGreatDoor
