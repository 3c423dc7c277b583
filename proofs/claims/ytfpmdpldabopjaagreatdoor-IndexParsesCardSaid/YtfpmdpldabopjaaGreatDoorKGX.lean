/- The shallow forms of functions of the program, printed by a program (absgen.py) off the translation, each tied to the model by the kernel. -/
import Derived.Test.YtfpmdpldabopjaaGreatDoorKNum
import Derived.Test.YtfpmdpldabopjaaGreatDoorProg
import Derived.KernelRfl
namespace Go.Proofs.YtfpmdpldabopjaaGreatDoor
open Go Go.Abs
set_option linter.unusedVariables false
set_option maxRecDepth 100000
def zq33_M (_ : Nat) : List Bool := []
noncomputable def zq33_c : Code := Tryz.f35.body.getD .skip
noncomputable def zq33_r : List ResultVar := Tryz.f35.results.toList
def zq33 (t0 t1 t2 : AV) (H : Heap) (K : Kt) : Prop :=
 aBox t1 H fun t4 H =>
 aNew [(.int .i64 0), .snil] H fun t6 H =>
 aLoad true 3 t4 H fun t11 =>
 ACalls Tryz.prog n_zq59 [t0, t11] H fun t12 H =>
 aUn .not t12 fun t13 =>
 aTest t13
 (aBuild [(.int .i64 0), .snil] [(0, 1), (1, 1)] [] fun t14 =>
 aStore 2 t6 t14 H fun H =>
 aLoad true 2 t6 H fun r0 =>
 aRet [r0, (.bool false)] (K · H))
 (aBuild [.snil, (.str []), (.bool false)] [(0, 1), (1, 1), (2, 1)] [(0, t0), (1, t2)] fun t17 =>
 aBox t17 H fun t18 H =>
 aLoad true 3 t4 H fun t20 =>
 ACalls Tryz.prog n_zq69 [t18, t20] H fun t21 H =>
 aNew [(.int .i64 0), .snil] H fun t9 H =>
 aStore 2 t9 t21 H fun H =>
 aNil t18 fun t23 =>
 aFld 2 t23 fun t24 =>
 aLoad false 1 t24 H fun t25 =>
 aGuardJ t25 false H (fun K' => K' t18 H) fun t27 H =>
 aGuardJ t25 false H (fun K' => aNil t27 (K' · H)) fun t28 H =>
 aGuardJ t25 false H (fun K' => aFld 1 t28 (K' · H)) fun t29 H =>
 aGuardJ t25 false H (fun K' => aLoad false 1 t29 H (K' · H)) fun t30 H =>
 aGuardJ t25 false H (fun K' => aBin .neq false t30 (.str []) (K' · H)) fun t31 H =>
 aPick t25 (.bool true) t31 fun t32 =>
 aGuardJ t32 false H (fun K' => K' t0 H) fun t34 H =>
 aGuardJ t32 false H (fun K' => aLoad true 3 t4 H (K' · H)) fun t35 H =>
 aGuardJ t32 false H (fun K' => aLoad true 2 t9 H (K' · H)) fun t36 H =>
 aGuardJ t32 false H (fun K' => ACalls Tryz.prog n_zq28 [t34, t35, t36] H K') fun t37 H =>
 aGuardJ t32 false H (fun K' => K' t2 H) fun t38 H =>
 aGuardJ t32 false H (fun K' => aBin .neq false t37 t38 (K' · H)) fun t39 H =>
 aPick t32 (.bool true) t39 fun t40 =>
 aTest t40
 (aBuild [(.int .i64 0), .snil] [(0, 1), (1, 1)] [] fun t41 =>
 aStore 2 t6 t41 H fun H =>
 aLoad true 2 t6 H fun r0 =>
 aRet [r0, (.bool false)] (K · H))
 (aLoad true 2 t9 H fun t42 =>
 aStore 2 t6 t42 H fun H =>
 aLoad true 2 t6 H fun r0 =>
 aRet [r0, (.bool true)] (K · H)))
theorem zq33_eq (t0 t1 t2 : AV) (H : Heap) (K : Kt) : awp Tryz.prog zq33_M zq33_c (retQ Tryz.prog zq33_r K) (t0 :: t1 :: t2 :: List.replicate 40 .unk) H = zq33 t0 t1 t2 H K := by kernel_rfl
theorem zq33_ok {t0 t1 t2 : AV} {H : Heap} {K : Kt} (h : HSc H → zq33 t0 t1 t2 H K) : ACalls Tryz.prog n_zq33 [t0, t1, t2] H K :=
 acalls_body (M := zq33_M) Tryz.func35 (c := zq33_c) (by kernel_rfl) (fun hs => (zq33_eq t0 t1 t2 H K).mpr (h hs))
def zq35_M (_ : Nat) : List Bool := []
noncomputable def zq35_c : Code := Tryz.f37.body.getD .skip
noncomputable def zq35_r : List ResultVar := Tryz.f37.results.toList
def zq35 (t0 t1 : AV) (H : Heap) (K : Kt) : Prop :=
 aBox t0 H fun t2 H =>
 aBox t1 H fun t3 H =>
 aFld 0 t2 fun t5 =>
 aLoad false 1 t5 H fun t6 =>
 aFld 0 t3 fun t7 =>
 aLoad false 1 t7 H fun t8 =>
 aBin .eql false t6 t8 fun t9 =>
 aGuardJ t9 true H (fun K' => aFld 1 t2 (K' · H)) fun t11 H =>
 aGuardJ t9 true H (fun K' => aLoad false 1 t11 H (K' · H)) fun t12 H =>
 aGuardJ t9 true H (fun K' => aFld 1 t3 (K' · H)) fun t13 H =>
 aGuardJ t9 true H (fun K' => aLoad false 1 t13 H (K' · H)) fun t14 H =>
 aGuardJ t9 true H (fun K' => ACalls Tryz.prog n_zq41 [t12, t14] H K') fun t15 H =>
 aPick t9 t15 (.bool false) fun t16 =>
 K t16 H
theorem zq35_eq (t0 t1 : AV) (H : Heap) (K : Kt) : awp Tryz.prog zq35_M zq35_c (retQ Tryz.prog zq35_r K) (t0 :: t1 :: List.replicate 15 .unk) H = zq35 t0 t1 H K := by kernel_rfl
theorem zq35_ok {t0 t1 : AV} {H : Heap} {K : Kt} (h : HSc H → zq35 t0 t1 H K) : ACalls Tryz.prog n_zq35 [t0, t1] H K :=
 acalls_body (M := zq35_M) Tryz.func37 (c := zq35_c) (by kernel_rfl) (fun hs => (zq35_eq t0 t1 H K).mpr (h hs))
def zq41_M : Nat → List Bool
 | 4 => rl false [0,2,10,2,13]
 | _ => []
noncomputable def zq41_c : Code := Tryz.f43.body.getD .skip
noncomputable def zq41_r : List ResultVar := Tryz.f43.results.toList
def zq41_fr4 (t0 t1 t12 t13 : AV) : List AV := t0 :: t1 :: ux 10 (t12 :: t13 :: ux 13 [])
def zq41_m4 : List Bool := zq41_M 4
noncomputable def zq41_c4 : Code := codeAt [1, 1, 0, 1, 0, 0] zq41_c
def zq41_Q4 (K : Kt) : AExit → List AV → Heap → Prop := contAt Tryz.prog zq41_M [1, 1, 0, 1, 0] zq41_c (retQ Tryz.prog zq41_r K)
def zq41_l4 (t0 t1 t12 t13 : AV) (H : Heap) (K : Kt) : Prop := ALoop Tryz.prog zq41_c4 (zq41_Q4 K) (zq41_fr4 t0 t1 t12 t13) H
def zq41_b4 (t0 t1 t12 t13 : AV) (H : Heap) (K : Kt) (Kb4 : Lt) : Prop :=
 aBin .lss false t13 t12 fun t14 =>
 aTest t14
 (aPure H (fun K' => K' t0 H) fun t16 =>
 aPure H (fun K' => K' t13 H) fun t17 =>
 aPure H (fun K' => aIdxA 2 t16 t17 (K' · H)) fun t18 =>
 aPure H (fun K' => aLoadC true 2 t18 H (K' · H)) fun t19 =>
 aPure H (fun K' => K' t1 H) fun t20 =>
 aPure H (fun K' => K' t13 H) fun t21 =>
 aPure H (fun K' => aIdxA 2 t20 t21 (K' · H)) fun t22 =>
 aPure H (fun K' => aLoadC true 2 t22 H (K' · H)) fun t23 =>
 aPureX H (fun H K' => ACalls Tryz.prog n_zq35 [t19, t23] H K') fun t24 =>
 aPure H (fun K' => aUn .not t24 (K' · H)) fun t25 =>
 aTest t25
 (K (.bool false) H)
 (aBin .add false t13 (.int .i64 1) fun t26 =>
 Kb4 (zq41_fr4 t0 t1 t12 t26) H))
 (K (.bool true) H)
def zq41 (t0 t1 : AV) (H : Heap) (K : Kt) : Prop :=
 aLen 1 t0 fun t7 =>
 aLen 1 t1 fun t9 =>
 aBin .neq false t7 t9 fun t10 =>
 aTest t10
 (K (.bool false) H)
 (aLen 1 t0 fun t12 =>
 zq41_l4 t0 t1 t12 (.int .i64 0) H K)
theorem zq41_b4_eq (t0 t1 t12 t13 : AV) (H : Heap) (K : Kt) (Kb4 : Lt) : awp Tryz.prog zq41_M zq41_c4 (roundQ zq41_m4 Kb4 (zq41_Q4 K)) (zq41_fr4 t0 t1 t12 t13) H = zq41_b4 t0 t1 t12 t13 H K Kb4 := by kernel_rfl
theorem zq41_loop4 {t0 t1 t12 t13 : AV} {H : Heap} {K : Kt} (Inv : Nat → AV → Heap → Prop) (n : Nat) (h0 : HSc H → Inv n t13 H)
   (round : ∀ n t13 H', Inv n t13 H' → HSc H' → H.length ≤ H'.length → (zq41_fr4 t0 t1 t12 t13).all (AV.sc H'.length) = true → ∀ Kb4 : Lt, (∀ F'' H'', (∃ n', n' < n ∧ Back H.length (fun F2 H2 => ∃ t13, F2 = zq41_fr4 t0 t1 t12 t13 ∧ Inv n' t13 H2) F'' H'') → Kb4 F'' H'') → zq41_b4 t0 t1 t12 t13 H' K Kb4) : zq41_l4 t0 t1 t12 t13 H K :=
 aloop (M := zq41_M) zq41_m4 (fun n F H => ∃ t13, F = zq41_fr4 t0 t1 t12 t13 ∧ Inv n t13 H) n (fun hs _ => ⟨t13, rfl, h0 hs⟩) (fun n F H' ⟨t13, hF, hI⟩ h1 h2 h3 => by subst hF; rw [zq41_b4_eq]; exact round n t13 H' hI h1 h2 h3 _ (fun _ _ h => h))
theorem zq41_eq (t0 t1 : AV) (H : Heap) (K : Kt) : awp Tryz.prog zq41_M zq41_c (retQ Tryz.prog zq41_r K) (t0 :: t1 :: List.replicate 25 .unk) H = zq41 t0 t1 H K := by kernel_rfl
theorem zq41_ok {t0 t1 : AV} {H : Heap} {K : Kt} (h : HSc H → zq41 t0 t1 H K) : ACalls Tryz.prog n_zq41 [t0, t1] H K :=
 acalls_body (M := zq41_M) Tryz.func43 (c := zq41_c) (by kernel_rfl) (fun hs => (zq41_eq t0 t1 H K).mpr (h hs))
def zq69_M : Nat → List Bool
 | 13 => rl false [0,1,2,3,64]
 | 200016 => rl false [0,13]
 | 100016 => rl false [0,1,2,3,64]
 | _ => []
noncomputable def zq69_c : Code := Tryz.f71.body.getD .skip
noncomputable def zq69_r : List ResultVar := Tryz.f71.results.toList
def zq69_j2 (t4 t5 : AV) (H : Heap) (K : Kt) : Prop :=
 aLoad true 2 t5 H fun t69 =>
 aStore 2 t4 t69 H fun H =>
 aLoad true 2 t4 H fun r0 =>
 K r0 H
def zq69_j1 (t4 t5 : AV) (H : Heap) (K : Kt) : Prop :=
 zq69_j2 t4 t5 H K
def zq69_j3 (t4 t5 t6 : AV) (H : Heap) (K : Kt) : Prop :=
 aFld 0 t5 fun t33 =>
 aStore 1 t33 t6 H fun H =>
 zq69_j1 t4 t5 H K
def zq69_fr13 (t0 t3 t4 t5 : AV) : List AV := t0 :: ux 2 (t3 :: t4 :: t5 :: ux 64 [])
def zq69_m13 : List Bool := zq69_M 13
noncomputable def zq69_c13 : Code := codeAt [1, 1, 0, 1, 0, 1, 1, 1, 1, 1, 0, 1, 0, 0] zq69_c
def zq69_Q13 (K : Kt) : AExit → List AV → Heap → Prop := contAt Tryz.prog zq69_M [1, 1, 0, 1, 0, 1, 1, 1, 1, 1, 0, 1, 0] zq69_c (retQ Tryz.prog zq69_r K)
def zq69_l13 (t0 t3 t4 t5 : AV) (H : Heap) (K : Kt) : Prop := ALoop Tryz.prog zq69_c13 (zq69_Q13 K) (zq69_fr13 t0 t3 t4 t5) H
def zq69_j6 (t0 t3 t4 t5 : AV) (H : Heap) (K : Kt) (Kb13 : Lt) : Prop :=
 Kb13 (zq69_fr13 t0 t3 t4 t5) H
def zq69_j5 (t0 t3 t4 t5 : AV) (H : Heap) (K : Kt) (Kb13 : Lt) : Prop :=
 aFld 1 t5 fun t62 =>
 aLoad false 1 t62 H fun t63 =>
 aLen 1 t63 fun t64 =>
 aBin .gtr false t64 (.int .i64 6) fun t65 =>
 aTest t65
 (aNil t0 fun t67 =>
 aFld 2 t67 fun t68 =>
 aStore 1 t68 (.bool true) H fun H =>
 zq69_j6 t0 t3 t4 t5 H K Kb13)
 (zq69_j6 t0 t3 t4 t5 H K Kb13)
noncomputable def zq69_j4_c : Code := codeAt [1, 0, 1] zq69_c13
def zq69_j4_Q (K : Kt) (Kb13 : Lt) : AExit → List AV → Heap → Prop := contAt Tryz.prog zq69_M [1, 0, 1] zq69_c13 (roundQ zq69_m13 Kb13 (zq69_Q13 K))
def zq69_j4 (t0 t3 t4 t5 : AV) (H : Heap) (K : Kt) (Kb13 : Lt) : Prop := AWp Tryz.prog zq69_j4_c (zq69_j4_Q K Kb13) (t0 :: ux 2 (t3 :: t4 :: t5 :: ux 64 [])) H
def zq69_j4b (t0 t3 t4 t5 : AV) (H : Heap) (K : Kt) (Kb13 : Lt) : Prop :=
 (aFld 1 t5 fun t54 =>
 (aLoad false 1 t54 H fun t55 =>
 (aLoad true 3 t3 H fun t57 =>
 ACalls Tryz.prog n_zq119 [t0, t57] H fun t58 H =>
 aBuildS 2 [(.int .i64 0), .snil] 1 [(0, t58)] fun t59 =>
 aAppend e_api_Index 2 32 t55 t59 H fun t60 H =>
 aFld 1 t5 fun t61 =>
 aStore 1 t61 t60 H fun H =>
 zq69_j5 t0 t3 t4 t5 H K Kb13) ∧ (aLoad true 3 t3 H fun t57 =>
 ACalls Tryz.prog n_zq119 [t0, t57] H fun t58 H =>
 aBuildS 2 [(.int .i64 0), .snil] 1 [(0, t58)] fun t59 =>
 aAppend e_api_Index 2 32 t55 t59 H fun t60 H =>
 aFld 1 t5 fun t61 =>
 aStore 1 t61 t60 H fun H =>
 zq69_j5 t0 t3 t4 t5 H K Kb13)) ∧ ((aLoad false 1 t54 H fun t55 =>
 aLoad true 3 t3 H fun t57 =>
 ACalls Tryz.prog n_zq119 [t0, t57] H fun t58 H =>
 aBuildS 2 [(.int .i64 0), .snil] 1 [(0, t58)] fun t59 =>
 aAppend e_api_Index 2 32 t55 t59 H fun t60 H =>
 aFld 1 t5 fun t61 =>
 aStore 1 t61 t60 H fun H =>
 zq69_j5 t0 t3 t4 t5 H K Kb13) ∧ (aLoad true 3 t3 H fun t57 =>
 (aLoad false 1 t54 H fun t55 =>
 ACalls Tryz.prog n_zq119 [t0, t57] H fun t58 H =>
 aBuildS 2 [(.int .i64 0), .snil] 1 [(0, t58)] fun t59 =>
 aAppend e_api_Index 2 32 t55 t59 H fun t60 H =>
 aFld 1 t5 fun t61 =>
 aStore 1 t61 t60 H fun H =>
 zq69_j5 t0 t3 t4 t5 H K Kb13) ∧ (ACalls Tryz.prog n_zq119 [t0, t57] H fun t58 H =>
 (aLoad false 1 t54 H fun t55 =>
 aBuildS 2 [(.int .i64 0), .snil] 1 [(0, t58)] fun t59 =>
 aAppend e_api_Index 2 32 t55 t59 H fun t60 H =>
 aFld 1 t5 fun t61 =>
 aStore 1 t61 t60 H fun H =>
 zq69_j5 t0 t3 t4 t5 H K Kb13) ∧ (aBuildS 2 [(.int .i64 0), .snil] 1 [(0, t58)] fun t59 =>
 aLoad false 1 t54 H fun t55 =>
 aAppend e_api_Index 2 32 t55 t59 H fun t60 H =>
 aFld 1 t5 fun t61 =>
 aStore 1 t61 t60 H fun H =>
 zq69_j5 t0 t3 t4 t5 H K Kb13)))) ∧ (aLoad true 3 t3 H fun t57 =>
 (aLoad false 1 t54 H fun t55 =>
 ACalls Tryz.prog n_zq119 [t0, t57] H fun t58 H =>
 aBuildS 2 [(.int .i64 0), .snil] 1 [(0, t58)] fun t59 =>
 aAppend e_api_Index 2 32 t55 t59 H fun t60 H =>
 aFld 1 t5 fun t61 =>
 aStore 1 t61 t60 H fun H =>
 zq69_j5 t0 t3 t4 t5 H K Kb13) ∧ ((aLoad false 1 t54 H fun t55 =>
 ACalls Tryz.prog n_zq119 [t0, t57] H fun t58 H =>
 aBuildS 2 [(.int .i64 0), .snil] 1 [(0, t58)] fun t59 =>
 aAppend e_api_Index 2 32 t55 t59 H fun t60 H =>
 aFld 1 t5 fun t61 =>
 aStore 1 t61 t60 H fun H =>
 zq69_j5 t0 t3 t4 t5 H K Kb13) ∧ (ACalls Tryz.prog n_zq119 [t0, t57] H fun t58 H =>
 (aLoad false 1 t54 H fun t55 =>
 aBuildS 2 [(.int .i64 0), .snil] 1 [(0, t58)] fun t59 =>
 aAppend e_api_Index 2 32 t55 t59 H fun t60 H =>
 aFld 1 t5 fun t61 =>
 aStore 1 t61 t60 H fun H =>
 zq69_j5 t0 t3 t4 t5 H K Kb13) ∧ (aBuildS 2 [(.int .i64 0), .snil] 1 [(0, t58)] fun t59 =>
 aLoad false 1 t54 H fun t55 =>
 aAppend e_api_Index 2 32 t55 t59 H fun t60 H =>
 aFld 1 t5 fun t61 =>
 aStore 1 t61 t60 H fun H =>
 zq69_j5 t0 t3 t4 t5 H K Kb13))))) ∧ ((aFld 1 t5 fun t54 =>
 (aLoad false 1 t54 H fun t55 =>
 aLoad true 3 t3 H fun t57 =>
 ACalls Tryz.prog n_zq119 [t0, t57] H fun t58 H =>
 aBuildS 2 [(.int .i64 0), .snil] 1 [(0, t58)] fun t59 =>
 aAppend e_api_Index 2 32 t55 t59 H fun t60 H =>
 aFld 1 t5 fun t61 =>
 aStore 1 t61 t60 H fun H =>
 zq69_j5 t0 t3 t4 t5 H K Kb13) ∧ (aLoad true 3 t3 H fun t57 =>
 (aLoad false 1 t54 H fun t55 =>
 ACalls Tryz.prog n_zq119 [t0, t57] H fun t58 H =>
 aBuildS 2 [(.int .i64 0), .snil] 1 [(0, t58)] fun t59 =>
 aAppend e_api_Index 2 32 t55 t59 H fun t60 H =>
 aFld 1 t5 fun t61 =>
 aStore 1 t61 t60 H fun H =>
 zq69_j5 t0 t3 t4 t5 H K Kb13) ∧ (ACalls Tryz.prog n_zq119 [t0, t57] H fun t58 H =>
 (aLoad false 1 t54 H fun t55 =>
 aBuildS 2 [(.int .i64 0), .snil] 1 [(0, t58)] fun t59 =>
 aAppend e_api_Index 2 32 t55 t59 H fun t60 H =>
 aFld 1 t5 fun t61 =>
 aStore 1 t61 t60 H fun H =>
 zq69_j5 t0 t3 t4 t5 H K Kb13) ∧ (aBuildS 2 [(.int .i64 0), .snil] 1 [(0, t58)] fun t59 =>
 aLoad false 1 t54 H fun t55 =>
 aAppend e_api_Index 2 32 t55 t59 H fun t60 H =>
 aFld 1 t5 fun t61 =>
 aStore 1 t61 t60 H fun H =>
 zq69_j5 t0 t3 t4 t5 H K Kb13)))) ∧ (aLoad true 3 t3 H fun t57 =>
 (aFld 1 t5 fun t54 =>
 (aLoad false 1 t54 H fun t55 =>
 ACalls Tryz.prog n_zq119 [t0, t57] H fun t58 H =>
 aBuildS 2 [(.int .i64 0), .snil] 1 [(0, t58)] fun t59 =>
 aAppend e_api_Index 2 32 t55 t59 H fun t60 H =>
 aFld 1 t5 fun t61 =>
 aStore 1 t61 t60 H fun H =>
 zq69_j5 t0 t3 t4 t5 H K Kb13) ∧ (ACalls Tryz.prog n_zq119 [t0, t57] H fun t58 H =>
 (aLoad false 1 t54 H fun t55 =>
 aBuildS 2 [(.int .i64 0), .snil] 1 [(0, t58)] fun t59 =>
 aAppend e_api_Index 2 32 t55 t59 H fun t60 H =>
 aFld 1 t5 fun t61 =>
 aStore 1 t61 t60 H fun H =>
 zq69_j5 t0 t3 t4 t5 H K Kb13) ∧ (aBuildS 2 [(.int .i64 0), .snil] 1 [(0, t58)] fun t59 =>
 aLoad false 1 t54 H fun t55 =>
 aAppend e_api_Index 2 32 t55 t59 H fun t60 H =>
 aFld 1 t5 fun t61 =>
 aStore 1 t61 t60 H fun H =>
 zq69_j5 t0 t3 t4 t5 H K Kb13))) ∧ (ACalls Tryz.prog n_zq119 [t0, t57] H fun t58 H =>
 (aFld 1 t5 fun t54 =>
 (aLoad false 1 t54 H fun t55 =>
 aBuildS 2 [(.int .i64 0), .snil] 1 [(0, t58)] fun t59 =>
 aAppend e_api_Index 2 32 t55 t59 H fun t60 H =>
 aFld 1 t5 fun t61 =>
 aStore 1 t61 t60 H fun H =>
 zq69_j5 t0 t3 t4 t5 H K Kb13) ∧ (aBuildS 2 [(.int .i64 0), .snil] 1 [(0, t58)] fun t59 =>
 aLoad false 1 t54 H fun t55 =>
 aAppend e_api_Index 2 32 t55 t59 H fun t60 H =>
 aFld 1 t5 fun t61 =>
 aStore 1 t61 t60 H fun H =>
 zq69_j5 t0 t3 t4 t5 H K Kb13)) ∧ (aBuildS 2 [(.int .i64 0), .snil] 1 [(0, t58)] fun t59 =>
 aFld 1 t5 fun t54 =>
 aLoad false 1 t54 H fun t55 =>
 aAppend e_api_Index 2 32 t55 t59 H fun t60 H =>
 aFld 1 t5 fun t61 =>
 aStore 1 t61 t60 H fun H =>
 zq69_j5 t0 t3 t4 t5 H K Kb13)))) ∧ (aLoad true 3 t3 H fun t57 =>
 (aFld 1 t5 fun t54 =>
 (aLoad false 1 t54 H fun t55 =>
 ACalls Tryz.prog n_zq119 [t0, t57] H fun t58 H =>
 aBuildS 2 [(.int .i64 0), .snil] 1 [(0, t58)] fun t59 =>
 aAppend e_api_Index 2 32 t55 t59 H fun t60 H =>
 aFld 1 t5 fun t61 =>
 aStore 1 t61 t60 H fun H =>
 zq69_j5 t0 t3 t4 t5 H K Kb13) ∧ ((aLoad false 1 t54 H fun t55 =>
 ACalls Tryz.prog n_zq119 [t0, t57] H fun t58 H =>
 aBuildS 2 [(.int .i64 0), .snil] 1 [(0, t58)] fun t59 =>
 aAppend e_api_Index 2 32 t55 t59 H fun t60 H =>
 aFld 1 t5 fun t61 =>
 aStore 1 t61 t60 H fun H =>
 zq69_j5 t0 t3 t4 t5 H K Kb13) ∧ (ACalls Tryz.prog n_zq119 [t0, t57] H fun t58 H =>
 (aLoad false 1 t54 H fun t55 =>
 aBuildS 2 [(.int .i64 0), .snil] 1 [(0, t58)] fun t59 =>
 aAppend e_api_Index 2 32 t55 t59 H fun t60 H =>
 aFld 1 t5 fun t61 =>
 aStore 1 t61 t60 H fun H =>
 zq69_j5 t0 t3 t4 t5 H K Kb13) ∧ (aBuildS 2 [(.int .i64 0), .snil] 1 [(0, t58)] fun t59 =>
 aLoad false 1 t54 H fun t55 =>
 aAppend e_api_Index 2 32 t55 t59 H fun t60 H =>
 aFld 1 t5 fun t61 =>
 aStore 1 t61 t60 H fun H =>
 zq69_j5 t0 t3 t4 t5 H K Kb13)))) ∧ ((aFld 1 t5 fun t54 =>
 (aLoad false 1 t54 H fun t55 =>
 ACalls Tryz.prog n_zq119 [t0, t57] H fun t58 H =>
 aBuildS 2 [(.int .i64 0), .snil] 1 [(0, t58)] fun t59 =>
 aAppend e_api_Index 2 32 t55 t59 H fun t60 H =>
 aFld 1 t5 fun t61 =>
 aStore 1 t61 t60 H fun H =>
 zq69_j5 t0 t3 t4 t5 H K Kb13) ∧ (ACalls Tryz.prog n_zq119 [t0, t57] H fun t58 H =>
 (aLoad false 1 t54 H fun t55 =>
 aBuildS 2 [(.int .i64 0), .snil] 1 [(0, t58)] fun t59 =>
 aAppend e_api_Index 2 32 t55 t59 H fun t60 H =>
 aFld 1 t5 fun t61 =>
 aStore 1 t61 t60 H fun H =>
 zq69_j5 t0 t3 t4 t5 H K Kb13) ∧ (aBuildS 2 [(.int .i64 0), .snil] 1 [(0, t58)] fun t59 =>
 aLoad false 1 t54 H fun t55 =>
 aAppend e_api_Index 2 32 t55 t59 H fun t60 H =>
 aFld 1 t5 fun t61 =>
 aStore 1 t61 t60 H fun H =>
 zq69_j5 t0 t3 t4 t5 H K Kb13))) ∧ (ACalls Tryz.prog n_zq119 [t0, t57] H fun t58 H =>
 (aFld 1 t5 fun t54 =>
 (aLoad false 1 t54 H fun t55 =>
 aBuildS 2 [(.int .i64 0), .snil] 1 [(0, t58)] fun t59 =>
 aAppend e_api_Index 2 32 t55 t59 H fun t60 H =>
 aFld 1 t5 fun t61 =>
 aStore 1 t61 t60 H fun H =>
 zq69_j5 t0 t3 t4 t5 H K Kb13) ∧ (aBuildS 2 [(.int .i64 0), .snil] 1 [(0, t58)] fun t59 =>
 aLoad false 1 t54 H fun t55 =>
 aAppend e_api_Index 2 32 t55 t59 H fun t60 H =>
 aFld 1 t5 fun t61 =>
 aStore 1 t61 t60 H fun H =>
 zq69_j5 t0 t3 t4 t5 H K Kb13)) ∧ (aBuildS 2 [(.int .i64 0), .snil] 1 [(0, t58)] fun t59 =>
 aFld 1 t5 fun t54 =>
 aLoad false 1 t54 H fun t55 =>
 aAppend e_api_Index 2 32 t55 t59 H fun t60 H =>
 aFld 1 t5 fun t61 =>
 aStore 1 t61 t60 H fun H =>
 zq69_j5 t0 t3 t4 t5 H K Kb13))))
def zq69_b13 (t0 t3 t4 t5 : AV) (H : Heap) (K : Kt) (Kb13 : Lt) : Prop :=
 aNil t0 fun t39 =>
 aFld 2 t39 fun t40 =>
 aLoad false 1 t40 H fun t41 =>
 aUn .not t41 fun t42 =>
 aGuardJ t42 true H (fun K' => K' t0 H) fun t44 H =>
 aGuardJ t42 true H (fun K' => ACalls Tryz.prog n_zq118 [t44, (.str [93])] H K') fun t45 H =>
 aGuardJ t42 true H (fun K' => aUn .not t45 (K' · H)) fun t46 H =>
 aPick t42 t46 (.bool false) fun t47 =>
 aTest t47
 (aFld 1 t5 fun t48 =>
 aLoad false 1 t48 H fun t49 =>
 aLen 1 t49 fun t50 =>
 aBin .gtr false t50 (.int .i64 0) fun t51 =>
 aTest t51
 (ACalls Tryz.prog n_zq117 [t0, (.str [44, 32])] H fun t53 H =>
 zq69_j4 t0 t3 t4 t5 H K Kb13)
 (zq69_j4 t0 t3 t4 t5 H K Kb13))
 (zq69_j1 t4 t5 H K)
def zq69 (t0 t1 : AV) (H : Heap) (K : Kt) : Prop :=
 aBox t1 H fun t3 H =>
 aNew [(.int .i64 0), .snil] H fun t4 H =>
 aNew [(.int .i64 0), .snil] H fun t5 H =>
 aFld 0 t3 fun t8 =>
 aLoad false 1 t8 H fun t9 =>
 aBin .eql false t9 (.int .i64 6) fun t13 =>
 aTest t13
 (aFld 2 t3 fun t15 =>
 aLoad false 1 t15 H fun t16 =>
 ACalls Tryz.prog n_zq113 [t0, t16] H fun t17 H =>
 aFld 1 t5 fun t18 =>
 aStore 1 t18 t17 H fun H =>
 zq69_j1 t4 t5 H K)
 (aBin .eql false t9 (.int .i64 7) fun t20 =>
 aTest t20
 (ACalls Tryz.prog n_zq115 [t0, (.fn n_zq116 [])] H fun t23 H =>
 ACalls Tryz.prog n_zq114 [t23] H fun t24 H =>
 aExt t24 0 fun t25 =>
 aExt t24 1 fun t26 =>
 aNilCmp true .neq t26 fun t28 =>
 aTest t28
 (aNil t0 fun t30 =>
 aFld 2 t30 fun t31 =>
 aStore 1 t31 (.bool true) H fun H =>
 zq69_j3 t4 t5 t25 H K)
 (zq69_j3 t4 t5 t25 H K))
 (aBin .eql false t9 (.int .i64 5) fun t35 =>
 aTest t35
 (ACalls Tryz.prog n_zq117 [t0, (.str [91])] H fun t37 H =>
 zq69_l13 t0 t3 t4 t5 H K)
 (ACalls Tryz.prog n_zq117 [t0, (.str [42])] H fun t11 H =>
 zq69_j1 t4 t5 H K)))
theorem zq69_j4_eq (t0 t3 t4 t5 : AV) (H : Heap) (K : Kt) (Kb13 : Lt) : awp Tryz.prog zq69_M zq69_j4_c (zq69_j4_Q K Kb13) (t0 :: ux 2 (t3 :: t4 :: t5 :: ux 64 [])) H = zq69_j4b t0 t3 t4 t5 H K Kb13 := by kernel_rfl
theorem zq69_j4_ok {t0 t3 t4 t5 : AV} {H : Heap} {K : Kt} {Kb13 : Lt} (h : HSc H → zq69_j4b t0 t3 t4 t5 H K Kb13) : zq69_j4 t0 t3 t4 t5 H K Kb13 :=
 fun B w G a hH hF hd => awp_sound (M := zq69_M) _ _ _ _ ((zq69_j4_eq t0 t3 t4 t5 H K Kb13).mpr (h hH.sc)) B w G a hH hF hd
theorem zq69_b13_eq (t0 t3 t4 t5 : AV) (H : Heap) (K : Kt) (Kb13 : Lt) : awp Tryz.prog zq69_M zq69_c13 (roundQ zq69_m13 Kb13 (zq69_Q13 K)) (zq69_fr13 t0 t3 t4 t5) H = zq69_b13 t0 t3 t4 t5 H K Kb13 := by kernel_rfl
theorem zq69_loop13 {t0 t3 t4 t5 : AV} {H : Heap} {K : Kt} (Inv : Nat → Heap → Prop) (n : Nat) (h0 : HSc H → Inv n H)
   (round : ∀ n H', Inv n H' → HSc H' → H.length ≤ H'.length → (zq69_fr13 t0 t3 t4 t5).all (AV.sc H'.length) = true → ∀ Kb13 : Lt, (∀ F'' H'', (∃ n', n' < n ∧ Back H.length (fun F2 H2 => F2 = zq69_fr13 t0 t3 t4 t5 ∧ Inv n' H2) F'' H'') → Kb13 F'' H'') → zq69_b13 t0 t3 t4 t5 H' K Kb13) : zq69_l13 t0 t3 t4 t5 H K :=
 aloop (M := zq69_M) zq69_m13 (fun n F H => F = zq69_fr13 t0 t3 t4 t5 ∧ Inv n H) n (fun hs _ => ⟨rfl, h0 hs⟩) (fun n F H' ⟨hF, hI⟩ h1 h2 h3 => by subst hF; rw [zq69_b13_eq]; exact round n H' hI h1 h2 h3 _ (fun _ _ h => h))
theorem zq69_eq (t0 t1 : AV) (H : Heap) (K : Kt) : awp Tryz.prog zq69_M zq69_c (retQ Tryz.prog zq69_r K) (t0 :: t1 :: List.replicate 68 .unk) H = zq69 t0 t1 H K := by kernel_rfl
theorem zq69_ok {t0 t1 : AV} {H : Heap} {K : Kt} (h : HSc H → zq69 t0 t1 H K) : ACalls Tryz.prog n_zq69 [t0, t1] H K :=
 acalls_body (M := zq69_M) Tryz.func71 (c := zq69_c) (by kernel_rfl) (fun hs => (zq69_eq t0 t1 H K).mpr (h hs))
def zq113_M : Nat → List Bool
 | 4 => rl false [0,1,4,1,4,3,22]
 | _ => []
noncomputable def zq113_c : Code := Tryz.f115.body.getD .skip
noncomputable def zq113_r : List ResultVar := Tryz.f115.results.toList
def zq113_fr4 (t0 t5 t10 t11 t12 : AV) : List AV := t0 :: ux 4 (t5 :: ux 4 (t10 :: t11 :: t12 :: ux 22 []))
def zq113_m4 : List Bool := zq113_M 4
noncomputable def zq113_c4 : Code := codeAt [1, 1, 1, 0, 1, 0, 0] zq113_c
def zq113_Q4 (K : Kt) : AExit → List AV → Heap → Prop := contAt Tryz.prog zq113_M [1, 1, 1, 0, 1, 0] zq113_c (retQ Tryz.prog zq113_r K)
def zq113_l4 (t0 t5 t10 t11 t12 : AV) (H : Heap) (K : Kt) : Prop := ALoop Tryz.prog zq113_c4 (zq113_Q4 K) (zq113_fr4 t0 t5 t10 t11 t12) H
def zq113_j1 (t0 t5 t7 t10 t11 t12 : AV) (H : Heap) (K : Kt) (Kb4 : Lt) : Prop :=
 aNil t0 fun t22 =>
 aFld 2 t22 fun t23 =>
 aLoad false 1 t23 H fun t24 =>
 aTest t24
 (K .snil H)
 (aLoad true 3 t7 H fun t27 =>
 ACalls Tryz.prog n_zq69 [t0, t27] H fun t28 H =>
 aBuildS 2 [(.int .i64 0), .snil] 1 [(0, t28)] fun t29 =>
 aAppend e_api_Index 2 32 t5 t29 H fun t30 H =>
 aBin .add false t12 (.int .i64 1) fun t31 =>
 Kb4 (zq113_fr4 t0 t30 t10 t11 t31) H)
def zq113_b4 (t0 t5 t10 t11 t12 : AV) (H : Heap) (K : Kt) (Kb4 : Lt) : Prop :=
 aBin .lss false t12 t11 fun t13 =>
 aTest t13
 (aIdxA 3 t10 t12 fun t15 =>
 aLoad true 3 t15 H fun t16 =>
 aNew [(.int .i64 0), (.int .i64 0), .snil] H fun t7 H =>
 aStore 3 t7 t16 H fun H =>
 aBin .gtr false t12 (.int .i64 0) fun t18 =>
 aTest t18
 (ACalls Tryz.prog n_zq117 [t0, (.str [44, 32])] H fun t20 H =>
 zq113_j1 t0 t5 t7 t10 t11 t12 H K Kb4)
 (zq113_j1 t0 t5 t7 t10 t11 t12 H K Kb4))
 (ACalls Tryz.prog n_zq117 [t0, (.str [41])] H fun t33 H =>
 K t5 H)
def zq113 (t0 t1 : AV) (H : Heap) (K : Kt) : Prop :=
 ACalls Tryz.prog n_zq117 [t0, (.str [40])] H fun t9 H =>
 aLen 1 t1 fun t11 =>
 zq113_l4 t0 .snil t1 t11 (.int .i64 0) H K
theorem zq113_b4_eq (t0 t5 t10 t11 t12 : AV) (H : Heap) (K : Kt) (Kb4 : Lt) : awp Tryz.prog zq113_M zq113_c4 (roundQ zq113_m4 Kb4 (zq113_Q4 K)) (zq113_fr4 t0 t5 t10 t11 t12) H = zq113_b4 t0 t5 t10 t11 t12 H K Kb4 := by kernel_rfl
theorem zq113_loop4 {t0 t5 t10 t11 t12 : AV} {H : Heap} {K : Kt} (Inv : Nat → AV → AV → Heap → Prop) (n : Nat) (h0 : HSc H → Inv n t5 t12 H)
   (round : ∀ n t5 t12 H', Inv n t5 t12 H' → HSc H' → H.length ≤ H'.length → (zq113_fr4 t0 t5 t10 t11 t12).all (AV.sc H'.length) = true → ∀ Kb4 : Lt, (∀ F'' H'', (∃ n', n' < n ∧ Back H.length (fun F2 H2 => ∃ t5 t12, F2 = zq113_fr4 t0 t5 t10 t11 t12 ∧ Inv n' t5 t12 H2) F'' H'') → Kb4 F'' H'') → zq113_b4 t0 t5 t10 t11 t12 H' K Kb4) : zq113_l4 t0 t5 t10 t11 t12 H K :=
 aloop (M := zq113_M) zq113_m4 (fun n F H => ∃ t5 t12, F = zq113_fr4 t0 t5 t10 t11 t12 ∧ Inv n t5 t12 H) n (fun hs _ => ⟨t5, t12, rfl, h0 hs⟩) (fun n F H' ⟨t5, t12, hF, hI⟩ h1 h2 h3 => by subst hF; rw [zq113_b4_eq]; exact round n t5 t12 H' hI h1 h2 h3 _ (fun _ _ h => h))
theorem zq113_eq (t0 t1 : AV) (H : Heap) (K : Kt) : awp Tryz.prog zq113_M zq113_c (retQ Tryz.prog zq113_r K) (t0 :: t1 :: List.replicate 33 .unk) H = zq113 t0 t1 H K := by kernel_rfl
theorem zq113_ok {t0 t1 : AV} {H : Heap} {K : Kt} (h : HSc H → zq113 t0 t1 H K) : ACalls Tryz.prog n_zq113 [t0, t1] H K :=
 acalls_body (M := zq113_M) Tryz.func115 (c := zq113_c) (by kernel_rfl) (fun hs => (zq113_eq t0 t1 H K).mpr (h hs))
def zq115_M : Nat → List Bool
 | 2 => rl false [0,2,3,1,36]
 | _ => []
noncomputable def zq115_c : Code := Tryz.f117.body.getD .skip
noncomputable def zq115_r : List ResultVar := Tryz.f117.results.toList
def zq115_fr2 (t0 t1 t5 : AV) : List AV := t0 :: t1 :: ux 3 (t5 :: ux 36 [])
def zq115_m2 : List Bool := zq115_M 2
noncomputable def zq115_c2 : Code := codeAt [1, 1, 0, 0, 0] zq115_c
def zq115_Q2 (K : Kt) : AExit → List AV → Heap → Prop := contAt Tryz.prog zq115_M [1, 1, 0, 0] zq115_c (retQ Tryz.prog zq115_r K)
def zq115_l2 (t0 t1 t5 : AV) (H : Heap) (K : Kt) : Prop := ALoop Tryz.prog zq115_c2 (zq115_Q2 K) (zq115_fr2 t0 t1 t5) H
def zq115_b2 (t0 t1 t5 : AV) (H : Heap) (K : Kt) (Kb2 : Lt) : Prop :=
 aNil t0 fun t9 =>
 aFld 1 t9 fun t10 =>
 aLoad false 1 t10 H fun t11 =>
 aLen 0 t11 fun t12 =>
 aBin .lss false t5 t12 fun t13 =>
 aGuardJ t13 true H (fun K' => K' t1 H) fun t15 H =>
 aGuardJ t13 true H (fun K' => K' t0 H) fun t16 H =>
 aGuardJ t13 true H (fun K' => aNil t16 (K' · H)) fun t17 H =>
 aGuardJ t13 true H (fun K' => aFld 1 t17 (K' · H)) fun t18 H =>
 aGuardJ t13 true H (fun K' => aLoad false 1 t18 H (K' · H)) fun t19 H =>
 aGuardJ t13 true H (fun K' => K' t5 H) fun t20 H =>
 aGuardJ t13 true H (fun K' => aIdxS t19 t20 (K' · H)) fun t21 H =>
 aGuardJ t13 true H (fun K' => aCallV Tryz.prog t15 [t21] H K') fun t22 H =>
 aPick t13 t22 (.bool false) fun t23 =>
 aTest t23
 (aBin .add false t5 (.int .i64 1) fun t25 =>
 Kb2 (zq115_fr2 t0 t1 t25) H)
 (aNil t0 fun t27 =>
 aFld 1 t27 fun t28 =>
 aLoad false 1 t28 H fun t29 =>
 aSlice 0 0 t29 none (some t5) fun t31 =>
 aNil t0 fun t34 =>
 aFld 1 t34 fun t35 =>
 aLoad false 1 t35 H fun t36 =>
 aSlice 0 0 t36 (some t5) none fun t38 =>
 aNil t0 fun t39 =>
 aFld 1 t39 fun t40 =>
 aStore 1 t40 t38 H fun H =>
 K t31 H)
def zq115 (t0 t1 : AV) (H : Heap) (K : Kt) : Prop :=
 zq115_l2 t0 t1 (.int .i64 0) H K
theorem zq115_b2_eq (t0 t1 t5 : AV) (H : Heap) (K : Kt) (Kb2 : Lt) : awp Tryz.prog zq115_M zq115_c2 (roundQ zq115_m2 Kb2 (zq115_Q2 K)) (zq115_fr2 t0 t1 t5) H = zq115_b2 t0 t1 t5 H K Kb2 := by kernel_rfl
theorem zq115_loop2 {t0 t1 t5 : AV} {H : Heap} {K : Kt} (Inv : Nat → AV → Heap → Prop) (n : Nat) (h0 : HSc H → Inv n t5 H)
   (round : ∀ n t5 H', Inv n t5 H' → HSc H' → H.length ≤ H'.length → (zq115_fr2 t0 t1 t5).all (AV.sc H'.length) = true → ∀ Kb2 : Lt, (∀ F'' H'', (∃ n', n' < n ∧ Back H.length (fun F2 H2 => ∃ t5, F2 = zq115_fr2 t0 t1 t5 ∧ Inv n' t5 H2) F'' H'') → Kb2 F'' H'') → zq115_b2 t0 t1 t5 H' K Kb2) : zq115_l2 t0 t1 t5 H K :=
 aloop (M := zq115_M) zq115_m2 (fun n F H => ∃ t5, F = zq115_fr2 t0 t1 t5 ∧ Inv n t5 H) n (fun hs _ => ⟨t5, rfl, h0 hs⟩) (fun n F H' ⟨t5, hF, hI⟩ h1 h2 h3 => by subst hF; rw [zq115_b2_eq]; exact round n t5 H' hI h1 h2 h3 _ (fun _ _ h => h))
theorem zq115_eq (t0 t1 : AV) (H : Heap) (K : Kt) : awp Tryz.prog zq115_M zq115_c (retQ Tryz.prog zq115_r K) (t0 :: t1 :: List.replicate 40 .unk) H = zq115 t0 t1 H K := by kernel_rfl
theorem zq115_ok {t0 t1 : AV} {H : Heap} {K : Kt} (h : HSc H → zq115 t0 t1 H K) : ACalls Tryz.prog n_zq115 [t0, t1] H K :=
 acalls_body (M := zq115_M) Tryz.func117 (c := zq115_c) (by kernel_rfl) (fun hs => (zq115_eq t0 t1 H K).mpr (h hs))
def zq116_M (_ : Nat) : List Bool := []
noncomputable def zq116_c : Code := Tryz.f118.body.getD .skip
noncomputable def zq116_r : List ResultVar := Tryz.f118.results.toList
def zq116 (t0 : AV) (H : Heap) (K : Kt) : Prop :=
 aBin .geq false t0 (.int .u8 48) fun t4 =>
 aGuardJ t4 true H (fun K' => K' t0 H) fun t6 H =>
 aGuardJ t4 true H (fun K' => aBin .leq false t6 (.int .u8 57) (K' · H)) fun t7 H =>
 aPick t4 t7 (.bool false) fun t8 =>
 K t8 H
theorem zq116_eq (t0 : AV) (H : Heap) (K : Kt) : awp Tryz.prog zq116_M zq116_c (retQ Tryz.prog zq116_r K) (t0 :: List.replicate 8 .unk) H = zq116 t0 H K := by kernel_rfl
theorem zq116_ok {t0 : AV} {H : Heap} {K : Kt} (h : HSc H → zq116 t0 H K) : ACalls Tryz.prog n_zq116 [t0] H K :=
 acalls_body (M := zq116_M) Tryz.func118 (c := zq116_c) (by kernel_rfl) (fun hs => (zq116_eq t0 H K).mpr (h hs))
def zq117_M (_ : Nat) : List Bool := []
noncomputable def zq117_c : Code := Tryz.f119.body.getD .skip
noncomputable def zq117_r : List ResultVar := Tryz.f119.results.toList
def zq117 (t0 t1 : AV) (H : Heap) (K : Kt) : Prop :=
 ACalls Tryz.prog n_zq118 [t0, t1] H fun t6 H =>
 aUn .not t6 fun t7 =>
 aTest t7
 (aNil t0 fun t9 =>
 aFld 2 t9 fun t10 =>
 aStore 1 t10 (.bool true) H fun H =>
 aRet [] (K · H))
 (aRet [] (K · H))
theorem zq117_eq (t0 t1 : AV) (H : Heap) (K : Kt) : awp Tryz.prog zq117_M zq117_c (retQ Tryz.prog zq117_r K) (t0 :: t1 :: List.replicate 9 .unk) H = zq117 t0 t1 H K := by kernel_rfl
theorem zq117_ok {t0 t1 : AV} {H : Heap} {K : Kt} (h : HSc H → zq117 t0 t1 H K) : ACalls Tryz.prog n_zq117 [t0, t1] H K :=
 acalls_body (M := zq117_M) Tryz.func119 (c := zq117_c) (by kernel_rfl) (fun hs => (zq117_eq t0 t1 H K).mpr (h hs))
def zq118_M (_ : Nat) : List Bool := []
noncomputable def zq118_c : Code := Tryz.f120.body.getD .skip
noncomputable def zq118_r : List ResultVar := Tryz.f120.results.toList
def zq118_j1 (t6 : AV) (H : Heap) (K : Kt) : Prop :=
 K t6 H
def zq118 (t0 t1 : AV) (H : Heap) (K : Kt) : Prop :=
 aNil t0 fun t9 =>
 aFld 1 t9 fun t10 =>
 aLoad false 1 t10 H fun t11 =>
 ACalls Tryz.prog n_zq168 [t11, t1] H fun t13 H =>
 aExt t13 0 fun t14 =>
 aExt t13 1 fun t15 =>
 aTest t15
 (aNil t0 fun t19 =>
 aFld 1 t19 fun t20 =>
 aStore 1 t20 t14 H fun H =>
 zq118_j1 t15 H K)
 (zq118_j1 t15 H K)
theorem zq118_eq (t0 t1 : AV) (H : Heap) (K : Kt) : awp Tryz.prog zq118_M zq118_c (retQ Tryz.prog zq118_r K) (t0 :: t1 :: List.replicate 20 .unk) H = zq118 t0 t1 H K := by kernel_rfl
theorem zq118_ok {t0 t1 : AV} {H : Heap} {K : Kt} (h : HSc H → zq118 t0 t1 H K) : ACalls Tryz.prog n_zq118 [t0, t1] H K :=
 acalls_body (M := zq118_M) Tryz.func120 (c := zq118_c) (by kernel_rfl) (fun hs => (zq118_eq t0 t1 H K).mpr (h hs))
def zq119_M : Nat → List Bool
 | 3 => rl false [0,1,2,3,15,3,35]
 | _ => []
noncomputable def zq119_c : Code := Tryz.f121.body.getD .skip
noncomputable def zq119_r : List ResultVar := Tryz.f121.results.toList
def zq119_fr3 (t0 t3 t4 t5 t21 t22 t23 : AV) : List AV := t0 :: ux 2 (t3 :: t4 :: t5 :: ux 15 (t21 :: t22 :: t23 :: ux 35 []))
def zq119_m3 : List Bool := zq119_M 3
noncomputable def zq119_c3 : Code := codeAt [1, 1, 0, 1, 0, 0] zq119_c
def zq119_Q3 (K : Kt) : AExit → List AV → Heap → Prop := contAt Tryz.prog zq119_M [1, 1, 0, 1, 0] zq119_c (retQ Tryz.prog zq119_r K)
def zq119_l3 (t0 t3 t4 t5 t21 t22 t23 : AV) (H : Heap) (K : Kt) : Prop := ALoop Tryz.prog zq119_c3 (zq119_Q3 K) (zq119_fr3 t0 t3 t4 t5 t21 t22 t23) H
def zq119_j2 (t0 t4 : AV) (H : Heap) (K : Kt) : Prop :=
 aNil t0 fun t56 =>
 aFld 2 t56 fun t57 =>
 aStore 1 t57 (.bool true) H fun H =>
 aBuild [(.int .i64 0), .snil] [(0, 1), (1, 1)] [] fun t58 =>
 aStore 2 t4 t58 H fun H =>
 aLoad true 2 t4 H fun r0 =>
 K r0 H
def zq119_j1 (t0 t4 : AV) (H : Heap) (K : Kt) : Prop :=
 zq119_j2 t0 t4 H K
def zq119_j3 (t4 t10 : AV) (H : Heap) (K : Kt) (Kb3 : Lt) : Prop :=
 aLoad true 2 t10 H fun t53 =>
 aStore 2 t4 t53 H fun H =>
 aLoad true 2 t4 H fun r0 =>
 K r0 H
def zq119_b3 (t0 t3 t4 t5 t21 t22 t23 : AV) (H : Heap) (K : Kt) (Kb3 : Lt) : Prop :=
 aBin .lss false t23 t22 fun t24 =>
 aTest t24
 (aIdxA 2 t21 t23 fun t26 =>
 aLoad true 2 t26 H fun t27 =>
 aNew [(.str []), .snil] H fun t7 H =>
 aStore 2 t7 t27 H fun H =>
 aFld 0 t7 fun t28 =>
 aLoad false 1 t28 H fun t29 =>
 aBin .neq false t29 t5 fun t31 =>
 aTest t31
 (aBin .add false t23 (.int .i64 1) fun t54 =>
 Kb3 (zq119_fr3 t0 t3 t4 t5 t21 t22 t54) H)
 (aPure H (fun K' => K' t0 H) fun t33 =>
 aPure H (fun K' => aNil t33 (K' · H)) fun t34 =>
 aPure H (fun K' => aFld 0 t34 (K' · H)) fun t35 =>
 aPure H (fun K' => aLoadC false 1 t35 H (K' · H)) fun t36 =>
 aPure H (fun K' => aLoadC true 3 t3 H (K' · H)) fun t37 =>
 aPure H (fun K' => K' t23 H) fun t38 =>
 aPureX H (fun H K' => ACalls Tryz.prog n_zq107 [t36, t37, t38] H K') fun t39 =>
 aPure H (fun K' => K' t39 H) fun t32 =>
 aPure H (fun K' => aExt t32 0 (K' · H)) fun t40 =>
 aPure H (fun K' => aExt t32 1 (K' · H)) fun t41 =>
 aPure H (fun K' => K' t40 H) fun t8 =>
 aPure H (fun K' => K' t41 H) fun t9 =>
 aUn .not t9 fun t43 =>
 aTest t43
 (zq119_j1 t0 t4 H K)
 (aBuild [(.int .i64 0), .snil] [(0, 1), (1, 1)] [(0, t23)] fun t45 =>
 aNew [(.int .i64 0), .snil] H fun t10 H =>
 aStore 2 t10 t45 H fun H =>
 aLen 1 t8 fun t47 =>
 aBin .gtr false t47 (.int .i64 0) fun t48 =>
 aTest t48
 (ACalls Tryz.prog n_zq113 [t0, t8] H fun t51 H =>
 aFld 1 t10 fun t52 =>
 aStore 1 t52 t51 H fun H =>
 zq119_j3 t4 t10 H K Kb3)
 (zq119_j3 t4 t10 H K Kb3))))
 (zq119_j1 t0 t4 H K)
def zq119 (t0 t1 : AV) (H : Heap) (K : Kt) : Prop :=
 aBox t1 H fun t3 H =>
 aNew [(.int .i64 0), .snil] H fun t4 H =>
 ACalls Tryz.prog n_zq115 [t0, (.fn n_zq169 [])] H fun t12 H =>
 aPure H (fun K' => K' t0 H) fun t13 =>
 aPure H (fun K' => aNil t13 (K' · H)) fun t14 =>
 aPure H (fun K' => aFld 0 t14 (K' · H)) fun t15 =>
 aPure H (fun K' => aLoadC false 1 t15 H (K' · H)) fun t16 =>
 aPure H (fun K' => aFld 1 t3 (K' · H)) fun t17 =>
 aPure H (fun K' => aLoadC false 1 t17 H (K' · H)) fun t18 =>
 aPure H (fun K' => aIdxA 3 t16 t18 (K' · H)) fun t19 =>
 aPure H (fun K' => aFld 2 t19 (K' · H)) fun t20 =>
 aPure H (fun K' => aLoadC false 1 t20 H (K' · H)) fun t21 =>
 aPure H (fun K' => aLen 1 t21 (K' · H)) fun t22 =>
 aPure H (fun K' => K' (.int .i64 0) H) fun t23 =>
 zq119_l3 t0 t3 t4 t12 t21 t22 t23 H K
theorem zq119_b3_eq (t0 t3 t4 t5 t21 t22 t23 : AV) (H : Heap) (K : Kt) (Kb3 : Lt) : awp Tryz.prog zq119_M zq119_c3 (roundQ zq119_m3 Kb3 (zq119_Q3 K)) (zq119_fr3 t0 t3 t4 t5 t21 t22 t23) H = zq119_b3 t0 t3 t4 t5 t21 t22 t23 H K Kb3 := by kernel_rfl
theorem zq119_loop3 {t0 t3 t4 t5 t21 t22 t23 : AV} {H : Heap} {K : Kt} (Inv : Nat → AV → Heap → Prop) (n : Nat) (h0 : HSc H → Inv n t23 H)
   (round : ∀ n t23 H', Inv n t23 H' → HSc H' → H.length ≤ H'.length → (zq119_fr3 t0 t3 t4 t5 t21 t22 t23).all (AV.sc H'.length) = true → ∀ Kb3 : Lt, (∀ F'' H'', (∃ n', n' < n ∧ Back H.length (fun F2 H2 => ∃ t23, F2 = zq119_fr3 t0 t3 t4 t5 t21 t22 t23 ∧ Inv n' t23 H2) F'' H'') → Kb3 F'' H'') → zq119_b3 t0 t3 t4 t5 t21 t22 t23 H' K Kb3) : zq119_l3 t0 t3 t4 t5 t21 t22 t23 H K :=
 aloop (M := zq119_M) zq119_m3 (fun n F H => ∃ t23, F = zq119_fr3 t0 t3 t4 t5 t21 t22 t23 ∧ Inv n t23 H) n (fun hs _ => ⟨t23, rfl, h0 hs⟩) (fun n F H' ⟨t23, hF, hI⟩ h1 h2 h3 => by subst hF; rw [zq119_b3_eq]; exact round n t23 H' hI h1 h2 h3 _ (fun _ _ h => h))
theorem zq119_eq (t0 t1 : AV) (H : Heap) (K : Kt) : awp Tryz.prog zq119_M zq119_c (retQ Tryz.prog zq119_r K) (t0 :: t1 :: List.replicate 57 .unk) H = zq119 t0 t1 H K := by kernel_rfl
theorem zq119_ok {t0 t1 : AV} {H : Heap} {K : Kt} (h : HSc H → zq119 t0 t1 H K) : ACalls Tryz.prog n_zq119 [t0, t1] H K :=
 acalls_body (M := zq119_M) Tryz.func121 (c := zq119_c) (by kernel_rfl) (fun hs => (zq119_eq t0 t1 H K).mpr (h hs))
def zq168_M (_ : Nat) : List Bool := []
noncomputable def zq168_c : Code := Tryz.f170.body.getD .skip
noncomputable def zq168_r : List ResultVar := Tryz.f170.results.toList
def zq168 (t0 t1 : AV) (H : Heap) (K : Kt) : Prop :=
 ACalls Tryz.prog n_zq213 [t0, t1] H fun t8 H =>
 aExt t8 0 fun t9 =>
 aExt t8 1 fun t10 =>
 aRet [t9, t10] (K · H)
theorem zq168_eq (t0 t1 : AV) (H : Heap) (K : Kt) : awp Tryz.prog zq168_M zq168_c (retQ Tryz.prog zq168_r K) (t0 :: t1 :: List.replicate 9 .unk) H = zq168 t0 t1 H K := by kernel_rfl
theorem zq168_ok {t0 t1 : AV} {H : Heap} {K : Kt} (h : HSc H → zq168 t0 t1 H K) : ACalls Tryz.prog n_zq168 [t0, t1] H K :=
 acalls_body (M := zq168_M) Tryz.func170 (c := zq168_c) (by kernel_rfl) (fun hs => (zq168_eq t0 t1 H K).mpr (h hs))
end Go.Proofs.YtfpmdpldabopjaaGreatDoor
namespace Go.Proofs.YtfpmdpldabopjaaGreatDoor
open Go Go.Abs
set_option linter.unusedVariables false
set_option maxRecDepth 100000
def zq169_M (_ : Nat) : List Bool := []
noncomputable def zq169_c : Code := Tryz.f171.body.getD .skip
noncomputable def zq169_r : List ResultVar := Tryz.f171.results.toList
def zq169 (t0 : AV) (H : Heap) (K : Kt) : Prop :=
 aBin .geq false t0 (.int .u8 97) fun t4 =>
 aGuardJ t4 true H (fun K' => K' t0 H) fun t6 H =>
 aGuardJ t4 true H (fun K' => aBin .leq false t6 (.int .u8 122) (K' · H)) fun t7 H =>
 aPick t4 t7 (.bool false) fun t8 =>
 aGuardJ t8 false H (fun K' => K' t0 H) fun t10 H =>
 aGuardJ t8 false H (fun K' => aBin .geq false t10 (.int .u8 65) (K' · H)) fun t11 H =>
 aGuardJ t8 false H (fun K' => K' t11 H) fun t12 H =>
 aGuardJ t12 true H (fun K' => K' t0 H) fun t13 H =>
 aGuardJ t12 true H (fun K' => aBin .leq false t13 (.int .u8 90) (K' · H)) fun t14 H =>
 aGuardJ t8 false H (fun K' => aPick t12 t14 (.bool false) (K' · H)) fun t15 H =>
 aPick t8 (.bool true) t15 fun t16 =>
 aGuardJ t16 false H (fun K' => K' t0 H) fun t18 H =>
 aGuardJ t16 false H (fun K' => aBin .eql false t18 (.int .u8 95) (K' · H)) fun t19 H =>
 aPick t16 (.bool true) t19 fun t20 =>
 aGuardJ t20 false H (fun K' => K' t0 H) fun t22 H =>
 aGuardJ t20 false H (fun K' => ACalls Tryz.prog n_zq116 [t22] H K') fun t23 H =>
 aPick t20 (.bool true) t23 fun t24 =>
 K t24 H
theorem zq169_eq (t0 : AV) (H : Heap) (K : Kt) : awp Tryz.prog zq169_M zq169_c (retQ Tryz.prog zq169_r K) (t0 :: List.replicate 24 .unk) H = zq169 t0 H K := by kernel_rfl
theorem zq169_ok {t0 : AV} {H : Heap} {K : Kt} (h : HSc H → zq169 t0 H K) : ACalls Tryz.prog n_zq169 [t0] H K :=
 acalls_body (M := zq169_M) Tryz.func171 (c := zq169_c) (by kernel_rfl) (fun hs => (zq169_eq t0 H K).mpr (h hs))
def zq213_M (_ : Nat) : List Bool := []
noncomputable def zq213_c : Code := Tryz.f216.body.getD .skip
noncomputable def zq213_r : List ResultVar := Tryz.f216.results.toList
def zq213 (t0 t1 : AV) (H : Heap) (K : Kt) : Prop :=
 ACalls Tryz.prog n_zq240 [t0, t1] H fun t8 H =>
 aUn .not t8 fun t9 =>
 aTest t9
 (aRet [t0, (.bool false)] (K · H))
 (aLen 0 t1 fun t13 =>
 aSlice 0 0 t0 (some t13) none fun t14 =>
 aRet [t14, (.bool true)] (K · H))
theorem zq213_eq (t0 t1 : AV) (H : Heap) (K : Kt) : awp Tryz.prog zq213_M zq213_c (retQ Tryz.prog zq213_r K) (t0 :: t1 :: List.replicate 13 .unk) H = zq213 t0 t1 H K := by kernel_rfl
theorem zq213_ok {t0 t1 : AV} {H : Heap} {K : Kt} (h : HSc H → zq213 t0 t1 H K) : ACalls Tryz.prog n_zq213 [t0, t1] H K :=
 acalls_body (M := zq213_M) Tryz.func216 (c := zq213_c) (by kernel_rfl) (fun hs => (zq213_eq t0 t1 H K).mpr (h hs))
def zq240_M (_ : Nat) : List Bool := []
noncomputable def zq240_c : Code := Tryz.f243.body.getD .skip
noncomputable def zq240_r : List ResultVar := Tryz.f243.results.toList
def zq240 (t0 t1 : AV) (H : Heap) (K : Kt) : Prop :=
 aLen 0 t0 fun t6 =>
 aLen 0 t1 fun t8 =>
 aBin .geq false t6 t8 fun t9 =>
 aGuardJ t9 true H (fun K' => K' t0 H) fun t11 H =>
 aGuardJ t9 true H (fun K' => K' t1 H) fun t12 H =>
 aGuardJ t9 true H (fun K' => aLen 0 t12 (K' · H)) fun t13 H =>
 aGuardJ t9 true H (fun K' => aSlice 0 0 t11 none (some t13) (K' · H)) fun t14 H =>
 aGuardJ t9 true H (fun K' => K' t1 H) fun t15 H =>
 aGuardJ t9 true H (fun K' => aBin .eql false t14 t15 (K' · H)) fun t16 H =>
 aPick t9 t16 (.bool false) fun t17 =>
 K t17 H
theorem zq240_eq (t0 t1 : AV) (H : Heap) (K : Kt) : awp Tryz.prog zq240_M zq240_c (retQ Tryz.prog zq240_r K) (t0 :: t1 :: List.replicate 16 .unk) H = zq240 t0 t1 H K := by kernel_rfl
theorem zq240_ok {t0 t1 : AV} {H : Heap} {K : Kt} (h : HSc H → zq240 t0 t1 H K) : ACalls Tryz.prog n_zq240 [t0, t1] H K :=
 acalls_body (M := zq240_M) Tryz.func243 (c := zq240_c) (by kernel_rfl) (fun hs => (zq240_eq t0 t1 H K).mpr (h hs))
end Go.Proofs.YtfpmdpldabopjaaGreatDoor
