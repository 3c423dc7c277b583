/- The shallow forms of functions of the program, printed by a program (absgen.py) off the translation, each tied to the model by the kernel. -/
import Derived.Test.YtfpmdpldabopjaaGreatDoorKNum
import Derived.Test.YtfpmdpldabopjaaGreatDoorProg
import Derived.KernelRfl
namespace Go.Proofs.YtfpmdpldabopjaaGreatDoor
open Go Go.Abs
set_option linter.unusedVariables false
set_option maxRecDepth 100000
def zq109_M : Nat → List Bool
 | 2 => rl false [0,2,1,1,8,3,19]
 | 200006 => rl false [0,1]
 | _ => []
noncomputable def zq109_c : Code := Tryz.f111.body.getD .skip
noncomputable def zq109_r : List ResultVar := Tryz.f111.results.toList
def zq109_fr2 (t0 t1 t3 t12 t13 t14 : AV) : List AV := t0 :: t1 :: ux 1 (t3 :: ux 8 (t12 :: t13 :: t14 :: ux 19 []))
def zq109_m2 : List Bool := zq109_M 2
noncomputable def zq109_c2 : Code := codeAt [1, 0, 1, 0, 0] zq109_c
def zq109_Q2 (K : Kt) : AExit → List AV → Heap → Prop := contAt Tryz.prog zq109_M [1, 0, 1, 0] zq109_c (retQ Tryz.prog zq109_r K)
def zq109_l2 (t0 t1 t3 t12 t13 t14 : AV) (H : Heap) (K : Kt) : Prop := ALoop Tryz.prog zq109_c2 (zq109_Q2 K) (zq109_fr2 t0 t1 t3 t12 t13 t14) H
def zq109_j1 (t0 t1 t3 t8 t9 t12 t13 t14 : AV) (H : Heap) (K : Kt) (Kb2 : Lt) : Prop :=
 aPure H (fun K' => K' t0 H) fun t23 =>
 aPure H (fun K' => K' t1 H) fun t24 =>
 aPure H (fun K' => aLoadC true 3 t9 H (K' · H)) fun t25 =>
 aPure H (fun K' => K' t3 H) fun t26 =>
 aPure H (fun K' => K' t8 H) fun t27 =>
 aPure H (fun K' => aIdxA 2 t26 t27 (K' · H)) fun t28 =>
 aPure H (fun K' => aLoadC true 2 t28 H (K' · H)) fun t29 =>
 aDet .w false H (fun K' => ACalls Tryz.prog n_zq63 [t23, t24, t25, t29] H K') fun t30 H =>
 aBin .add false t14 (.int .i64 1) fun t31 =>
 Kb2 (zq109_fr2 t0 t1 t3 t12 t13 t31) H
def zq109_b2 (t0 t1 t3 t12 t13 t14 : AV) (H : Heap) (K : Kt) (Kb2 : Lt) : Prop :=
 aBin .lss false t14 t13 fun t15 =>
 aTest t15
 (aIdxA 3 t12 t14 fun t17 =>
 aLoad true 3 t17 H fun t18 =>
 aNew [(.int .i64 0), (.int .i64 0), .snil] H fun t9 H =>
 aStore 3 t9 t18 H fun H =>
 aBin .gtr false t14 (.int .i64 0) fun t20 =>
 aTest t20
 (ACalls Tryz.prog n_zq97 [t0, (.str [44, 32])] H fun t22 H =>
 zq109_j1 t0 t1 t3 t14 t9 t12 t13 t14 H K Kb2)
 (zq109_j1 t0 t1 t3 t14 t9 t12 t13 t14 H K Kb2))
 (ACalls Tryz.prog n_zq97 [t0, (.str [41])] H fun t33 H =>
 aRet [] (K · H))
def zq109 (t0 t1 t2 t3 : AV) (H : Heap) (K : Kt) : Prop :=
 ACalls Tryz.prog n_zq97 [t0, (.str [40])] H fun t11 H =>
 aLen 1 t2 fun t13 =>
 zq109_l2 t0 t1 t3 t2 t13 (.int .i64 0) H K
theorem zq109_b2_eq (t0 t1 t3 t12 t13 t14 : AV) (H : Heap) (K : Kt) (Kb2 : Lt) : awp Tryz.prog zq109_M zq109_c2 (roundQ zq109_m2 Kb2 (zq109_Q2 K)) (zq109_fr2 t0 t1 t3 t12 t13 t14) H = zq109_b2 t0 t1 t3 t12 t13 t14 H K Kb2 := by kernel_rfl
theorem zq109_loop2 {t0 t1 t3 t12 t13 t14 : AV} {H : Heap} {K : Kt} (Inv : Nat → AV → Heap → Prop) (n : Nat) (h0 : HSc H → Inv n t14 H)
   (round : ∀ n t14 H', Inv n t14 H' → HSc H' → H.length ≤ H'.length → (zq109_fr2 t0 t1 t3 t12 t13 t14).all (AV.sc H'.length) = true → ∀ Kb2 : Lt, (∀ F'' H'', (∃ n', n' < n ∧ Back H.length (fun F2 H2 => ∃ t14, F2 = zq109_fr2 t0 t1 t3 t12 t13 t14 ∧ Inv n' t14 H2) F'' H'') → Kb2 F'' H'') → zq109_b2 t0 t1 t3 t12 t13 t14 H' K Kb2) : zq109_l2 t0 t1 t3 t12 t13 t14 H K :=
 aloop (M := zq109_M) zq109_m2 (fun n F H => ∃ t14, F = zq109_fr2 t0 t1 t3 t12 t13 t14 ∧ Inv n t14 H) n (fun hs _ => ⟨t14, rfl, h0 hs⟩) (fun n F H' ⟨t14, hF, hI⟩ h1 h2 h3 => by subst hF; rw [zq109_b2_eq]; exact round n t14 H' hI h1 h2 h3 _ (fun _ _ h => h))
theorem zq109_eq (t0 t1 t2 t3 : AV) (H : Heap) (K : Kt) : awp Tryz.prog zq109_M zq109_c (retQ Tryz.prog zq109_r K) (t0 :: t1 :: t2 :: t3 :: List.replicate 30 .unk) H = zq109 t0 t1 t2 t3 H K := by kernel_rfl
theorem zq109_ok {t0 t1 t2 t3 : AV} {H : Heap} {K : Kt} (h : HSc H → zq109 t0 t1 t2 t3 H K) : ACalls Tryz.prog n_zq109 [t0, t1, t2, t3] H K :=
 acalls_body (M := zq109_M) Tryz.func111 (c := zq109_c) (by kernel_rfl) (fun hs => (zq109_eq t0 t1 t2 t3 H K).mpr (h hs))
end Go.Proofs.YtfpmdpldabopjaaGreatDoor
