/- The shallow forms of functions of the program, printed by a program (absgen.py) off the translation, each tied to the model by the kernel. -/
import Derived.Test.YtfpmdpldabopjaaGreatDoorKNum
import Derived.Test.YtfpmdpldabopjaaGreatDoorProg
import Derived.KernelRfl
namespace Go.Proofs.YtfpmdpldabopjaaGreatDoor
open Go Go.Abs
set_option linter.unusedVariables false
set_option maxRecDepth 100000
def zq51_M : Nat → List Bool
 | 5 => rl false [0,1,2,3,115]
 | 12 => rl false [0,1,2,5,113]
 | 18 => rl false [0,1,2,5,85,3,25]
 | _ => []
noncomputable def zq51_c : Code := Tryz.f53.body.getD .skip
noncomputable def zq51_r : List ResultVar := Tryz.f53.results.toList
def zq51_fr5 (t0 t3 t4 t5 : AV) : List AV := t0 :: ux 2 (t3 :: t4 :: t5 :: ux 115 [])
def zq51_m5 : List Bool := zq51_M 5
noncomputable def zq51_c5 : Code := codeAt [1, 1, 1, 0, 1, 0, 0] zq51_c
def zq51_Q5 (K : Kt) : AExit → List AV → Heap → Prop := contAt Tryz.prog zq51_M [1, 1, 1, 0, 1, 0] zq51_c (retQ Tryz.prog zq51_r K)
def zq51_l5 (t0 t3 t4 t5 : AV) (H : Heap) (K : Kt) : Prop := ALoop Tryz.prog zq51_c5 (zq51_Q5 K) (zq51_fr5 t0 t3 t4 t5) H
def zq51_fr12 (t0 t3 t4 t5 t6 t7 : AV) : List AV := t0 :: ux 2 (t3 :: t4 :: t5 :: t6 :: t7 :: ux 113 [])
def zq51_m12 : List Bool := zq51_M 12
noncomputable def zq51_c12 : Code := codeAt [1, 0, 0, 1, 1, 1, 1, 0, 0] zq51_c5
def zq51_Q12 (K : Kt) (Kb5 : Lt) : AExit → List AV → Heap → Prop := contAt Tryz.prog zq51_M [1, 0, 0, 1, 1, 1, 1, 0] zq51_c5 (roundQ zq51_m5 Kb5 (zq51_Q5 K))
def zq51_l12 (t0 t3 t4 t5 t6 t7 : AV) (H : Heap) (K : Kt) (Kb5 : Lt) : Prop := ALoop Tryz.prog zq51_c12 (zq51_Q12 K Kb5) (zq51_fr12 t0 t3 t4 t5 t6 t7) H
def zq51_fr18 (t0 t3 t4 t5 t6 t7 t93 t94 t95 : AV) : List AV := t0 :: ux 2 (t3 :: t4 :: t5 :: t6 :: t7 :: ux 85 (t93 :: t94 :: t95 :: ux 25 []))
def zq51_m18 : List Bool := zq51_M 18
noncomputable def zq51_c18 : Code := codeAt [1, 0, 0, 1, 1, 1, 0, 0] zq51_c12
def zq51_Q18 (K : Kt) (Kb5 : Lt) (Kb12 : Lt) : AExit → List AV → Heap → Prop := contAt Tryz.prog zq51_M [1, 0, 0, 1, 1, 1, 0] zq51_c12 (roundQ zq51_m12 Kb12 (zq51_Q12 K Kb5))
def zq51_l18 (t0 t3 t4 t5 t6 t7 t93 t94 t95 : AV) (H : Heap) (K : Kt) (Kb5 : Lt) (Kb12 : Lt) : Prop := ALoop Tryz.prog zq51_c18 (zq51_Q18 K Kb5 Kb12) (zq51_fr18 t0 t3 t4 t5 t6 t7 t93 t94 t95) H
def zq51_j2 (t0 t3 t4 t5 t6 t7 t93 t94 t95 : AV) (H : Heap) (K : Kt) (Kb5 : Lt) (Kb12 : Lt) (Kb18 : Lt) : Prop :=
 aBin .add false t95 (.int .i64 1) fun t112 =>
 Kb18 (zq51_fr18 t0 t3 t4 t5 t6 t7 t93 t94 t112) H
def zq51_j1 (t0 t3 t4 t5 t6 t7 t93 t94 t95 : AV) (H : Heap) (K : Kt) (Kb5 : Lt) (Kb12 : Lt) (Kb18 : Lt) : Prop :=
 zq51_j2 t0 t3 t4 t5 t6 t7 t93 t94 t95 H K Kb5 Kb12 Kb18
def zq51_b18 (t0 t3 t4 t5 t6 t7 t93 t94 t95 : AV) (H : Heap) (K : Kt) (Kb5 : Lt) (Kb12 : Lt) (Kb18 : Lt) : Prop :=
 aBin .lss false t95 t94 fun t96 =>
 aTest t96
 (aIdxA 3 t93 t95 fun t97 =>
 aLoad true 3 t97 H fun t98 =>
 aNew [(.int .i64 0), (.int .i64 0), .snil] H fun t9 H =>
 aStore 3 t9 t98 H fun H =>
 aLoad true 3 t9 H fun t99 =>
 aFld 1 t6 fun t101 =>
 aLoad false 1 t101 H fun t102 =>
 ACalls Tryz.prog n_zq68 [t99, t5, t102] H fun t103 H =>
 aTest t103
 (zq51_j1 t0 t3 t4 t5 t6 t7 t93 t94 t95 H K Kb5 Kb12 Kb18)
 (aPure H (fun K' => K' t0 H) fun t104 =>
 aPure H (fun K' => K' t5 H) fun t105 =>
 aPure H (fun K' => aSlice 1 3 t104 none (some t105) (K' · H)) fun t106 =>
 aPure H (fun K' => aLoadC true 3 t9 H (K' · H)) fun t107 =>
 aPure H (fun K' => aFld 1 t6 (K' · H)) fun t108 =>
 aPure H (fun K' => aLoadC false 1 t108 H (K' · H)) fun t109 =>
 aPureX H (fun H K' => ACalls Tryz.prog n_zq52 [t106, t107, t109] H K') fun t110 =>
 aPure H (fun K' => aUn .not t110 (K' · H)) fun t111 =>
 aTest t111
 (K (.bool false) H)
 (zq51_j1 t0 t3 t4 t5 t6 t7 t93 t94 t95 H K Kb5 Kb12 Kb18)))
 (aBin .add false t7 (.int .i64 1) fun t60 =>
 Kb12 (zq51_fr12 t0 t3 t4 t5 t6 t60) H)
def zq51_b12 (t0 t3 t4 t5 t6 t7 : AV) (H : Heap) (K : Kt) (Kb5 : Lt) (Kb12 : Lt) : Prop :=
 aFld 2 t6 fun t55 =>
 aLoad false 1 t55 H fun t56 =>
 aLen 1 t56 fun t57 =>
 aBin .lss false t7 t57 fun t58 =>
 aTest t58
 (aFld 2 t6 fun t61 =>
 aLoad false 1 t61 H fun t62 =>
 aIdxA 2 t62 t7 fun t64 =>
 aFld 0 t64 fun t65 =>
 aLoad false 1 t65 H fun t66 =>
 ACalls Tryz.prog n_zq91 [t66] H fun t67 H =>
 aUn .not t67 fun t68 =>
 aGuardJ t68 false H (fun K' => aFld 2 t6 (K' · H)) fun t70 H =>
 aGuardJ t68 false H (fun K' => aLoad false 1 t70 H (K' · H)) fun t71 H =>
 aGuardJ t68 false H (fun K' => K' t7 H) fun t72 H =>
 aGuardJ t68 false H (fun K' => aIdxA 2 t71 t72 (K' · H)) fun t73 H =>
 aGuardJ t68 false H (fun K' => aFld 1 t73 (K' · H)) fun t74 H =>
 aGuardJ t68 false H (fun K' => aLoad false 1 t74 H (K' · H)) fun t75 H =>
 aGuardJ t68 false H (fun K' => aLen 1 t75 (K' · H)) fun t76 H =>
 aGuardJ t68 false H (fun K' => aBin .gtr false t76 (.int .i64 6) (K' · H)) fun t77 H =>
 aPick t68 (.bool true) t77 fun t78 =>
 aTest t78
 (K (.bool false) H)
 (aFld 2 t6 fun t80 =>
 aLoad false 1 t80 H fun t81 =>
 aIdxA 2 t81 t7 fun t83 =>
 aFld 0 t83 fun t84 =>
 aLoad false 1 t84 H fun t85 =>
 aBuildS 1 [(.str [])] 1 [(0, t85)] fun t86 =>
 aAppend e_string 1 16 t4 t86 H fun t87 H =>
 aFld 2 t6 fun t88 =>
 aLoad false 1 t88 H fun t89 =>
 aIdxA 2 t89 t7 fun t91 =>
 aFld 1 t91 fun t92 =>
 aLoad false 1 t92 H fun t93 =>
 aLen 1 t93 fun t94 =>
 zq51_l18 t0 t3 t87 t5 t6 t7 t93 t94 (.int .i64 0) H K Kb5 Kb12))
 (aBin .add false t5 (.int .i64 1) fun t18 =>
 Kb5 (zq51_fr5 t0 t3 t4 t18) H)
def zq51_b5 (t0 t3 t4 t5 : AV) (H : Heap) (K : Kt) (Kb5 : Lt) : Prop :=
 aLen 1 t0 fun t15 =>
 aBin .lss false t5 t15 fun t16 =>
 aTest t16
 (aIdxA 3 t0 t5 fun t21 =>
 aLoad true 3 t21 H fun t22 =>
 aNew [(.str []), (.int .i64 0), .snil] H fun t6 H =>
 aStore 3 t6 t22 H fun H =>
 aFld 1 t6 fun t23 =>
 aLoad false 1 t23 H fun t24 =>
 aBin .lss false t24 (.int .i64 0) fun t25 =>
 aGuardJ t25 false H (fun K' => aFld 1 t6 (K' · H)) fun t27 H =>
 aGuardJ t25 false H (fun K' => aLoad false 1 t27 H (K' · H)) fun t28 H =>
 aGuardJ t25 false H (fun K' => aBin .gtr false t28 (.int .i64 6) (K' · H)) fun t29 H =>
 aPick t25 (.bool true) t29 fun t30 =>
 aGuardJ t30 false H (fun K' => aFld 2 t6 (K' · H)) fun t32 H =>
 aGuardJ t30 false H (fun K' => aLoad false 1 t32 H (K' · H)) fun t33 H =>
 aGuardJ t30 false H (fun K' => aLen 1 t33 (K' · H)) fun t34 H =>
 aGuardJ t30 false H (fun K' => aBin .lss false t34 (.int .i64 1) (K' · H)) fun t35 H =>
 aPick t30 (.bool true) t35 fun t36 =>
 aGuardJ t36 false H (fun K' => aFld 2 t6 (K' · H)) fun t38 H =>
 aGuardJ t36 false H (fun K' => aLoad false 1 t38 H (K' · H)) fun t39 H =>
 aGuardJ t36 false H (fun K' => aLen 1 t39 (K' · H)) fun t40 H =>
 aGuardJ t36 false H (fun K' => aBin .gtr false t40 (.int .i64 8) (K' · H)) fun t41 H =>
 aPick t36 (.bool true) t41 fun t42 =>
 aGuardJ t42 false H (fun K' => aFld 0 t6 (K' · H)) fun t44 H =>
 aGuardJ t42 false H (fun K' => aLoad false 1 t44 H (K' · H)) fun t45 H =>
 aGuardJ t42 false H (fun K' => ACalls Tryz.prog n_zq91 [t45] H K') fun t46 H =>
 aGuardJ t42 false H (fun K' => aUn .not t46 (K' · H)) fun t47 H =>
 aPick t42 (.bool true) t47 fun t48 =>
 aTest t48
 (K (.bool false) H)
 (aFld 0 t6 fun t50 =>
 aLoad false 1 t50 H fun t51 =>
 aBuildS 1 [(.str [])] 1 [(0, t51)] fun t52 =>
 aAppend e_string 1 16 t3 t52 H fun t53 H =>
 zq51_l12 t0 t53 t4 t5 t6 (.int .i64 0) H K Kb5))
 (ACalls Tryz.prog n_zq92 [t3] H fun t114 H =>
 aUn .not t114 fun t115 =>
 aGuardJ t115 true H (fun K' => K' t4 H) fun t117 H =>
 aGuardJ t115 true H (fun K' => ACalls Tryz.prog n_zq92 [t117] H K') fun t118 H =>
 aGuardJ t115 true H (fun K' => aUn .not t118 (K' · H)) fun t119 H =>
 aPick t115 t119 (.bool false) fun t120 =>
 K t120 H)
def zq51 (t0 : AV) (H : Heap) (K : Kt) : Prop :=
 aLen 1 t0 fun t11 =>
 aBin .gtr false t11 (.int .i64 12) fun t12 =>
 aTest t12
 (K (.bool false) H)
 (zq51_l5 t0 .snil .snil (.int .i64 0) H K)
theorem zq51_b18_eq (t0 t3 t4 t5 t6 t7 t93 t94 t95 : AV) (H : Heap) (K : Kt) (Kb5 : Lt) (Kb12 : Lt) (Kb18 : Lt) : awp Tryz.prog zq51_M zq51_c18 (roundQ zq51_m18 Kb18 (zq51_Q18 K Kb5 Kb12)) (zq51_fr18 t0 t3 t4 t5 t6 t7 t93 t94 t95) H = zq51_b18 t0 t3 t4 t5 t6 t7 t93 t94 t95 H K Kb5 Kb12 Kb18 := by kernel_rfl
theorem zq51_loop18 {t0 t3 t4 t5 t6 t7 t93 t94 t95 : AV} {H : Heap} {K : Kt} {Kb5 : Lt} {Kb12 : Lt} (Inv : Nat → AV → Heap → Prop) (n : Nat) (h0 : HSc H → Inv n t95 H)
   (round : ∀ n t95 H', Inv n t95 H' → HSc H' → H.length ≤ H'.length → (zq51_fr18 t0 t3 t4 t5 t6 t7 t93 t94 t95).all (AV.sc H'.length) = true → ∀ Kb18 : Lt, (∀ F'' H'', (∃ n', n' < n ∧ Back H.length (fun F2 H2 => ∃ t95, F2 = zq51_fr18 t0 t3 t4 t5 t6 t7 t93 t94 t95 ∧ Inv n' t95 H2) F'' H'') → Kb18 F'' H'') → zq51_b18 t0 t3 t4 t5 t6 t7 t93 t94 t95 H' K Kb5 Kb12 Kb18) : zq51_l18 t0 t3 t4 t5 t6 t7 t93 t94 t95 H K Kb5 Kb12 :=
 aloop (M := zq51_M) zq51_m18 (fun n F H => ∃ t95, F = zq51_fr18 t0 t3 t4 t5 t6 t7 t93 t94 t95 ∧ Inv n t95 H) n (fun hs _ => ⟨t95, rfl, h0 hs⟩) (fun n F H' ⟨t95, hF, hI⟩ h1 h2 h3 => by subst hF; rw [zq51_b18_eq]; exact round n t95 H' hI h1 h2 h3 _ (fun _ _ h => h))
theorem zq51_b12_eq (t0 t3 t4 t5 t6 t7 : AV) (H : Heap) (K : Kt) (Kb5 : Lt) (Kb12 : Lt) : awp Tryz.prog zq51_M zq51_c12 (roundQ zq51_m12 Kb12 (zq51_Q12 K Kb5)) (zq51_fr12 t0 t3 t4 t5 t6 t7) H = zq51_b12 t0 t3 t4 t5 t6 t7 H K Kb5 Kb12 := by kernel_rfl
theorem zq51_loop12 {t0 t3 t4 t5 t6 t7 : AV} {H : Heap} {K : Kt} {Kb5 : Lt} (Inv : Nat → AV → AV → Heap → Prop) (n : Nat) (h0 : HSc H → Inv n t4 t7 H)
   (round : ∀ n t4 t7 H', Inv n t4 t7 H' → HSc H' → H.length ≤ H'.length → (zq51_fr12 t0 t3 t4 t5 t6 t7).all (AV.sc H'.length) = true → ∀ Kb12 : Lt, (∀ F'' H'', (∃ n', n' < n ∧ Back H.length (fun F2 H2 => ∃ t4 t7, F2 = zq51_fr12 t0 t3 t4 t5 t6 t7 ∧ Inv n' t4 t7 H2) F'' H'') → Kb12 F'' H'') → zq51_b12 t0 t3 t4 t5 t6 t7 H' K Kb5 Kb12) : zq51_l12 t0 t3 t4 t5 t6 t7 H K Kb5 :=
 aloop (M := zq51_M) zq51_m12 (fun n F H => ∃ t4 t7, F = zq51_fr12 t0 t3 t4 t5 t6 t7 ∧ Inv n t4 t7 H) n (fun hs _ => ⟨t4, t7, rfl, h0 hs⟩) (fun n F H' ⟨t4, t7, hF, hI⟩ h1 h2 h3 => by subst hF; rw [zq51_b12_eq]; exact round n t4 t7 H' hI h1 h2 h3 _ (fun _ _ h => h))
theorem zq51_b5_eq (t0 t3 t4 t5 : AV) (H : Heap) (K : Kt) (Kb5 : Lt) : awp Tryz.prog zq51_M zq51_c5 (roundQ zq51_m5 Kb5 (zq51_Q5 K)) (zq51_fr5 t0 t3 t4 t5) H = zq51_b5 t0 t3 t4 t5 H K Kb5 := by kernel_rfl
theorem zq51_loop5 {t0 t3 t4 t5 : AV} {H : Heap} {K : Kt} (Inv : Nat → AV → AV → AV → Heap → Prop) (n : Nat) (h0 : HSc H → Inv n t3 t4 t5 H)
   (round : ∀ n t3 t4 t5 H', Inv n t3 t4 t5 H' → HSc H' → H.length ≤ H'.length → (zq51_fr5 t0 t3 t4 t5).all (AV.sc H'.length) = true → ∀ Kb5 : Lt, (∀ F'' H'', (∃ n', n' < n ∧ Back H.length (fun F2 H2 => ∃ t3 t4 t5, F2 = zq51_fr5 t0 t3 t4 t5 ∧ Inv n' t3 t4 t5 H2) F'' H'') → Kb5 F'' H'') → zq51_b5 t0 t3 t4 t5 H' K Kb5) : zq51_l5 t0 t3 t4 t5 H K :=
 aloop (M := zq51_M) zq51_m5 (fun n F H => ∃ t3 t4 t5, F = zq51_fr5 t0 t3 t4 t5 ∧ Inv n t3 t4 t5 H) n (fun hs _ => ⟨t3, t4, t5, rfl, h0 hs⟩) (fun n F H' ⟨t3, t4, t5, hF, hI⟩ h1 h2 h3 => by subst hF; rw [zq51_b5_eq]; exact round n t3 t4 t5 H' hI h1 h2 h3 _ (fun _ _ h => h))
theorem zq51_eq (t0 : AV) (H : Heap) (K : Kt) : awp Tryz.prog zq51_M zq51_c (retQ Tryz.prog zq51_r K) (t0 :: List.replicate 120 .unk) H = zq51 t0 H K := by kernel_rfl
theorem zq51_ok {t0 : AV} {H : Heap} {K : Kt} (h : HSc H → zq51 t0 H K) : ACalls Tryz.prog n_zq51 [t0] H K :=
 acalls_body (M := zq51_M) Tryz.func53 (c := zq51_c) (by kernel_rfl) (fun hs => (zq51_eq t0 H K).mpr (h hs))
def zq92_M : Nat → List Bool
 | 2 => rl false [0,1,2,1,21]
 | 5 => rl false [0,1,2,2,20]
 | _ => []
noncomputable def zq92_c : Code := Tryz.f94.body.getD .skip
noncomputable def zq92_r : List ResultVar := Tryz.f94.results.toList
def zq92_fr2 (t0 t3 : AV) : List AV := t0 :: ux 2 (t3 :: ux 21 [])
def zq92_m2 : List Bool := zq92_M 2
noncomputable def zq92_c2 : Code := codeAt [1, 0, 1, 0, 0] zq92_c
def zq92_Q2 (K : Kt) : AExit → List AV → Heap → Prop := contAt Tryz.prog zq92_M [1, 0, 1, 0] zq92_c (retQ Tryz.prog zq92_r K)
def zq92_l2 (t0 t3 : AV) (H : Heap) (K : Kt) : Prop := ALoop Tryz.prog zq92_c2 (zq92_Q2 K) (zq92_fr2 t0 t3) H
def zq92_fr5 (t0 t3 t4 : AV) : List AV := t0 :: ux 2 (t3 :: t4 :: ux 20 [])
def zq92_m5 : List Bool := zq92_M 5
noncomputable def zq92_c5 : Code := codeAt [1, 0, 0, 1, 0, 0] zq92_c2
def zq92_Q5 (K : Kt) (Kb2 : Lt) : AExit → List AV → Heap → Prop := contAt Tryz.prog zq92_M [1, 0, 0, 1, 0] zq92_c2 (roundQ zq92_m2 Kb2 (zq92_Q2 K))
def zq92_l5 (t0 t3 t4 : AV) (H : Heap) (K : Kt) (Kb2 : Lt) : Prop := ALoop Tryz.prog zq92_c5 (zq92_Q5 K Kb2) (zq92_fr5 t0 t3 t4) H
def zq92_b5 (t0 t3 t4 : AV) (H : Heap) (K : Kt) (Kb2 : Lt) (Kb5 : Lt) : Prop :=
 aBin .lss false t4 t3 fun t13 =>
 aTest t13
 (aPure H (fun K' => K' t0 H) fun t16 =>
 aPure H (fun K' => K' t3 H) fun t17 =>
 aPure H (fun K' => aIdxA 1 t16 t17 (K' · H)) fun t18 =>
 aPure H (fun K' => aLoadC false 1 t18 H (K' · H)) fun t19 =>
 aPure H (fun K' => K' t0 H) fun t20 =>
 aPure H (fun K' => K' t4 H) fun t21 =>
 aPure H (fun K' => aIdxA 1 t20 t21 (K' · H)) fun t22 =>
 aPure H (fun K' => aLoadC false 1 t22 H (K' · H)) fun t23 =>
 aPure H (fun K' => aBin .eql false t19 t23 (K' · H)) fun t24 =>
 aTest t24
 (K (.bool true) H)
 (aBin .add false t4 (.int .i64 1) fun t15 =>
 Kb5 (zq92_fr5 t0 t3 t15) H))
 (aBin .add false t3 (.int .i64 1) fun t10 =>
 Kb2 (zq92_fr2 t0 t10) H)
def zq92_b2 (t0 t3 : AV) (H : Heap) (K : Kt) (Kb2 : Lt) : Prop :=
 aLen 1 t0 fun t7 =>
 aBin .lss false t3 t7 fun t8 =>
 aTest t8
 (zq92_l5 t0 t3 (.int .i64 0) H K Kb2)
 (K (.bool false) H)
def zq92 (t0 : AV) (H : Heap) (K : Kt) : Prop :=
 zq92_l2 t0 (.int .i64 0) H K
theorem zq92_b5_eq (t0 t3 t4 : AV) (H : Heap) (K : Kt) (Kb2 : Lt) (Kb5 : Lt) : awp Tryz.prog zq92_M zq92_c5 (roundQ zq92_m5 Kb5 (zq92_Q5 K Kb2)) (zq92_fr5 t0 t3 t4) H = zq92_b5 t0 t3 t4 H K Kb2 Kb5 := by kernel_rfl
theorem zq92_loop5 {t0 t3 t4 : AV} {H : Heap} {K : Kt} {Kb2 : Lt} (Inv : Nat → AV → Heap → Prop) (n : Nat) (h0 : HSc H → Inv n t4 H)
   (round : ∀ n t4 H', Inv n t4 H' → HSc H' → H.length ≤ H'.length → (zq92_fr5 t0 t3 t4).all (AV.sc H'.length) = true → ∀ Kb5 : Lt, (∀ F'' H'', (∃ n', n' < n ∧ Back H.length (fun F2 H2 => ∃ t4, F2 = zq92_fr5 t0 t3 t4 ∧ Inv n' t4 H2) F'' H'') → Kb5 F'' H'') → zq92_b5 t0 t3 t4 H' K Kb2 Kb5) : zq92_l5 t0 t3 t4 H K Kb2 :=
 aloop (M := zq92_M) zq92_m5 (fun n F H => ∃ t4, F = zq92_fr5 t0 t3 t4 ∧ Inv n t4 H) n (fun hs _ => ⟨t4, rfl, h0 hs⟩) (fun n F H' ⟨t4, hF, hI⟩ h1 h2 h3 => by subst hF; rw [zq92_b5_eq]; exact round n t4 H' hI h1 h2 h3 _ (fun _ _ h => h))
theorem zq92_b2_eq (t0 t3 : AV) (H : Heap) (K : Kt) (Kb2 : Lt) : awp Tryz.prog zq92_M zq92_c2 (roundQ zq92_m2 Kb2 (zq92_Q2 K)) (zq92_fr2 t0 t3) H = zq92_b2 t0 t3 H K Kb2 := by kernel_rfl
theorem zq92_loop2 {t0 t3 : AV} {H : Heap} {K : Kt} (Inv : Nat → AV → Heap → Prop) (n : Nat) (h0 : HSc H → Inv n t3 H)
   (round : ∀ n t3 H', Inv n t3 H' → HSc H' → H.length ≤ H'.length → (zq92_fr2 t0 t3).all (AV.sc H'.length) = true → ∀ Kb2 : Lt, (∀ F'' H'', (∃ n', n' < n ∧ Back H.length (fun F2 H2 => ∃ t3, F2 = zq92_fr2 t0 t3 ∧ Inv n' t3 H2) F'' H'') → Kb2 F'' H'') → zq92_b2 t0 t3 H' K Kb2) : zq92_l2 t0 t3 H K :=
 aloop (M := zq92_M) zq92_m2 (fun n F H => ∃ t3, F = zq92_fr2 t0 t3 ∧ Inv n t3 H) n (fun hs _ => ⟨t3, rfl, h0 hs⟩) (fun n F H' ⟨t3, hF, hI⟩ h1 h2 h3 => by subst hF; rw [zq92_b2_eq]; exact round n t3 H' hI h1 h2 h3 _ (fun _ _ h => h))
theorem zq92_eq (t0 : AV) (H : Heap) (K : Kt) : awp Tryz.prog zq92_M zq92_c (retQ Tryz.prog zq92_r K) (t0 :: List.replicate 24 .unk) H = zq92 t0 H K := by kernel_rfl
theorem zq92_ok {t0 : AV} {H : Heap} {K : Kt} (h : HSc H → zq92 t0 H K) : ACalls Tryz.prog n_zq92 [t0] H K :=
 acalls_body (M := zq92_M) Tryz.func94 (c := zq92_c) (by kernel_rfl) (fun hs => (zq92_eq t0 H K).mpr (h hs))
end Go.Proofs.YtfpmdpldabopjaaGreatDoor
