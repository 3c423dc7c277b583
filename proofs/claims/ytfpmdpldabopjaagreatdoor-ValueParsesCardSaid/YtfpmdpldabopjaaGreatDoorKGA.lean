import Derived.Test.YtfpmdpldabopjaaGreatDoorKNum
import Derived.Test.YtfpmdpldabopjaaGreatDoorProg
import Derived.KernelRfl
import Derived.Test.YtfpmdpldabopjaaGreatDoorKYa
import Derived.Test.YtfpmdpldabopjaaGreatDoorKTWa
set_option linter.unusedSimpArgs false
set_option linter.unusedVariables false
namespace Go.Proofs.YtfpmdpldabopjaaGreatDoor
open Go Go.Abs
set_option maxRecDepth 100000
def zq51_M : Nat → List Bool
 | 5 => rl false [0,1,2,3,115]
 | 12 => rl false [0,1,2,5,113]
 | 18 => rl false [0,1,2,5,85,3,25]
 | _ => []
noncomputable def zq51_c : Code := Tryz.f53.body.getD .skip
noncomputable def zq51_r : List ResultVar := Tryz.f53.results.toList
def zq51_fr5 (t0 t3 t4 t5 : AV) : List AV := t0 :: ux 2 (t3 :: t4 :: t5 :: ux 115 [])
def zq51_m5 : List Bool := zq51_M 5
noncomputable def zq51_c5 : Code := codeAt [1, 1, 1, 0, 1, 0, 0] zq51_c
def zq51_Q5 (K : Kt) : AExit → List AV → Heap → Prop := contAt Tryz.prog zq51_M [1, 1, 1, 0, 1, 0] zq51_c (retQ Tryz.prog zq51_r K)
def zq51_l5 (t0 t3 t4 t5 : AV) (H : Heap) (K : Kt) : Prop := ALoop Tryz.prog zq51_c5 (zq51_Q5 K) (zq51_fr5 t0 t3 t4 t5) H
def zq51_fr12 (t0 t3 t4 t5 t6 t7 : AV) : List AV := t0 :: ux 2 (t3 :: t4 :: t5 :: t6 :: t7 :: ux 113 [])
def zq51_m12 : List Bool := zq51_M 12
noncomputable def zq51_c12 : Code := codeAt [1, 0, 0, 1, 1, 1, 1, 0, 0] zq51_c5
def zq51_Q12 (K : Kt) (Kb5 : Lt) : AExit → List AV → Heap → Prop := contAt Tryz.prog zq51_M [1, 0, 0, 1, 1, 1, 1, 0] zq51_c5 (roundQ zq51_m5 Kb5 (zq51_Q5 K))
def zq51_l12 (t0 t3 t4 t5 t6 t7 : AV) (H : Heap) (K : Kt) (Kb5 : Lt) : Prop := ALoop Tryz.prog zq51_c12 (zq51_Q12 K Kb5) (zq51_fr12 t0 t3 t4 t5 t6 t7) H
def zq51_fr18 (t0 t3 t4 t5 t6 t7 t93 t94 t95 : AV) : List AV := t0 :: ux 2 (t3 :: t4 :: t5 :: t6 :: t7 :: ux 85 (t93 :: t94 :: t95 :: ux 25 []))
def zq51_m18 : List Bool := zq51_M 18
noncomputable def zq51_c18 : Code := codeAt [1, 0, 0, 1, 1, 1, 0, 0] zq51_c12
def zq51_Q18 (K : Kt) (Kb5 : Lt) (Kb12 : Lt) : AExit → List AV → Heap → Prop := contAt Tryz.prog zq51_M [1, 0, 0, 1, 1, 1, 0] zq51_c12 (roundQ zq51_m12 Kb12 (zq51_Q12 K Kb5))
def zq51_l18 (t0 t3 t4 t5 t6 t7 t93 t94 t95 : AV) (H : Heap) (K : Kt) (Kb5 : Lt) (Kb12 : Lt) : Prop := ALoop Tryz.prog zq51_c18 (zq51_Q18 K Kb5 Kb12) (zq51_fr18 t0 t3 t4 t5 t6 t7 t93 t94 t95) H
def zq51_j2 (t0 t3 t4 t5 t6 t7 t93 t94 t95 : AV) (H : Heap) (K : Kt) (Kb5 : Lt) (Kb12 : Lt) (Kb18 : Lt) : Prop :=
 aBin .add false t95 (.int .i64 1) fun t112 =>
 Kb18 (zq51_fr18 t0 t3 t4 t5 t6 t7 t93 t94 t112) H
def zq51_j1 (t0 t3 t4 t5 t6 t7 t93 t94 t95 : AV) (H : Heap) (K : Kt) (Kb5 : Lt) (Kb12 : Lt) (Kb18 : Lt) : Prop :=
 zq51_j2 t0 t3 t4 t5 t6 t7 t93 t94 t95 H K Kb5 Kb12 Kb18
def zq51_b18 (t0 t3 t4 t5 t6 t7 t93 t94 t95 : AV) (H : Heap) (K : Kt) (Kb5 : Lt) (Kb12 : Lt) (Kb18 : Lt) : Prop :=
 aBin .lss false t95 t94 fun t96 =>
 aTest t96
 (aIdxA 3 t93 t95 fun t97 =>
 aLoad true 3 t97 H fun t98 =>
 aNew [(.int .i64 0), (.int .i64 0), .snil] H fun t9 H =>
 aStore 3 t9 t98 H fun H =>
 aLoad true 3 t9 H fun t99 =>
 aFld 1 t6 fun t101 =>
 aLoad false 1 t101 H fun t102 =>
 ACalls Tryz.prog n_zq68 [t99, t5, t102] H fun t103 H =>
 aTest t103
 (zq51_j1 t0 t3 t4 t5 t6 t7 t93 t94 t95 H K Kb5 Kb12 Kb18)
 (aPure H (fun K' => K' t0 H) fun t104 =>
 aPure H (fun K' => K' t5 H) fun t105 =>
 aPure H (fun K' => aSlice 1 3 t104 none (some t105) (K' · H)) fun t106 =>
 aPure H (fun K' => aLoadC true 3 t9 H (K' · H)) fun t107 =>
 aPure H (fun K' => aFld 1 t6 (K' · H)) fun t108 =>
 aPure H (fun K' => aLoadC false 1 t108 H (K' · H)) fun t109 =>
 aPureX H (fun H K' => ACalls Tryz.prog n_zq52 [t106, t107, t109] H K') fun t110 =>
 aPure H (fun K' => aUn .not t110 (K' · H)) fun t111 =>
 aTest t111
 (K (.bool false) H)
 (zq51_j1 t0 t3 t4 t5 t6 t7 t93 t94 t95 H K Kb5 Kb12 Kb18)))
 (aBin .add false t7 (.int .i64 1) fun t60 =>
 Kb12 (zq51_fr12 t0 t3 t4 t5 t6 t60) H)
def zq51_b12 (t0 t3 t4 t5 t6 t7 : AV) (H : Heap) (K : Kt) (Kb5 : Lt) (Kb12 : Lt) : Prop :=
 aFld 2 t6 fun t55 =>
 aLoad false 1 t55 H fun t56 =>
 aLen 1 t56 fun t57 =>
 aBin .lss false t7 t57 fun t58 =>
 aTest t58
 (aFld 2 t6 fun t61 =>
 aLoad false 1 t61 H fun t62 =>
 aIdxA 2 t62 t7 fun t64 =>
 aFld 0 t64 fun t65 =>
 aLoad false 1 t65 H fun t66 =>
 ACalls Tryz.prog n_zq91 [t66] H fun t67 H =>
 aUn .not t67 fun t68 =>
 aGuardJ t68 false H (fun K' => aFld 2 t6 (K' · H)) fun t70 H =>
 aGuardJ t68 false H (fun K' => aLoad false 1 t70 H (K' · H)) fun t71 H =>
 aGuardJ t68 false H (fun K' => K' t7 H) fun t72 H =>
 aGuardJ t68 false H (fun K' => aIdxA 2 t71 t72 (K' · H)) fun t73 H =>
 aGuardJ t68 false H (fun K' => aFld 1 t73 (K' · H)) fun t74 H =>
 aGuardJ t68 false H (fun K' => aLoad false 1 t74 H (K' · H)) fun t75 H =>
 aGuardJ t68 false H (fun K' => aLen 1 t75 (K' · H)) fun t76 H =>
 aGuardJ t68 false H (fun K' => aBin .gtr false t76 (.int .i64 6) (K' · H)) fun t77 H =>
 aPick t68 (.bool true) t77 fun t78 =>
 aTest t78
 (K (.bool false) H)
 (aFld 2 t6 fun t80 =>
 aLoad false 1 t80 H fun t81 =>
 aIdxA 2 t81 t7 fun t83 =>
 aFld 0 t83 fun t84 =>
 aLoad false 1 t84 H fun t85 =>
 aBuildS 1 [(.str [])] 1 [(0, t85)] fun t86 =>
 aAppend e_string 1 16 t4 t86 H fun t87 H =>
 aFld 2 t6 fun t88 =>
 aLoad false 1 t88 H fun t89 =>
 aIdxA 2 t89 t7 fun t91 =>
 aFld 1 t91 fun t92 =>
 aLoad false 1 t92 H fun t93 =>
 aLen 1 t93 fun t94 =>
 zq51_l18 t0 t3 t87 t5 t6 t7 t93 t94 (.int .i64 0) H K Kb5 Kb12))
 (aBin .add false t5 (.int .i64 1) fun t18 =>
 Kb5 (zq51_fr5 t0 t3 t4 t18) H)
def zq51_b5 (t0 t3 t4 t5 : AV) (H : Heap) (K : Kt) (Kb5 : Lt) : Prop :=
 aLen 1 t0 fun t15 =>
 aBin .lss false t5 t15 fun t16 =>
 aTest t16
 (aIdxA 3 t0 t5 fun t21 =>
 aLoad true 3 t21 H fun t22 =>
 aNew [(.str []), (.int .i64 0), .snil] H fun t6 H =>
 aStore 3 t6 t22 H fun H =>
 aFld 1 t6 fun t23 =>
 aLoad false 1 t23 H fun t24 =>
 aBin .lss false t24 (.int .i64 0) fun t25 =>
 aGuardJ t25 false H (fun K' => aFld 1 t6 (K' · H)) fun t27 H =>
 aGuardJ t25 false H (fun K' => aLoad false 1 t27 H (K' · H)) fun t28 H =>
 aGuardJ t25 false H (fun K' => aBin .gtr false t28 (.int .i64 6) (K' · H)) fun t29 H =>
 aPick t25 (.bool true) t29 fun t30 =>
 aGuardJ t30 false H (fun K' => aFld 2 t6 (K' · H)) fun t32 H =>
 aGuardJ t30 false H (fun K' => aLoad false 1 t32 H (K' · H)) fun t33 H =>
 aGuardJ t30 false H (fun K' => aLen 1 t33 (K' · H)) fun t34 H =>
 aGuardJ t30 false H (fun K' => aBin .lss false t34 (.int .i64 1) (K' · H)) fun t35 H =>
 aPick t30 (.bool true) t35 fun t36 =>
 aGuardJ t36 false H (fun K' => aFld 2 t6 (K' · H)) fun t38 H =>
 aGuardJ t36 false H (fun K' => aLoad false 1 t38 H (K' · H)) fun t39 H =>
 aGuardJ t36 false H (fun K' => aLen 1 t39 (K' · H)) fun t40 H =>
 aGuardJ t36 false H (fun K' => aBin .gtr false t40 (.int .i64 8) (K' · H)) fun t41 H =>
 aPick t36 (.bool true) t41 fun t42 =>
 aGuardJ t42 false H (fun K' => aFld 0 t6 (K' · H)) fun t44 H =>
 aGuardJ t42 false H (fun K' => aLoad false 1 t44 H (K' · H)) fun t45 H =>
 aGuardJ t42 false H (fun K' => ACalls Tryz.prog n_zq91 [t45] H K') fun t46 H =>
 aGuardJ t42 false H (fun K' => aUn .not t46 (K' · H)) fun t47 H =>
 aPick t42 (.bool true) t47 fun t48 =>
 aTest t48
 (K (.bool false) H)
 (aFld 0 t6 fun t50 =>
 aLoad false 1 t50 H fun t51 =>
 aBuildS 1 [(.str [])] 1 [(0, t51)] fun t52 =>
 aAppend e_string 1 16 t3 t52 H fun t53 H =>
 zq51_l12 t0 t53 t4 t5 t6 (.int .i64 0) H K Kb5))
 (ACalls Tryz.prog n_zq92 [t3] H fun t114 H =>
 aUn .not t114 fun t115 =>
 aGuardJ t115 true H (fun K' => K' t4 H) fun t117 H =>
 aGuardJ t115 true H (fun K' => ACalls Tryz.prog n_zq92 [t117] H K') fun t118 H =>
 aGuardJ t115 true H (fun K' => aUn .not t118 (K' · H)) fun t119 H =>
 aPick t115 t119 (.bool false) fun t120 =>
 K t120 H)
def zq51 (t0 : AV) (H : Heap) (K : Kt) : Prop :=
 aLen 1 t0 fun t11 =>
 aBin .gtr false t11 (.int .i64 12) fun t12 =>
 aTest t12
 (K (.bool false) H)
 (zq51_l5 t0 .snil .snil (.int .i64 0) H K)
theorem zq51_b18_eq (t0 t3 t4 t5 t6 t7 t93 t94 t95 : AV) (H : Heap) (K : Kt) (Kb5 : Lt) (Kb12 : Lt) (Kb18 : Lt) : awp Tryz.prog zq51_M zq51_c18 (roundQ zq51_m18 Kb18 (zq51_Q18 K Kb5 Kb12)) (zq51_fr18 t0 t3 t4 t5 t6 t7 t93 t94 t95) H = zq51_b18 t0 t3 t4 t5 t6 t7 t93 t94 t95 H K Kb5 Kb12 Kb18 := by kernel_rfl
theorem zq51_loop18 {t0 t3 t4 t5 t6 t7 t93 t94 t95 : AV} {H : Heap} {K : Kt} {Kb5 : Lt} {Kb12 : Lt} (Inv : Nat → AV → Heap → Prop) (n : Nat) (h0 : HSc H → Inv n t95 H)
  (round : ∀ n t95 H', Inv n t95 H' → HSc H' → H.length ≤ H'.length → (zq51_fr18 t0 t3 t4 t5 t6 t7 t93 t94 t95).all (AV.sc H'.length) = true → ∀ Kb18 : Lt, (∀ F'' H'', (∃ n', n' < n ∧ Back H.length (fun F2 H2 => ∃ t95, F2 = zq51_fr18 t0 t3 t4 t5 t6 t7 t93 t94 t95 ∧ Inv n' t95 H2) F'' H'') → Kb18 F'' H'') → zq51_b18 t0 t3 t4 t5 t6 t7 t93 t94 t95 H' K Kb5 Kb12 Kb18) : zq51_l18 t0 t3 t4 t5 t6 t7 t93 t94 t95 H K Kb5 Kb12 :=
 aloop (M := zq51_M) zq51_m18 (fun n F H => ∃ t95, F = zq51_fr18 t0 t3 t4 t5 t6 t7 t93 t94 t95 ∧ Inv n t95 H) n (fun hs _ => ⟨t95, rfl, h0 hs⟩) (fun n F H' ⟨t95, hF, hI⟩ h1 h2 h3 => by subst hF; rw [zq51_b18_eq]; exact round n t95 H' hI h1 h2 h3 _ (fun _ _ h => h))
theorem zq51_b12_eq (t0 t3 t4 t5 t6 t7 : AV) (H : Heap) (K : Kt) (Kb5 : Lt) (Kb12 : Lt) : awp Tryz.prog zq51_M zq51_c12 (roundQ zq51_m12 Kb12 (zq51_Q12 K Kb5)) (zq51_fr12 t0 t3 t4 t5 t6 t7) H = zq51_b12 t0 t3 t4 t5 t6 t7 H K Kb5 Kb12 := by kernel_rfl
theorem zq51_loop12 {t0 t3 t4 t5 t6 t7 : AV} {H : Heap} {K : Kt} {Kb5 : Lt} (Inv : Nat → AV → AV → Heap → Prop) (n : Nat) (h0 : HSc H → Inv n t4 t7 H)
  (round : ∀ n t4 t7 H', Inv n t4 t7 H' → HSc H' → H.length ≤ H'.length → (zq51_fr12 t0 t3 t4 t5 t6 t7).all (AV.sc H'.length) = true → ∀ Kb12 : Lt, (∀ F'' H'', (∃ n', n' < n ∧ Back H.length (fun F2 H2 => ∃ t4 t7, F2 = zq51_fr12 t0 t3 t4 t5 t6 t7 ∧ Inv n' t4 t7 H2) F'' H'') → Kb12 F'' H'') → zq51_b12 t0 t3 t4 t5 t6 t7 H' K Kb5 Kb12) : zq51_l12 t0 t3 t4 t5 t6 t7 H K Kb5 :=
 aloop (M := zq51_M) zq51_m12 (fun n F H => ∃ t4 t7, F = zq51_fr12 t0 t3 t4 t5 t6 t7 ∧ Inv n t4 t7 H) n (fun hs _ => ⟨t4, t7, rfl, h0 hs⟩) (fun n F H' ⟨t4, t7, hF, hI⟩ h1 h2 h3 => by subst hF; rw [zq51_b12_eq]; exact round n t4 t7 H' hI h1 h2 h3 _ (fun _ _ h => h))
theorem zq51_b5_eq (t0 t3 t4 t5 : AV) (H : Heap) (K : Kt) (Kb5 : Lt) : awp Tryz.prog zq51_M zq51_c5 (roundQ zq51_m5 Kb5 (zq51_Q5 K)) (zq51_fr5 t0 t3 t4 t5) H = zq51_b5 t0 t3 t4 t5 H K Kb5 := by kernel_rfl
theorem zq51_loop5 {t0 t3 t4 t5 : AV} {H : Heap} {K : Kt} (Inv : Nat → AV → AV → AV → Heap → Prop) (n : Nat) (h0 : HSc H → Inv n t3 t4 t5 H)
  (round : ∀ n t3 t4 t5 H', Inv n t3 t4 t5 H' → HSc H' → H.length ≤ H'.length → (zq51_fr5 t0 t3 t4 t5).all (AV.sc H'.length) = true → ∀ Kb5 : Lt, (∀ F'' H'', (∃ n', n' < n ∧ Back H.length (fun F2 H2 => ∃ t3 t4 t5, F2 = zq51_fr5 t0 t3 t4 t5 ∧ Inv n' t3 t4 t5 H2) F'' H'') → Kb5 F'' H'') → zq51_b5 t0 t3 t4 t5 H' K Kb5) : zq51_l5 t0 t3 t4 t5 H K :=
 aloop (M := zq51_M) zq51_m5 (fun n F H => ∃ t3 t4 t5, F = zq51_fr5 t0 t3 t4 t5 ∧ Inv n t3 t4 t5 H) n (fun hs _ => ⟨t3, t4, t5, rfl, h0 hs⟩) (fun n F H' ⟨t3, t4, t5, hF, hI⟩ h1 h2 h3 => by subst hF; rw [zq51_b5_eq]; exact round n t3 t4 t5 H' hI h1 h2 h3 _ (fun _ _ h => h))
theorem zq51_eq (t0 : AV) (H : Heap) (K : Kt) : awp Tryz.prog zq51_M zq51_c (retQ Tryz.prog zq51_r K) (t0 :: List.replicate 120 .unk) H = zq51 t0 H K := by kernel_rfl
theorem zq51_ok {t0 : AV} {H : Heap} {K : Kt} (h : HSc H → zq51 t0 H K) : ACalls Tryz.prog n_zq51 [t0] H K :=
 acalls_body (M := zq51_M) Tryz.func53 (c := zq51_c) (by kernel_rfl) (fun hs => (zq51_eq t0 H K).mpr (h hs))
def zq92_M : Nat → List Bool
 | 2 => rl false [0,1,2,1,21]
 | 5 => rl false [0,1,2,2,20]
 | _ => []
noncomputable def zq92_c : Code := Tryz.f94.body.getD .skip
noncomputable def zq92_r : List ResultVar := Tryz.f94.results.toList
def zq92_fr2 (t0 t3 : AV) : List AV := t0 :: ux 2 (t3 :: ux 21 [])
def zq92_m2 : List Bool := zq92_M 2
noncomputable def zq92_c2 : Code := codeAt [1, 0, 1, 0, 0] zq92_c
def zq92_Q2 (K : Kt) : AExit → List AV → Heap → Prop := contAt Tryz.prog zq92_M [1, 0, 1, 0] zq92_c (retQ Tryz.prog zq92_r K)
def zq92_l2 (t0 t3 : AV) (H : Heap) (K : Kt) : Prop := ALoop Tryz.prog zq92_c2 (zq92_Q2 K) (zq92_fr2 t0 t3) H
def zq92_fr5 (t0 t3 t4 : AV) : List AV := t0 :: ux 2 (t3 :: t4 :: ux 20 [])
def zq92_m5 : List Bool := zq92_M 5
noncomputable def zq92_c5 : Code := codeAt [1, 0, 0, 1, 0, 0] zq92_c2
def zq92_Q5 (K : Kt) (Kb2 : Lt) : AExit → List AV → Heap → Prop := contAt Tryz.prog zq92_M [1, 0, 0, 1, 0] zq92_c2 (roundQ zq92_m2 Kb2 (zq92_Q2 K))
def zq92_l5 (t0 t3 t4 : AV) (H : Heap) (K : Kt) (Kb2 : Lt) : Prop := ALoop Tryz.prog zq92_c5 (zq92_Q5 K Kb2) (zq92_fr5 t0 t3 t4) H
def zq92_b5 (t0 t3 t4 : AV) (H : Heap) (K : Kt) (Kb2 : Lt) (Kb5 : Lt) : Prop :=
 aBin .lss false t4 t3 fun t13 =>
 aTest t13
 (aPure H (fun K' => K' t0 H) fun t16 =>
 aPure H (fun K' => K' t3 H) fun t17 =>
 aPure H (fun K' => aIdxA 1 t16 t17 (K' · H)) fun t18 =>
 aPure H (fun K' => aLoadC false 1 t18 H (K' · H)) fun t19 =>
 aPure H (fun K' => K' t0 H) fun t20 =>
 aPure H (fun K' => K' t4 H) fun t21 =>
 aPure H (fun K' => aIdxA 1 t20 t21 (K' · H)) fun t22 =>
 aPure H (fun K' => aLoadC false 1 t22 H (K' · H)) fun t23 =>
 aPure H (fun K' => aBin .eql false t19 t23 (K' · H)) fun t24 =>
 aTest t24
 (K (.bool true) H)
 (aBin .add false t4 (.int .i64 1) fun t15 =>
 Kb5 (zq92_fr5 t0 t3 t15) H))
 (aBin .add false t3 (.int .i64 1) fun t10 =>
 Kb2 (zq92_fr2 t0 t10) H)
def zq92_b2 (t0 t3 : AV) (H : Heap) (K : Kt) (Kb2 : Lt) : Prop :=
 aLen 1 t0 fun t7 =>
 aBin .lss false t3 t7 fun t8 =>
 aTest t8
 (zq92_l5 t0 t3 (.int .i64 0) H K Kb2)
 (K (.bool false) H)
def zq92 (t0 : AV) (H : Heap) (K : Kt) : Prop :=
 zq92_l2 t0 (.int .i64 0) H K
theorem zq92_b5_eq (t0 t3 t4 : AV) (H : Heap) (K : Kt) (Kb2 : Lt) (Kb5 : Lt) : awp Tryz.prog zq92_M zq92_c5 (roundQ zq92_m5 Kb5 (zq92_Q5 K Kb2)) (zq92_fr5 t0 t3 t4) H = zq92_b5 t0 t3 t4 H K Kb2 Kb5 := by kernel_rfl
theorem zq92_loop5 {t0 t3 t4 : AV} {H : Heap} {K : Kt} {Kb2 : Lt} (Inv : Nat → AV → Heap → Prop) (n : Nat) (h0 : HSc H → Inv n t4 H)
  (round : ∀ n t4 H', Inv n t4 H' → HSc H' → H.length ≤ H'.length → (zq92_fr5 t0 t3 t4).all (AV.sc H'.length) = true → ∀ Kb5 : Lt, (∀ F'' H'', (∃ n', n' < n ∧ Back H.length (fun F2 H2 => ∃ t4, F2 = zq92_fr5 t0 t3 t4 ∧ Inv n' t4 H2) F'' H'') → Kb5 F'' H'') → zq92_b5 t0 t3 t4 H' K Kb2 Kb5) : zq92_l5 t0 t3 t4 H K Kb2 :=
 aloop (M := zq92_M) zq92_m5 (fun n F H => ∃ t4, F = zq92_fr5 t0 t3 t4 ∧ Inv n t4 H) n (fun hs _ => ⟨t4, rfl, h0 hs⟩) (fun n F H' ⟨t4, hF, hI⟩ h1 h2 h3 => by subst hF; rw [zq92_b5_eq]; exact round n t4 H' hI h1 h2 h3 _ (fun _ _ h => h))
theorem zq92_b2_eq (t0 t3 : AV) (H : Heap) (K : Kt) (Kb2 : Lt) : awp Tryz.prog zq92_M zq92_c2 (roundQ zq92_m2 Kb2 (zq92_Q2 K)) (zq92_fr2 t0 t3) H = zq92_b2 t0 t3 H K Kb2 := by kernel_rfl
theorem zq92_loop2 {t0 t3 : AV} {H : Heap} {K : Kt} (Inv : Nat → AV → Heap → Prop) (n : Nat) (h0 : HSc H → Inv n t3 H)
  (round : ∀ n t3 H', Inv n t3 H' → HSc H' → H.length ≤ H'.length → (zq92_fr2 t0 t3).all (AV.sc H'.length) = true → ∀ Kb2 : Lt, (∀ F'' H'', (∃ n', n' < n ∧ Back H.length (fun F2 H2 => ∃ t3, F2 = zq92_fr2 t0 t3 ∧ Inv n' t3 H2) F'' H'') → Kb2 F'' H'') → zq92_b2 t0 t3 H' K Kb2) : zq92_l2 t0 t3 H K :=
 aloop (M := zq92_M) zq92_m2 (fun n F H => ∃ t3, F = zq92_fr2 t0 t3 ∧ Inv n t3 H) n (fun hs _ => ⟨t3, rfl, h0 hs⟩) (fun n F H' ⟨t3, hF, hI⟩ h1 h2 h3 => by subst hF; rw [zq92_b2_eq]; exact round n t3 H' hI h1 h2 h3 _ (fun _ _ h => h))
theorem zq92_eq (t0 : AV) (H : Heap) (K : Kt) : awp Tryz.prog zq92_M zq92_c (retQ Tryz.prog zq92_r K) (t0 :: List.replicate 24 .unk) H = zq92 t0 H K := by kernel_rfl
theorem zq92_ok {t0 : AV} {H : Heap} {K : Kt} (h : HSc H → zq92 t0 H K) : ACalls Tryz.prog n_zq92 [t0] H K :=
 acalls_body (M := zq92_M) Tryz.func94 (c := zq92_c) (by kernel_rfl) (fun hs => (zq92_eq t0 H K).mpr (h hs))
def zq146_M : Nat → List Bool
 | 5 => rl false [0,1,2,2,9,2,89]
 | 13 => rl false [0,1,2,3,8,2,60,3,26]
 | _ => []
noncomputable def zq146_c : Code := Tryz.f148.body.getD .skip
noncomputable def zq146_r : List ResultVar := Tryz.f148.results.toList
def zq146_fr5 (t0 t3 t4 t14 t15 : AV) : List AV := t0 :: ux 2 (t3 :: t4 :: ux 9 (t14 :: t15 :: ux 89 []))
def zq146_m5 : List Bool := zq146_M 5
noncomputable def zq146_c5 : Code := codeAt [1, 1, 1, 0, 1, 0, 0] zq146_c
def zq146_Q5 (K : Kt) : AExit → List AV → Heap → Prop := contAt Tryz.prog zq146_M [1, 1, 1, 0, 1, 0] zq146_c (retQ Tryz.prog zq146_r K)
def zq146_l5 (t0 t3 t4 t14 t15 : AV) (H : Heap) (K : Kt) : Prop := ALoop Tryz.prog zq146_c5 (zq146_Q5 K) (zq146_fr5 t0 t3 t4 t14 t15) H
def zq146_fr13 (t0 t3 t4 t5 t14 t15 t76 t77 t78 : AV) : List AV := t0 :: ux 2 (t3 :: t4 :: t5 :: ux 8 (t14 :: t15 :: ux 60 (t76 :: t77 :: t78 :: ux 26 [])))
def zq146_m13 : List Bool := zq146_M 13
noncomputable def zq146_c13 : Code := codeAt [1, 1, 0, 0, 1, 1, 1, 1, 1, 0, 0] zq146_c5
def zq146_Q13 (K : Kt) (Kb5 : Lt) : AExit → List AV → Heap → Prop := contAt Tryz.prog zq146_M [1, 1, 0, 0, 1, 1, 1, 1, 1, 0] zq146_c5 (roundQ zq146_m5 Kb5 (zq146_Q5 K))
def zq146_l13 (t0 t3 t4 t5 t14 t15 t76 t77 t78 : AV) (H : Heap) (K : Kt) (Kb5 : Lt) : Prop := ALoop Tryz.prog zq146_c13 (zq146_Q13 K Kb5) (zq146_fr13 t0 t3 t4 t5 t14 t15 t76 t77 t78) H
def zq146_b13 (t0 t3 t4 t5 t14 t15 t76 t77 t78 : AV) (H : Heap) (K : Kt) (Kb5 : Lt) (Kb13 : Lt) : Prop :=
 aBin .lss false t78 t77 fun t79 =>
 aTest t79
 (aIdxA 2 t76 t78 fun t81 =>
 aLoad true 2 t81 H fun t82 =>
 aNew [(.str []), .snil] H fun t7 H =>
 aStore 2 t7 t82 H fun H =>
 aFld 0 t7 fun t83 =>
 aLoad false 1 t83 H fun t84 =>
 ACalls Tryz.prog n_zq187 [t84] H fun t85 H =>
 aUn .not t85 fun t86 =>
 aGuardJ t86 false H (fun K' => K' t4 H) fun t88 H =>
 aGuardJ t86 false H (fun K' => aFld 0 t7 (K' · H)) fun t89 H =>
 aGuardJ t86 false H (fun K' => aLoad false 1 t89 H (K' · H)) fun t90 H =>
 aGuardJ t86 false H (fun K' => aLkp (.bool false) false t88 t90 H (K' · H)) fun t91 H =>
 aPick t86 (.bool true) t91 fun t92 =>
 aGuardJ t92 false H (fun K' => K' t0 H) fun t94 H =>
 aGuardJ t92 false H (fun K' => K' t5 H) fun t95 H =>
 aGuardJ t92 false H (fun K' => K' t78 H) fun t96 H =>
 aGuardJ t92 false H (fun K' => ACalls Tryz.prog n_zq188 [t94, t95, t96] H K') fun t97 H =>
 aGuardJ t92 false H (fun K' => aUn .not t97 (K' · H)) fun t98 H =>
 aPick t92 (.bool true) t98 fun t99 =>
 aTest t99
 (K (.bool false) H)
 (aFld 0 t7 fun t101 =>
 aLoad false 1 t101 H fun t102 =>
 aMUpd t4 t102 (.bool true) H fun H =>
 aBin .add false t78 (.int .i64 1) fun t103 =>
 Kb13 (zq146_fr13 t0 t3 t4 t5 t14 t15 t76 t77 t103) H))
 (aBin .add false t15 (.int .i64 1) fun t104 =>
 Kb5 (zq146_fr5 t0 t3 t4 t14 t104) H)
def zq146_b5 (t0 t3 t4 t14 t15 : AV) (H : Heap) (K : Kt) (Kb5 : Lt) : Prop :=
 aBin .lss false t15 t14 fun t16 =>
 aTest t16
 (aIdxA 3 t0 t15 fun t20 =>
 aFld 0 t20 fun t21 =>
 aLoad false 1 t21 H fun t22 =>
 ACalls Tryz.prog n_zq187 [t22] H fun t23 H =>
 aUn .not t23 fun t24 =>
 aGuardJ t24 false H (fun K' => K' t3 H) fun t26 H =>
 aGuardJ t24 false H (fun K' => K' t0 H) fun t27 H =>
 aGuardJ t24 false H (fun K' => K' t15 H) fun t28 H =>
 aGuardJ t24 false H (fun K' => aIdxA 3 t27 t28 (K' · H)) fun t29 H =>
 aGuardJ t24 false H (fun K' => aFld 0 t29 (K' · H)) fun t30 H =>
 aGuardJ t24 false H (fun K' => aLoad false 1 t30 H (K' · H)) fun t31 H =>
 aGuardJ t24 false H (fun K' => aLkp (.bool false) false t26 t31 H (K' · H)) fun t32 H =>
 aPick t24 (.bool true) t32 fun t33 =>
 aGuardJ t33 false H (fun K' => K' t0 H) fun t35 H =>
 aGuardJ t33 false H (fun K' => K' t15 H) fun t36 H =>
 aGuardJ t33 false H (fun K' => aIdxA 3 t35 t36 (K' · H)) fun t37 H =>
 aGuardJ t33 false H (fun K' => aFld 1 t37 (K' · H)) fun t38 H =>
 aGuardJ t33 false H (fun K' => aLoad false 1 t38 H (K' · H)) fun t39 H =>
 aGuardJ t33 false H (fun K' => aBin .lss false t39 (.int .i64 0) (K' · H)) fun t40 H =>
 aPick t33 (.bool true) t40 fun t41 =>
 aGuardJ t41 false H (fun K' => K' t0 H) fun t43 H =>
 aGuardJ t41 false H (fun K' => K' t15 H) fun t44 H =>
 aGuardJ t41 false H (fun K' => aIdxA 3 t43 t44 (K' · H)) fun t45 H =>
 aGuardJ t41 false H (fun K' => aFld 1 t45 (K' · H)) fun t46 H =>
 aGuardJ t41 false H (fun K' => aLoad false 1 t46 H (K' · H)) fun t47 H =>
 aGuardJ t41 false H (fun K' => aBin .gtr false t47 (.int .i64 6) (K' · H)) fun t48 H =>
 aPick t41 (.bool true) t48 fun t49 =>
 aTest t49
 (K (.bool false) H)
 (aIdxA 3 t0 t15 fun t53 =>
 aFld 0 t53 fun t54 =>
 aLoad false 1 t54 H fun t55 =>
 aMUpd t3 t55 (.bool true) H fun H =>
 aIdxA 3 t0 t15 fun t58 =>
 aFld 2 t58 fun t59 =>
 aLoad false 1 t59 H fun t60 =>
 aLen 1 t60 fun t61 =>
 aBin .lss false t61 (.int .i64 1) fun t62 =>
 aGuardJ t62 false H (fun K' => K' t0 H) fun t64 H =>
 aGuardJ t62 false H (fun K' => K' t15 H) fun t65 H =>
 aGuardJ t62 false H (fun K' => aIdxA 3 t64 t65 (K' · H)) fun t66 H =>
 aGuardJ t62 false H (fun K' => aFld 2 t66 (K' · H)) fun t67 H =>
 aGuardJ t62 false H (fun K' => aLoad false 1 t67 H (K' · H)) fun t68 H =>
 aGuardJ t62 false H (fun K' => aLen 1 t68 (K' · H)) fun t69 H =>
 aGuardJ t62 false H (fun K' => aBin .gtr false t69 (.int .i64 8) (K' · H)) fun t70 H =>
 aPick t62 (.bool true) t70 fun t71 =>
 aTest t71
 (K (.bool false) H)
 (aIdxA 3 t0 t15 fun t74 =>
 aFld 2 t74 fun t75 =>
 aLoad false 1 t75 H fun t76 =>
 aLen 1 t76 fun t77 =>
 zq146_l13 t0 t3 t4 t15 t14 t15 t76 t77 (.int .i64 0) H K Kb5)))
 (K (.bool true) H)
def zq146 (t0 : AV) (H : Heap) (K : Kt) : Prop :=
 aLen 1 t0 fun t9 =>
 aBin .gtr false t9 (.int .i64 12) fun t10 =>
 aTest t10
 (K (.bool false) H)
 (aMkMap H fun t11 H =>
 aMkMap H fun t12 H =>
 aLen 1 t0 fun t14 =>
 zq146_l5 t0 t11 t12 t14 (.int .i64 0) H K)
theorem zq146_b13_eq (t0 t3 t4 t5 t14 t15 t76 t77 t78 : AV) (H : Heap) (K : Kt) (Kb5 : Lt) (Kb13 : Lt) : awp Tryz.prog zq146_M zq146_c13 (roundQ zq146_m13 Kb13 (zq146_Q13 K Kb5)) (zq146_fr13 t0 t3 t4 t5 t14 t15 t76 t77 t78) H = zq146_b13 t0 t3 t4 t5 t14 t15 t76 t77 t78 H K Kb5 Kb13 := by kernel_rfl
theorem zq146_loop13 {t0 t3 t4 t5 t14 t15 t76 t77 t78 : AV} {H : Heap} {K : Kt} {Kb5 : Lt} (Inv : Nat → AV → Heap → Prop) (n : Nat) (h0 : HSc H → Inv n t78 H)
  (round : ∀ n t78 H', Inv n t78 H' → HSc H' → H.length ≤ H'.length → (zq146_fr13 t0 t3 t4 t5 t14 t15 t76 t77 t78).all (AV.sc H'.length) = true → ∀ Kb13 : Lt, (∀ F'' H'', (∃ n', n' < n ∧ Back H.length (fun F2 H2 => ∃ t78, F2 = zq146_fr13 t0 t3 t4 t5 t14 t15 t76 t77 t78 ∧ Inv n' t78 H2) F'' H'') → Kb13 F'' H'') → zq146_b13 t0 t3 t4 t5 t14 t15 t76 t77 t78 H' K Kb5 Kb13) : zq146_l13 t0 t3 t4 t5 t14 t15 t76 t77 t78 H K Kb5 :=
 aloop (M := zq146_M) zq146_m13 (fun n F H => ∃ t78, F = zq146_fr13 t0 t3 t4 t5 t14 t15 t76 t77 t78 ∧ Inv n t78 H) n (fun hs _ => ⟨t78, rfl, h0 hs⟩) (fun n F H' ⟨t78, hF, hI⟩ h1 h2 h3 => by subst hF; rw [zq146_b13_eq]; exact round n t78 H' hI h1 h2 h3 _ (fun _ _ h => h))
theorem zq146_b5_eq (t0 t3 t4 t14 t15 : AV) (H : Heap) (K : Kt) (Kb5 : Lt) : awp Tryz.prog zq146_M zq146_c5 (roundQ zq146_m5 Kb5 (zq146_Q5 K)) (zq146_fr5 t0 t3 t4 t14 t15) H = zq146_b5 t0 t3 t4 t14 t15 H K Kb5 := by kernel_rfl
theorem zq146_loop5 {t0 t3 t4 t14 t15 : AV} {H : Heap} {K : Kt} (Inv : Nat → AV → Heap → Prop) (n : Nat) (h0 : HSc H → Inv n t15 H)
  (round : ∀ n t15 H', Inv n t15 H' → HSc H' → H.length ≤ H'.length → (zq146_fr5 t0 t3 t4 t14 t15).all (AV.sc H'.length) = true → ∀ Kb5 : Lt, (∀ F'' H'', (∃ n', n' < n ∧ Back H.length (fun F2 H2 => ∃ t15, F2 = zq146_fr5 t0 t3 t4 t14 t15 ∧ Inv n' t15 H2) F'' H'') → Kb5 F'' H'') → zq146_b5 t0 t3 t4 t14 t15 H' K Kb5) : zq146_l5 t0 t3 t4 t14 t15 H K :=
 aloop (M := zq146_M) zq146_m5 (fun n F H => ∃ t15, F = zq146_fr5 t0 t3 t4 t14 t15 ∧ Inv n t15 H) n (fun hs _ => ⟨t15, rfl, h0 hs⟩) (fun n F H' ⟨t15, hF, hI⟩ h1 h2 h3 => by subst hF; rw [zq146_b5_eq]; exact round n t15 H' hI h1 h2 h3 _ (fun _ _ h => h))
theorem zq146_eq (t0 : AV) (H : Heap) (K : Kt) : awp Tryz.prog zq146_M zq146_c (retQ Tryz.prog zq146_r K) (t0 :: List.replicate 104 .unk) H = zq146 t0 H K := by kernel_rfl
theorem zq146_ok {t0 : AV} {H : Heap} {K : Kt} (h : HSc H → zq146 t0 H K) : ACalls Tryz.prog n_zq146 [t0] H K :=
 acalls_body (M := zq146_M) Tryz.func148 (c := zq146_c) (by kernel_rfl) (fun hs => (zq146_eq t0 H K).mpr (h hs))
def zq188_M : Nat → List Bool
 | 6 => rl false [0,2,6,1,18,3,29]
 | _ => []
noncomputable def zq188_c : Code := Tryz.f190.body.getD .skip
noncomputable def zq188_r : List ResultVar := Tryz.f190.results.toList
def zq188_fr6 (t0 t1 t8 t27 t28 t29 : AV) : List AV := t0 :: t1 :: ux 6 (t8 :: ux 18 (t27 :: t28 :: t29 :: ux 29 []))
def zq188_m6 : List Bool := zq188_M 6
noncomputable def zq188_c6 : Code := codeAt [1, 1, 1, 1, 0, 1, 0, 0] zq188_c
def zq188_Q6 (K : Kt) : AExit → List AV → Heap → Prop := contAt Tryz.prog zq188_M [1, 1, 1, 1, 0, 1, 0] zq188_c (retQ Tryz.prog zq188_r K)
def zq188_l6 (t0 t1 t8 t27 t28 t29 : AV) (H : Heap) (K : Kt) : Prop := ALoop Tryz.prog zq188_c6 (zq188_Q6 K) (zq188_fr6 t0 t1 t8 t27 t28 t29) H
def zq188_b6 (t0 t1 t8 t27 t28 t29 : AV) (H : Heap) (K : Kt) (Kb6 : Lt) : Prop :=
 aBin .lss false t29 t28 fun t30 =>
 aTest t30
 (aIdxA 3 t27 t29 fun t32 =>
 aLoad true 3 t32 H fun t33 =>
 aNew [(.int .i64 0), (.int .i64 0), .snil] H fun t10 H =>
 aStore 3 t10 t33 H fun H =>
 aPure H (fun K' => K' t0 H) fun t34 =>
 aPure H (fun K' => K' t1 H) fun t35 =>
 aPure H (fun K' => aBin .add false t35 (.int .i64 1) (K' · H)) fun t36 =>
 aPure H (fun K' => aSlice 1 3 t34 none (some t36) (K' · H)) fun t37 =>
 aPure H (fun K' => aLoadC true 3 t10 H (K' · H)) fun t38 =>
 aPure H (fun K' => K' t0 H) fun t39 =>
 aPure H (fun K' => K' t1 H) fun t40 =>
 aPure H (fun K' => aIdxA 3 t39 t40 (K' · H)) fun t41 =>
 aPure H (fun K' => aFld 1 t41 (K' · H)) fun t42 =>
 aPure H (fun K' => aLoadC false 1 t42 H (K' · H)) fun t43 =>
 aPureX H (fun H K' => ACalls Tryz.prog n_zq85 [t37, t38, t43] H K') fun t44 =>
 aPure H (fun K' => aUn .not t44 (K' · H)) fun t45 =>
 aPure H (fun K' => K' t45 H) fun t46 =>
 aGuardJ t46 false H (fun K' => aPure H (fun K'' => K'' t8 H) (K' · H)) fun t47 H =>
 aGuardJ t46 false H (fun K' => aPure H (fun K'' => K'' t29 H) (K' · H)) fun t48 H =>
 aGuardJ t46 false H (fun K' => aPure H (fun K'' => aIdxA 1 t47 t48 (K'' · H)) (K' · H)) fun t49 H =>
 aGuardJ t46 false H (fun K' => aPure H (fun K'' => aLoadC false 1 t49 H (K'' · H)) (K' · H)) fun t50 H =>
 aGuardJ t46 false H (fun K' => aPure H (fun K'' => aUn .not t50 (K'' · H)) (K' · H)) fun t51 H =>
 aGuardJ t46 false H (fun K' => aPure H (fun K'' => K'' t51 H) (K' · H)) fun t52 H =>
 aGuardJ t52 true H (fun K' => aPure H (fun K'' => aLoadC true 3 t10 H (K'' · H)) (K' · H)) fun t53 H =>
 aGuardJ t52 true H (fun K' => aPure H (fun K'' => K'' t1 H) (K' · H)) fun t54 H =>
 aGuardJ t52 true H (fun K' => aPureX H (fun H K'' => ACalls Tryz.prog n_zq222 [t53, t54] H K'') (K' · H)) fun t55 H =>
 aGuardJ t46 false H (fun K' => aPure H (fun K'' => aPick t52 t55 (.bool false) (K'' · H)) (K' · H)) fun t56 H =>
 aPure H (fun K' => aPick t46 (.bool true) t56 (K' · H)) fun t57 =>
 aTest t57
 (K (.bool false) H)
 (aBin .add false t29 (.int .i64 1) fun t58 =>
 Kb6 (zq188_fr6 t0 t1 t8 t27 t28 t58) H))
 (K (.bool true) H)
def zq188 (t0 t1 t2 : AV) (H : Heap) (K : Kt) : Prop :=
 aIdxA 3 t0 t1 fun t13 =>
 aFld 2 t13 fun t14 =>
 aLoad false 1 t14 H fun t15 =>
 aIdxA 2 t15 t2 fun t17 =>
 aFld 1 t17 fun t18 =>
 aLoad false 1 t18 H fun t19 =>
 aLen 1 t19 fun t21 =>
 aBin .gtr false t21 (.int .i64 6) fun t22 =>
 aTest t22
 (K (.bool false) H)
 (ACalls Tryz.prog n_zq65 [t0, t1, t2] H fun t26 H =>
 aLen 1 t19 fun t28 =>
 zq188_l6 t0 t1 t26 t19 t28 (.int .i64 0) H K)
theorem zq188_b6_eq (t0 t1 t8 t27 t28 t29 : AV) (H : Heap) (K : Kt) (Kb6 : Lt) : awp Tryz.prog zq188_M zq188_c6 (roundQ zq188_m6 Kb6 (zq188_Q6 K)) (zq188_fr6 t0 t1 t8 t27 t28 t29) H = zq188_b6 t0 t1 t8 t27 t28 t29 H K Kb6 := by kernel_rfl
theorem zq188_loop6 {t0 t1 t8 t27 t28 t29 : AV} {H : Heap} {K : Kt} (Inv : Nat → AV → Heap → Prop) (n : Nat) (h0 : HSc H → Inv n t29 H)
  (round : ∀ n t29 H', Inv n t29 H' → HSc H' → H.length ≤ H'.length → (zq188_fr6 t0 t1 t8 t27 t28 t29).all (AV.sc H'.length) = true → ∀ Kb6 : Lt, (∀ F'' H'', (∃ n', n' < n ∧ Back H.length (fun F2 H2 => ∃ t29, F2 = zq188_fr6 t0 t1 t8 t27 t28 t29 ∧ Inv n' t29 H2) F'' H'') → Kb6 F'' H'') → zq188_b6 t0 t1 t8 t27 t28 t29 H' K Kb6) : zq188_l6 t0 t1 t8 t27 t28 t29 H K :=
 aloop (M := zq188_M) zq188_m6 (fun n F H => ∃ t29, F = zq188_fr6 t0 t1 t8 t27 t28 t29 ∧ Inv n t29 H) n (fun hs _ => ⟨t29, rfl, h0 hs⟩) (fun n F H' ⟨t29, hF, hI⟩ h1 h2 h3 => by subst hF; rw [zq188_b6_eq]; exact round n t29 H' hI h1 h2 h3 _ (fun _ _ h => h))
theorem zq188_eq (t0 t1 t2 : AV) (H : Heap) (K : Kt) : awp Tryz.prog zq188_M zq188_c (retQ Tryz.prog zq188_r K) (t0 :: t1 :: t2 :: List.replicate 56 .unk) H = zq188 t0 t1 t2 H K := by kernel_rfl
theorem zq188_ok {t0 t1 t2 : AV} {H : Heap} {K : Kt} (h : HSc H → zq188 t0 t1 t2 H K) : ACalls Tryz.prog n_zq188 [t0, t1, t2] H K :=
 acalls_body (M := zq188_M) Tryz.func190 (c := zq188_c) (by kernel_rfl) (fun hs => (zq188_eq t0 t1 t2 H K).mpr (h hs))
end Go.Proofs.YtfpmdpldabopjaaGreatDoor
namespace Go.Proofs.YtfpmdpldabopjaaGreatDoor
open Go Go.Abs
set_option maxRecDepth 8000
theorem aExt_1 {k : AV → Prop} (a b : AV) (vs : List AV) : aExt (.tup (a :: b :: vs)) 1 k = k b := propext Iff.rfl
theorem aExt_2 {k : AV → Prop} (a b c : AV) (vs : List AV) : aExt (.tup (a :: b :: c :: vs)) 2 k = k c := propext Iff.rfl
def splitL (s : List UInt8) : List Tk × Int × Int :=
 if s.length > 16384 then ([], 0, 9) else
 match toks (kwF kwds) s 0 with
 | .error (p, e) => ([], p, e)
 | .ok l => (l, 0, 0)
theorem splitR_eq (s : List UInt8) : splitR s = .tup [.sl ((splitL s).1.map Tk.cs) .none, .int .i64 (splitL s).2.1, .int .i64 (splitL s).2.2] := by
 unfold splitR splitL
 split
 ·rfl
 ·split <;> (rename_i h; simp [h])
def upOf (s : List UInt8) (x : List Tk × Int × Int) : Bool := x.2.2 == 0 && match x.1 with
 | [a, _] => a.kind == 2 && a.text == s
 | _ => false
def upName (s : List UInt8) : Bool := upOf s (splitL s)
theorem zq187_spec (s : List UInt8) (H : Heap) (K : AV → Heap → Prop) (hK : K (.bool (upName s)) H) : ACalls Tryz.prog n_zq187 [.str s] H K := by
 refine ACalls.out (zq187_ok fun hs => ?_)
 have hO : Out H.length K (.bool (upName s)) H := Out.bool (J := []) (by simp) (Nat.le_refl _) hs hK
 simp only [zq187]
 refine split25 s _ _ ?_
 rw [splitR_eq]
 rw [upName] at hO
 generalize splitL s = x at hO ⊢
 obtain ⟨l, p, e⟩ := x
 clear hK
 cases h0 : e == 0 with
 | false =>
  rw [show upOf s (l, p, e) = false by simp [upOf, h0]] at hO
  simp [aExt_1, aExt_2, h0]; exact hO
 | true =>
 match l with
 | [] =>
  rw [show upOf s ([], p, e) = false by simp [upOf]] at hO
  simp [aExt_1, aExt_2, h0]; exact hO
 | [x] =>
  rw [show upOf s ([x], p, e) = false by simp [upOf]] at hO
  simp [aExt_1, aExt_2, h0]; exact hO
 | [a, x] =>
  rw [show upOf s ([a, x], p, e) = (a.kind == 2 && a.text == s) by simp [upOf, h0]] at hO
  cases hk : a.kind == 2 with
  | false => rw [hk] at hO; simp [aExt_1, aExt_2, h0, Tk.cs, hk]; exact hO
  | true => rw [hk] at hO; simp [aExt_1, aExt_2, h0, Tk.cs, hk]; exact hO
 | a :: b :: c :: r =>
  rw [show upOf s (a :: b :: c :: r, p, e) = false by simp [upOf]] at hO
  have : ¬ ((r.length : Int) + 1 + 1 + 1 = 2) := by omega
  have h2 : ((r.length : Int) + 1 + 1 + 1 == 2) = false := by simpa using this
  simp [aExt_1, aExt_2, h0, h2]; exact hO
theorem zq91_spec (s : List UInt8) (H : Heap) (K : AV → Heap → Prop) (hK : K (.bool (upName s)) H) : ACalls Tryz.prog n_zq91 [.str s] H K := by
 refine ACalls.out (zq91_ok fun hs => ?_)
 have hO : Out H.length K (.bool (upName s)) H := Out.bool (J := []) (by simp) (Nat.le_refl _) hs hK
 simp only [zq91]
 refine split26 s _ _ ?_
 rw [splitR_eq]
 rw [upName] at hO
 generalize splitL s = x at hO ⊢
 obtain ⟨l, p, e⟩ := x
 clear hK
 cases h0 : e == 0 with
 | false =>
  rw [show upOf s (l, p, e) = false by simp [upOf, h0]] at hO
  simp [aExt_1, aExt_2, h0]; exact hO
 | true =>
 match l with
 | [] =>
  rw [show upOf s ([], p, e) = false by simp [upOf]] at hO
  simp [aExt_1, aExt_2, h0]; exact hO
 | [x] =>
  rw [show upOf s ([x], p, e) = false by simp [upOf]] at hO
  simp [aExt_1, aExt_2, h0]; exact hO
 | [a, x] =>
  rw [show upOf s ([a, x], p, e) = (a.kind == 2 && a.text == s) by simp [upOf, h0]] at hO
  cases hk : a.kind == 2 with
  | false => rw [hk] at hO; simp [aExt_1, aExt_2, h0, Tk.cs, hk]; exact hO
  | true => rw [hk] at hO; simp [aExt_1, aExt_2, h0, Tk.cs, hk]; exact hO
 | a :: b :: c :: r =>
  rw [show upOf s (a :: b :: c :: r, p, e) = false by simp [upOf]] at hO
  have : ¬ ((r.length : Int) + 1 + 1 + 1 = 2) := by omega
  have h2 : ((r.length : Int) + 1 + 1 + 1 == 2) = false := by simpa using this
  simp [aExt_1, aExt_2, h0, h2]; exact hO
def repeats (l : List (List UInt8)) : Bool := !decide l.Nodup
def strs (l : List (List UInt8)) : List (List AV) := l.map fun s => [.str s]
@[simp] theorem strs_len (l : List (List UInt8)) : (strs l).length = l.length := by simp [strs]
theorem strs_get {l : List (List UInt8)} {i : Nat} (h : i < (strs l).length) : (strs l)[i] = [.str (l[i]'(by simpa using h))] := by simp [strs]
theorem repeats_true {l : List (List UInt8)} {i j : Nat} (hi : i < l.length) (hj : j < i) (h : l[i] = l[j]) : repeats l = true := by
 simp only [repeats, Bool.not_eq_true', decide_eq_false_iff_not]
 intro hn
 exact (List.pairwise_iff_getElem.mp hn) j i (by omega) hi hj h.symm
theorem zq92_spec (l : List (List UInt8)) (hl : l.length ≤ 1000000) (H : Heap) (K : AV → Heap → Prop) (hK : K (.bool (repeats l)) H) : ACalls Tryz.prog n_zq92 [.sl (strs l) .none] H K := by
 refine ACalls.out (zq92_ok fun hs => ?_)
 have hO : Out H.length K (.bool (repeats l)) H := Out.bool (J := []) (by simp) (Nat.le_refl _) hs hK
 simp [zq92]
 refine zq92_loop2 (Inv := fun q t3 H' => ∃ i : Nat, i ≤ l.length ∧ q = l.length - i ∧ t3 = .int .i64 i ∧ (∀ a b (ha : a < i) (hb : b < a) (h' : a < l.length), l[a] ≠ l[b]) ∧ H = H') l.length ?_ ?_
 ·intro _; exact ⟨0, by omega, by omega, rfl, by omega, rfl⟩
 ·rintro q t3 H' ⟨i, hi, rfl, rfl, hne, rfl⟩ hsc hlen hsF Kb hKb
  by_cases hlt : i < l.length
  ·simp [zq92_b2, hlt]
   refine zq92_loop5 (Inv := fun q t4 H' => ∃ j : Nat, j ≤ i ∧ q = i - j ∧ t4 = .int .i64 j ∧ (∀ b (hb : b < j) (hb' : b < l.length), l[i] ≠ l[b]) ∧ H = H') i ?_ ?_
   ·intro _; exact ⟨0, by omega, by omega, rfl, by omega, rfl⟩
   ·rintro q t4 H' ⟨j, hj, rfl, rfl, hnj, rfl⟩ hsc1 hlen1 hsF1 Kb1 hKb1
    by_cases hjl : j < i
    ·simp [zq92_b5, hjl, hlt, show j < l.length by omega, strs_get]
     cases he : l[i] == l[j] with
     | true =>
      rw [repeats_true hlt hjl (by simpa using he)] at hO
      simpa using hO
     | false =>
      simp
      rw [wrap_in (by omega) (by omega)]
      refine hKb1 _ _ ⟨i - (j + 1), by omega, Back.at (J := []) (H2 := H) (by simp) (Nat.le_refl _) hs ?_ ⟨_, rfl, j + 1, by omega, rfl, by simp, ?_, rfl⟩⟩
      ·simp [zq92_fr5, AV.sc, AV.scV, AV.scA, AV.scB]
      ·intro b hb hb'
       by_cases hbj : b = j
       ·subst hbj; simpa using he
       ·exact hnj b (by omega) hb'
    ·obtain rfl : j = i := by omega
     simp [zq92_b5]
     rw [wrap_in (by omega) (by omega)]
     refine hKb _ _ ⟨l.length - (j + 1), by omega, Back.at (J := []) (H2 := H) (by simp) (Nat.le_refl _) hs ?_ ⟨_, rfl, j + 1, by omega, rfl, by simp, ?_, rfl⟩⟩
     ·simp [zq92_fr2, AV.sc, AV.scV, AV.scA, AV.scB]
     ·intro a b ha hb h'
      by_cases haj : a = j
      ·subst haj; exact hnj b hb (by omega)
      ·exact hne a b (by omega) hb h'
  ·obtain rfl : i = l.length := by omega
   have : repeats l = false := by
    simp only [repeats, Bool.not_eq_false', decide_eq_true_eq]
    refine List.pairwise_iff_getElem.mpr fun a b ha hb hab he => ?_
    exact hne b a hb hab hb he.symm
   rw [this] at hO
   simp [zq92_b2]
   exact hO
def argOk (data : List Dat) (d : Nat) (vars : Int) (t : VT) : Bool := tyValid (data.take (d + 1)) vars t && (isSelf d vars t || !mentions d t)
theorem zq188_spec (data : List Dat) (d : Nat) (c : Nat) (hd : d < data.length) (hc : c < (data[d]).cons.length) (hl : data.length ≤ 1000000) (hcl : (data[d]).cons.length ≤ 1000000) (hal : ((data[d]).cons[c]).args.length ≤ 1000000)
  (hb : ∀ x ∈ ((data[d]).cons[c]).args, x.nodes ≤ 1000000) (H : Heap) (K : AV → Heap → Prop)
  (hK : K (.bool (decide (((data[d]).cons[c]).args.length ≤ 6) && ((data[d]).cons[c]).args.all (argOk data d (data[d]).vars))) H) :
  ACalls Tryz.prog n_zq188 [.sl (data.map Dat.cs) .none, .int .i64 d, .int .i64 c] H K := by
 refine ACalls.out (zq188_ok fun hs => ?_)
 have e1 : (data.map Dat.cs)[d]? = some (data[d]).cs := by simp [hd]
 have e2 : ((data[d]).cons.map Con.cs)[c]? = some ((data[d]).cons[c]).cs := by simp [hc]
 have hrec := zq65_spec data d c hd hc hl hcl hal hb
 generalize hD : data[d] = D at *
 generalize hA : D.cons[c] = C at *
 have hO : ∀ J, Out H.length K (.bool (decide (C.args.length ≤ 6) && C.args.all (argOk data d D.vars))) (H ++ J) := fun J => Out.bool rfl (Nat.le_refl _) hs hK
 simp [zq188, e1, e2, Dat.cs, Con.cs, hd, hD, hc, hA]
 by_cases h6 : C.args.length ≤ 6
 ·have h6' : ¬ (6 : Int) < C.args.length := by omega
  have h6'' : ¬ 6 < C.args.length := by omega
  simp [h6', h6'']
  refine hrec _ _ ?_
  simp [h6] at hO
  refine zq188_loop6 (Inv := fun q t29 H' => ∃ i : Nat, i ≤ C.args.length ∧ q = C.args.length - i ∧ t29 = .int .i64 i ∧ (C.args.drop i).all (argOk data d D.vars) = C.args.all (argOk data d D.vars) ∧ H = H') C.args.length ?_ ?_
  ·intro _; exact ⟨0, by omega, by omega, rfl, by simp, rfl⟩
  ·rintro q t29 H' ⟨i, hi, rfl, rfl, ho, rfl⟩ hsc hlen hsF Kb hKb
   by_cases hlt : i < C.args.length
   ·rw [List.drop_eq_getElem_cons hlt, List.all_cons] at ho
    have hnb := hb _ (List.getElem_mem hlt)
    obtain ⟨x1, x2, x3, hvx, hx1, hx2, hx3⟩ := vt3' C.args[i]
    simp [zq188_b6, hlt, hvx, e1, hd, hD, Dat.cs]
    refine ⟨⟨hx1, hx2, hx3⟩, ?_⟩
    rw [wrap_in (by omega) (by omega), show ((d : Int) + 1).toNat = d + 1 by omega, ← List.map_take]
    refine ⟨by omega, by omega, ?_⟩
    rw [← hvx]
    refine aPureX_call (.bool (tyValid (data.take (d + 1)) D.vars C.args[i])) (fun J => zq85_spec (data.take (d + 1)) D.vars _ (by omega) _ _ ⟨rfl, rfl⟩) ?_
    have hao : argOk data d D.vars C.args[i] = (tyValid (data.take (d + 1)) D.vars C.args[i] && (isSelf d D.vars C.args[i] || !mentions d C.args[i])) := rfl
    rw [hao] at ho
    cases hv : tyValid (data.take (d + 1)) D.vars C.args[i] with
    | false =>
     rw [hv] at ho
     simp only [Bool.false_and] at ho
     rw [← ho] at hO
     simp; exact hO _
    | true =>
    rw [hv] at ho
    cases hsf : isSelf d D.vars C.args[i] with
    | true =>
     rw [hsf] at ho
     simp [hlt, hsf]
     rw [wrap_in (by omega) (by omega)]
     refine hKb _ _ ⟨C.args.length - (i + 1), by omega, Back.same (by simp) hs ?_ ⟨_, rfl, i + 1, by omega, rfl, by simp, by simpa using ho, rfl⟩⟩
     simp [zq188_fr6, AV.sc, AV.scV, AV.scA, AV.scB]
    | false =>
     rw [hsf] at ho
     simp [hlt, hsf]
     refine aPureX_call (.bool (mentions d C.args[i])) (fun J => zq222_spec d _ _ (Nat.le_refl _) (by omega) _ _ ⟨rfl, rfl⟩) ?_
     cases hm : mentions d C.args[i] with
     | true =>
      rw [hm] at ho
      simp only [Bool.not_true, Bool.or_false, Bool.and_false, Bool.false_and] at ho
      rw [← ho] at hO
      simp; exact hO _
     | false =>
      rw [hm] at ho
      simp
      rw [wrap_in (by omega) (by omega)]
      refine hKb _ _ ⟨C.args.length - (i + 1), by omega, Back.same (by simp) hs ?_ ⟨_, rfl, i + 1, by omega, rfl, by simp, by simpa using ho, rfl⟩⟩
      simp [zq188_fr6, AV.sc, AV.scV, AV.scA, AV.scB]
   ·obtain rfl : i = C.args.length := by omega
    rw [List.drop_length, List.all_nil] at ho
    rw [← ho] at hO
    simp [zq188_b6]
    simpa using hO []
 ·have h6' : (6 : Int) < C.args.length := by omega
  have h6'' : 6 < C.args.length := by omega
  simp [h6', h6'']
  simp [h6] at hO
  simpa using hO []
def seen (l : List (List UInt8)) : List (List UInt8 × AV) := l.map fun s => (s, .bool true)
theorem seen_get (s : List UInt8) : ∀ l : List (List UInt8), (mget (seen l) s).getD (.bool false) = .bool (decide (s ∈ l))
 | [] => by simp [seen, mget]
 | a :: l => by
  have := seen_get s l
  cases h : a == s with
  | true =>
   have h' : a = s := by simpa using h
   simp [seen, mget, h, h']
  | false =>
   have h' : a ≠ s := by simpa using h
   have h'' : s ≠ a := fun e => h' e.symm
   simp only [seen, List.map_cons, mget, h] at this ⊢
   rw [this]; simp [h'']
theorem seen_put (s : List UInt8) : ∀ l : List (List UInt8), s ∉ l → mput (seen l) s (.bool true) = seen (l ++ [s])
 | [], _ => rfl
 | a :: l, h => by
  have h1 : (a == s) = false := by simp at h; simpa using fun e => h.1 e.symm
  have := seen_put s l (by simp at h; exact h.2)
  simp only [seen, List.map_cons, mput, h1, List.cons_append] at this ⊢
  rw [this]
theorem seen_sc (m : Nat) (l : List (List UInt8)) : (AB.map (seen l)).sc m = true := by simp [AB.sc, seen, AV.scV]
def dnames (data : List Dat) : List (List UInt8) := data.map Dat.name
def cnames (data : List Dat) : List (List UInt8) := data.flatMap fun D => D.cons.map Con.name
def conOk (data : List Dat) (d : Nat) (vars : Int) (c : Con) : Bool := upName c.name && (decide (c.args.length ≤ 6) && c.args.all (argOk data d vars))
def datOk (data : List Dat) (d : Nat) (D : Dat) : Bool := upName D.name && decide (0 ≤ D.vars) && decide (D.vars ≤ 6) && decide (1 ≤ D.cons.length) && decide (D.cons.length ≤ 8) && D.cons.all (conOk data d D.vars)
def datsOk (data : List Dat) : List Dat → Nat → Bool
 | [], _ => true
 | D :: l, d => datOk data d D && datsOk data l (d + 1)
def dataOk (data : List Dat) : Bool := decide (data.length ≤ 12) && datsOk data data 0 && !repeats (dnames data) && !repeats (cnames data)
theorem repeats_mid {A R : List (List UInt8)} {s : List UInt8} (h : s ∈ A) : repeats (A ++ s :: R) = true := by
 simp only [repeats, Bool.not_eq_true', decide_eq_false_iff_not, List.nodup_append]
 rintro ⟨_, _, h3⟩
 exact h3 s h s (by simp) rfl
theorem repeats_nodup {l : List (List UInt8)} (h : l.Nodup) : repeats l = false := by simp [repeats, h]
theorem nodup_snoc {A : List (List UInt8)} {s : List UInt8} (h : A.Nodup) (hs : s ∉ A) : (A ++ [s]).Nodup := by
 rw [List.nodup_append]
 refine ⟨h, by simp, ?_⟩
 intro a ha b hb
 simp at hb; subst hb
 exact fun e => hs (e ▸ ha)
def Small (data : List Dat) : Prop := ∀ D ∈ data, D.cons.length ≤ 1000000 ∧ ∀ c ∈ D.cons, c.args.length ≤ 1000000 ∧ ∀ x ∈ c.args, x.nodes ≤ 1000000
theorem zq146_spec (data : List Dat) (hB : Small data) (hl : data.length ≤ 1000000) (H : Heap) (K : AV → Heap → Prop) (hK : K (.bool (dataOk data)) H) : ACalls Tryz.prog n_zq146 [.sl (data.map Dat.cs) .none] H K := by
 refine ACalls.out (zq146_ok fun hs => ?_)
 have hO : ∀ J, Out H.length K (.bool (dataOk data)) (H ++ J) := fun J => Out.bool rfl (Nat.le_refl _) hs hK
 by_cases h12 : data.length ≤ 12
 ·have h12' : ¬ (12 : Int) < data.length := by omega
  have h12'' : ¬ 12 < data.length := by omega
  have hD0 : datsOk data data 0 = false → ∀ J, Out H.length K (.bool false) (H ++ J) := fun h J => by
   have := hO J; rwa [show dataOk data = false by simp [dataOk, h]] at this
  have hD1 : repeats (dnames data) = true → ∀ J, Out H.length K (.bool false) (H ++ J) := fun h J => by
   have := hO J; rwa [show dataOk data = false by simp [dataOk, h]] at this
  have hD2 : repeats (cnames data) = true → ∀ J, Out H.length K (.bool false) (H ++ J) := fun h J => by
   have := hO J; rwa [show dataOk data = false by simp [dataOk, h]] at this
  simp [zq146, h12', h12'']
  refine zq146_loop5 (Inv := fun q t15 H' => ∃ i : Nat, i ≤ data.length ∧ q = data.length - i ∧ t15 = .int .i64 i ∧ datsOk data (data.drop i) i = datsOk data data 0 ∧ (dnames (data.take i)).Nodup ∧ (cnames (data.take i)).Nodup ∧ H' = H ++ [.map (seen (dnames (data.take i))), .map (seen (cnames (data.take i)))]) data.length ?_ ?_
  ·intro _; exact ⟨0, by omega, by omega, rfl, by simp, by simp [dnames], by simp [cnames], by simp [dnames, cnames, seen]⟩
  ·rintro q t15 H' ⟨i, hi, rfl, rfl, ho, hdn, hcn, rfl⟩ hsc hlen hsF Kb hKb
   by_cases hlt : i < data.length
   ·have e1 : (data.map Dat.cs)[i]? = some (data[i]).cs := by simp [hlt]
    obtain ⟨hB1, hB2⟩ := hB _ (List.getElem_mem hlt)
    have hargs := fun c hc => zq188_spec data i c hlt hc hl hB1 (hB2 _ (List.getElem_mem hc)).1 (hB2 _ (List.getElem_mem hc)).2
    rw [List.drop_eq_getElem_cons hlt, datsOk] at ho
    have htk : data.take (i + 1) = data.take i ++ [data[i]] := by rw [List.take_append_getElem hlt]
    have hsplit : data = data.take i ++ data[i] :: data.drop (i + 1) := by rw [List.getElem_cons_drop, List.take_append_drop]
    generalize hD : data[i] = D at *
    have hbad : datOk data i D = false → datsOk data data 0 = false := fun h => by rw [← ho, h, Bool.false_and]
    have hno : ∀ J, datOk data i D = false → Out H.length K (.bool false) (H ++ [.map (seen (dnames (data.take i))), .map (seen (cnames (data.take i)))] ++ J) := fun J h => by
     rw [List.append_assoc]; exact hD0 (hbad h) _
    simp [zq146_b5, hlt, e1, hD, Dat.cs]
    refine zq187_spec _ _ _ ?_
    cases hu : upName D.name with
    | false => simp; exact hD0 (hbad (by simp [datOk, hu])) _
    | true =>
    by_cases hmem : D.name ∈ dnames (data.take i)
    ·simp [hlt, e1, hD, Dat.cs, seen_get, hmem]
     refine hD1 ?_ _
     rw [hsplit]; simp only [dnames, List.map_append, List.map_cons]
     exact repeats_mid hmem
    by_cases hv0 : D.vars < 0
    ·simp [hlt, e1, hD, Dat.cs, seen_get, hmem, hv0]
     exact hD0 (hbad (by simp [datOk, show ¬ 0 ≤ D.vars by omega])) _
    by_cases hv6 : 6 < D.vars
    ·simp [hlt, e1, hD, Dat.cs, seen_get, hmem, hv0, hv6]
     exact hD0 (hbad (by simp [datOk, show ¬ D.vars ≤ 6 by omega])) _
    simp [hlt, e1, hD, Dat.cs, seen_get, hmem, hv0, hv6, seen_put _ _ hmem]
    by_cases hc1 : D.cons.length < 1
    ·have hc1' : (D.cons.length : Int) < 1 := by omega
     simp [hc1']
     exact hD0 (hbad (by simp [datOk, show ¬ 1 ≤ D.cons.length by omega])) _
    have hc1' : ¬ (D.cons.length : Int) < 1 := by omega
    by_cases hc8 : 8 < D.cons.length
    ·have hc8' : (8 : Int) < D.cons.length := by omega
     simp [hlt, e1, hD, Dat.cs, hc1', hc8', hc8]
     exact hD0 (hbad (by simp [datOk, show ¬ D.cons.length ≤ 8 by omega])) _
    have hc8' : ¬ (8 : Int) < D.cons.length := by omega
    have hdat : datOk data i D = D.cons.all (conOk data i D.vars) := by
     simp [datOk, hu, show 0 ≤ D.vars by omega, show D.vars ≤ 6 by omega, show 1 ≤ D.cons.length by omega, show D.cons.length ≤ 8 by omega]
    simp [hlt, e1, hD, Dat.cs, hc1', hc8', hc8]
    have hdn' : (dnames (data.take (i + 1))).Nodup := by
     rw [htk]; simp only [dnames, List.map_append, List.map_cons, List.map_nil]; exact nodup_snoc hdn hmem
    have hde : dnames (data.take i) ++ [D.name] = dnames (data.take (i + 1)) := by rw [htk]; simp [dnames]
    rw [hde]
    refine zq146_loop13 (Inv := fun q t78 H' => ∃ j : Nat, j ≤ D.cons.length ∧ q = D.cons.length - j ∧ t78 = .int .i64 j ∧ (D.cons.drop j).all (conOk data i D.vars) = D.cons.all (conOk data i D.vars) ∧ (cnames (data.take i) ++ (D.cons.take j).map Con.name).Nodup ∧ H' = H ++ [.map (seen (dnames (data.take (i + 1)))), .map (seen (cnames (data.take i) ++ (D.cons.take j).map Con.name))]) D.cons.length ?_ ?_
    ·intro _; exact ⟨0, by omega, by omega, rfl, by simp, by simpa using hcn, by simp⟩
    ·rintro q t78 H' ⟨j, hj, rfl, rfl, hoc, hcj, rfl⟩ hsc1 hlen1 hsF1 Kb1 hKb1
     have hscH : ∀ A B, HSc (H ++ [.map (seen A), .map (seen B)]) := fun A B => hs.append (by simp [seen_sc])
     by_cases hjl : j < D.cons.length
     ·have e2 : (D.cons.map Con.cs)[j]? = some (D.cons[j]).cs := by simp [hjl]
      have hargs' := hargs j hjl
      rw [List.drop_eq_getElem_cons hjl, List.all_cons] at hoc
      have htj : cnames (data.take i) ++ (D.cons.take (j + 1)).map Con.name = (cnames (data.take i) ++ (D.cons.take j).map Con.name) ++ [(D.cons[j]).name] := by
       rw [← List.take_append_getElem hjl, List.map_append, List.append_assoc]; rfl
      have hcs : cnames data = (cnames (data.take i) ++ (D.cons.take j).map Con.name) ++ (D.cons[j]).name :: ((D.cons.drop (j + 1)).map Con.name ++ cnames (data.drop (i + 1))) := by
       have h1 : D.cons.map Con.name = (D.cons.take j).map Con.name ++ (D.cons[j]).name :: (D.cons.drop (j + 1)).map Con.name := by
        rw [← List.map_cons (f := Con.name), List.getElem_cons_drop, ← List.map_append, List.take_append_drop]
       conv => lhs; rw [hsplit]
       simp only [cnames, List.flatMap_append, List.flatMap_cons, List.append_assoc, h1, List.cons_append]
      generalize hC : D.cons[j] = C at *
      have hbad' : conOk data i D.vars C = false → datsOk data data 0 = false := fun h => hbad (by rw [hdat, ← hoc, h, Bool.false_and])
      generalize hA : cnames (data.take i) ++ (D.cons.take j).map Con.name = A at *
      simp only [zq146_b13]
      simp [hjl, hC, Con.cs, Nat.add_assoc]
      refine zq187_spec _ _ _ ?_
      cases hu2 : upName C.name with
      | false => simp; exact hD0 (hbad' (by simp [conOk, hu2])) _
      | true =>
      by_cases hm2 : C.name ∈ A
      ·simp [seen_get, hm2]
       exact hD2 (by rw [hcs]; exact repeats_mid hm2) _
      ·simp [seen_get, hm2]
       refine hargs' _ _ ?_
       have hce : conOk data i D.vars C = (decide (C.args.length ≤ 6) && C.args.all (argOk data i D.vars)) := by simp [conOk, hu2]
       rw [← hce]
       cases hco : conOk data i D.vars C with
       | false => simp; exact hD0 (hbad' hco) _
       | true =>
        rw [hco, Bool.true_and] at hoc
        simp [seen_put _ _ hm2]
        rw [wrap_in (by omega) (by omega)]
        refine hKb1 _ _ ⟨D.cons.length - (j + 1), by omega, Back.at (J := [.cells [.str C.name, .sl (VT.css C.args) .none]]) (H2 := H ++ [.map (seen (dnames (data.take (i + 1)))), .map (seen (A ++ [C.name]))]) (by simp) (by simp) (hscH _ _) ?_ ⟨_, rfl, j + 1, by omega, rfl, by simp, hoc, ?_, ?_⟩⟩
        ·simp [zq146_fr13, AV.sc, AV.scV, AV.scA, AV.scB]
        ·rw [htj]; exact nodup_snoc hcj hm2
        ·rw [htj]
     ·obtain rfl : j = D.cons.length := by omega
      rw [List.drop_length, List.all_nil] at hoc
      rw [List.take_length] at *
      simp [zq146_b13]
      rw [wrap_in (by omega) (by omega)]
      have hce : cnames (data.take i) ++ D.cons.map Con.name = cnames (data.take (i + 1)) := by rw [htk]; simp [cnames]
      rw [hce] at hcj ⊢
      refine hKb _ _ ⟨data.length - (i + 1), by omega, Back.at (J := []) (by simp) (by simp) (hscH _ _) ?_ ⟨_, rfl, i + 1, by omega, rfl, by simp, ?_, hdn', hcj, rfl⟩⟩
      ·simp [zq146_fr5, AV.sc, AV.scV, AV.scA, AV.scB]
      ·rw [← ho, hdat, ← hoc, Bool.true_and]
   ·obtain rfl : i = data.length := by omega
    rw [List.drop_length, datsOk] at ho
    rw [List.take_length] at *
    simp [zq146_b5]
    have := hO [.map (seen (dnames data)), .map (seen (cnames data))]
    rwa [show dataOk data = true by simp [dataOk, h12, ← ho, repeats_nodup hdn, repeats_nodup hcn]] at this
 ·have h12' : (12 : Int) < data.length := by omega
  have h12'' : 12 < data.length := by omega
  rw [show dataOk data = false by simp [dataOk, h12]] at hO
  simp [zq146, h12', h12'']
  simpa using hO []
def KCon (c : Con) : Prop := c.name.length ≤ 40 ∧ c.args.length ≤ 8 ∧ ∀ t ∈ c.args, t.nodes ≤ 20
def KDat (d : Dat) : Prop := d.name.length ≤ 40 ∧ d.cons.length ≤ 10 ∧ ∀ c ∈ d.cons, KCon c
def KData (ds : List Dat) : Prop := ds.length ≤ 14 ∧ ∀ d ∈ ds, KDat d
theorem mem_take_succ {α : Type} {l : List α} {i : Nat} (h : i < l.length) {p : α → Prop} (h1 : ∀ x ∈ l.take i, p x) (h2 : p l[i]) : ∀ x ∈ l.take (i + 1), p x := by
 rw [List.take_succ_eq_append_getElem h]
 intro x hx
 rcases List.mem_append.1 hx with hx | hx
 ·exact h1 x hx
 ·simp at hx; subst hx; exact h2
theorem map_at {α : Type} {cs : α → List AV} {l : List α} {i : Nat} (h : i < l.length) : (l.map cs)[i]?.getD [] = cs l[i] := by simp [h]
theorem vt3 (v : VT) : ∃ a b c, v.cs = [a, b, c] ∧ a.known = true ∧ b.known = true ∧ c.known = true := by
 obtain ⟨k, n, ks⟩ := v; exact ⟨_, _, _, rfl, rfl, rfl, rfl⟩
theorem zq13_spec (ds : List Dat) (H : Heap) (K : AV → Heap → Prop) (hlen : ds.length ≤ 9223372036854775807) (hK : ∀ b, (b = true → KData ds) → K (.bool b) H) : ACalls Tryz.prog n_zq13 [.sl (ds.map Dat.cs) .none] H K := by
 refine ACalls.out (zq13_ok fun hs => ?_)
 have hF : ∀ J, Out H.length K (.bool false) (H ++ J) := fun J => Out.bool rfl (Nat.le_refl _) hs (hK false fun h => by cases h)
 have hF0 : Out H.length K (.bool false) H := by simpa using hF []
 by_cases h14 : ds.length > 14
 ·have : (14 : Int) < ds.length := by omega
  simp [zq13, this]
  exact hF0
 have : ¬ (14 : Int) < ds.length := by omega
 simp [zq13, this]
 refine zq13_loop4 (Inv := fun q t15 H' => ∃ i : Nat, i ≤ ds.length ∧ q = ds.length - i ∧ t15 = .int .i64 i ∧ (∀ d ∈ ds.take i, KDat d) ∧ H = H') ds.length ?_ ?_
 ·intro _; exact ⟨0, by omega, by omega, rfl, by simp, rfl⟩
 ·rintro q t15 H' ⟨i, hi, rfl, rfl, ha, rfl⟩ hsc hl hsF Kb4 hKb4
  by_cases hil : i < ds.length
  ·have hat : (ds.map Dat.cs)[i]?.getD [] = [.str ds[i].name, .int .i64 ds[i].vars, .sl (ds[i].cons.map Con.cs) .none] := map_at hil
   have next : KDat ds[i] → ∀ J, Kb4 (zq13_fr4 (.sl (ds.map Dat.cs) .none) (.int .i64 ds.length) (.int .i64 (i + 1))) (H ++ J) := by
    intro hd J
    refine hKb4 _ _ ⟨ds.length - (i + 1), by omega, Back.same (Nat.le_refl _) hs ?_ ⟨_, rfl, i + 1, by omega, rfl, by simp, mem_take_succ hil ha hd, rfl⟩⟩
    simp [zq13_fr4, AV.sc, AV.scV, AV.scA, AV.scB]
   generalize hdd : ds[i] = d at *
   simp [zq13_b4, hil, hat, AV.known, hdd, Dat.cs]
   by_cases hn : d.name.length > 40
   ·have : (40 : Int) < d.name.length := by omega
    simp [this]
    exact hF _
   have hn' : ¬ (40 : Int) < d.name.length := by omega
   by_cases hc : d.cons.length > 10
   ·have : (10 : Int) < d.cons.length := by omega
    simp [hn', this]
    exact hF _
   have hc' : ¬ (10 : Int) < d.cons.length := by omega
   simp [hn', hc']
   refine zq13_loop9 (Inv := fun q t32 H' => ∃ j : Nat, j ≤ d.cons.length ∧ q = d.cons.length - j ∧ t32 = .int .i64 j ∧ (∀ c ∈ d.cons.take j, KCon c) ∧ H' = H ++ [.cells [.str d.name, .int .i64 d.vars, .sl (d.cons.map Con.cs) .none]]) d.cons.length ?_ ?_
   ·intro _; exact ⟨0, by omega, by omega, rfl, by simp, rfl⟩
   ·rintro q t32 H' ⟨j, hj, rfl, rfl, hb, rfl⟩ hsc9 hl9 hsF9 Kb9 hKb9
    by_cases hjl : j < d.cons.length
    ·have hat : (d.cons.map Con.cs)[j]?.getD [] = [.str d.cons[j].name, .sl (VT.css d.cons[j].args) .none] := map_at hjl
     generalize hcc : d.cons[j] = c at *
     simp [zq13_b9, hjl, hat, AV.known, hcc, Con.cs]
     by_cases hn : c.name.length > 40
     ·have : (40 : Int) < c.name.length := by omega
      simp [this]
      exact hF _
     have hn' : ¬ (40 : Int) < c.name.length := by omega
     by_cases hc : c.args.length > 8
     ·have : (8 : Int) < c.args.length := by omega
      simp [hn', this]
      exact hF _
     have hc' : ¬ (8 : Int) < c.args.length := by omega
     simp [hn', hc']
     refine zq13_loop15 (Inv := fun q t49 H' => ∃ (k : Nat) (l : Int), k ≤ c.args.length ∧ q = c.args.length - k ∧ t49 = .int .i64 k ∧ -1 ≤ l ∧ l ≤ 20 ∧ (∀ t ∈ c.args.take k, t.nodes ≤ 20) ∧ H' = H ++ [.cells [.str d.name, .int .i64 d.vars, .sl (d.cons.map Con.cs) .none], .cells [.str c.name, .sl (VT.css c.args) .none], .cells [.int .i64 l]]) c.args.length ?_ ?_
     ·intro _; exact ⟨0, 20, by omega, by omega, rfl, by omega, by omega, by simp, rfl⟩
     ·rintro q t49 H' ⟨k, l, hk, rfl, rfl, hl0, hl1, hb15, rfl⟩ hsc15 hl15 hsF15 Kb15 hKb15
      by_cases hkl : k < c.args.length
      ·obtain ⟨x, y, z, hv, hx, hy, hz⟩ := vt3 c.args[k]
       simp [zq13_b15, hkl, hv, hx, hy, hz]
       rw [← hv]
       refine zq46_spec _ _ (Nat.le_refl _) l (by omega) hl0 _ (H.length + 2) (by simp) _ ?_ ?_
       ·intro hle
        simp
        rw [wrap_in (by omega) (by omega)]
        refine hKb15 _ _ ⟨c.args.length - (k + 1), by omega, Back.at (J := [_]) (H2 := H ++ [.cells [.str d.name, .int .i64 d.vars, .sl (d.cons.map Con.cs) .none], .cells [.str c.name, .sl (VT.css c.args) .none], .cells [.int .i64 (l - c.args[k].nodes)]]) (by simp; rfl) (by simp) (hs.append rfl) ?_ ⟨_, rfl, k + 1, l - c.args[k].nodes, by omega, rfl, by simp, by omega, by omega, mem_take_succ hkl hb15 (by omega), rfl⟩⟩
        simp [zq13_fr15, AV.sc, AV.scV, AV.scA, AV.scB]
       ·intro hle l'
        simp
        exact hF _
      ·obtain rfl : k = c.args.length := by omega
       rw [List.take_length] at hb15
       simp [zq13_b15]
       rw [wrap_in (by omega) (by omega)]
       refine hKb9 _ _ ⟨d.cons.length - (j + 1), by omega, Back.at (J := [_, _]) (H2 := H ++ [.cells [.str d.name, .int .i64 d.vars, .sl (d.cons.map Con.cs) .none]]) (by simp; exact ⟨rfl, rfl⟩) (by simp) (hs.append rfl) ?_ ⟨_, rfl, j + 1, by omega, rfl, by simp, mem_take_succ hjl hb (by rw [hcc]; exact ⟨by omega, by omega, hb15⟩), rfl⟩⟩
       simp [zq13_fr9, AV.sc, AV.scV, AV.scA, AV.scB]
    ·obtain rfl : j = d.cons.length := by omega
     rw [List.take_length] at hb
     simp [zq13_b9]
     rw [wrap_in (by omega) (by omega)]
     exact next ⟨by omega, by omega, hb⟩ _
  ·obtain rfl : i = ds.length := by omega
   rw [List.take_length] at ha
   simp [zq13_b4]
   exact Out.bool (J := []) (by simp) (Nat.le_refl _) hs (hK true fun _ => ⟨by omega, ha⟩)
def refArg (data : List Dat) (d : Nat) (vars : Int) (t : VT) : Bool := isSelf d vars t || tyValid (data.take d) vars t
structure RCon (data : List Dat) (d : Nat) (vars : Int) (c : Con) : Prop where
 up : upName c.name = true
 len : c.args.length ≤ 6
 args : ∀ x ∈ c.args, refArg data d vars x = true
structure RDat (data : List Dat) (d : Nat) (D : Dat) : Prop where
 v0 : 0 ≤ D.vars
 v6 : D.vars ≤ 6
 c1 : 1 ≤ D.cons.length
 c8 : D.cons.length ≤ 8
 up : upName D.name = true
 cons : ∀ c ∈ D.cons, RCon data d D.vars c
structure RData (data : List Dat) : Prop where
 len : data.length ≤ 12
 dats : ∀ d (h : d < data.length), RDat data d data[d]
 names : (dnames data).Nodup
 cons : (cnames data).Nodup
theorem take_snoc {α : Type} {l : List α} {i : Nat} (h : i < l.length) : l.take (i + 1) = l.take i ++ [l[i]] := by rw [List.take_append_getElem h]
theorem cn_len : ∀ l : List Dat, (∀ D ∈ l, D.cons.length ≤ 10) → (cnames l).length ≤ l.length * 10
 | [], _ => by simp [cnames]
 | D :: l, h => by
  have h1 := cn_len l (fun D hD => h D (by simp [hD]))
  have h2 := h D (by simp)
  rw [cnames] at h1 ⊢
  rw [List.flatMap_cons, List.length_append, List.length_map, List.length_cons]; omega
theorem dnames_snoc {data : List Dat} {d : Nat} (h : d < data.length) : dnames (data.take (d + 1)) = dnames (data.take d) ++ [(data[d]).name] := by
 rw [dnames, take_snoc h, List.map_append]; rfl
theorem cnames_snoc {data : List Dat} {d : Nat} (h : d < data.length) : cnames (data.take (d + 1)) = cnames (data.take d) ++ (data[d]).cons.map Con.name := by
 rw [cnames, take_snoc h, List.flatMap_append]; simp [cnames]
theorem strs_snoc (l : List (List UInt8)) (s : List UInt8) : strs (l ++ [s]) = strs l ++ [[.str s]] := by simp [strs]
theorem buildS_str {s : List UInt8} {k : AV → Prop} : aBuildS 1 [.str []] 1 [(0, .str s)] k = k (.sl [[.str s]] .full) := propext Iff.rfl
theorem repeats_tok (l : List (List UInt8)) (hl : l.length ≤ 1000000) {tok : Tok} (H : Heap) (K : AV → Heap → Prop) (hK : K (.bool (repeats l)) H) : ACalls Tryz.prog n_zq92 [.sl (strs l) tok] H K :=
 ACalls.wk (zq92_spec l hl H K hK) ⟨.atom (.sl _ _), trivial⟩
theorem con_at {D : Dat} {i : Nat} (h : i < D.cons.length) : (D.cons.map Con.cs)[i]?.getD [] = [.str (D.cons[i]).name, .sl (VT.css (D.cons[i]).args) .none] := by simp [h, Con.cs]
theorem zq51_spec (data : List Dat) (hkd : KData data) (H : Heap) (K : AV → Heap → Prop) (hK : ∀ b, (b = true ↔ RData data) → K (.bool b) H) : ACalls Tryz.prog n_zq51 [.sl (data.map Dat.cs) .none] H K := by
 refine ACalls.out (zq51_ok fun hs => ?_)
 obtain ⟨kl, kd⟩ := hkd
 have hF : ¬ RData data → ∀ J, Out H.length K (.bool false) (H ++ J) := fun h J => Out.bool rfl (Nat.le_refl _) hs (hK _ (by simp [h]))
 have hT : ∀ b : Bool, (b = true ↔ RData data) → ∀ J, Out H.length K (.bool b) (H ++ J) := fun b h J => Out.bool rfl (Nat.le_refl _) hs (hK _ h)
 by_cases h12 : data.length > 12
 ·have h12' : (12 : Int) < data.length := by omega
  simp [zq51, h12']
  have := hF (fun h => by have := h.len; omega) []
  simpa using this
 have h12' : ¬ (12 : Int) < data.length := by omega
 simp [zq51, h12']
 unfold zq51_l5
 refine ALoop.own 3 e_string 1 rfl ?_
 refine ALoop.own 4 e_string 1 rfl ?_
 rw [List.append_assoc]
 have hcn : ∀ d, (cnames (data.take d)).length ≤ 140 := fun d => by
  have := cn_len (data.take d) (fun D hD => (kd D (List.mem_of_mem_take hD)).2.1)
  rw [List.length_take] at this
  have : min d data.length * 10 ≤ 14 * 10 := Nat.mul_le_mul_right _ (by omega)
  omega
 have hl1 : (H ++ [AB.perm e_string 1 0]).length = H.length + 1 := by simp
 rw [hl1]
 show zq51_l5 (.sl (data.map Dat.cs) .none) (.sl [] (.own H.length)) (.sl [] (.own (H.length + 1))) (.int .i64 0) (H ++ [.perm e_string 1 0, .perm e_string 1 0]) (Out H.length K)
 have hsP : ∀ m n, HSc (H ++ [.perm e_string 1 m, .perm e_string 1 n]) := fun m n => hs.append rfl
 refine zq51_loop5 (Inv := fun q t3 t4 t5 H' => ∃ d : Nat, d ≤ data.length ∧ q = data.length - d ∧ t5 = .int .i64 d ∧ t3 = .sl (strs (dnames (data.take d))) (.own H.length) ∧ t4 = .sl (strs (cnames (data.take d))) (.own (H.length + 1)) ∧ (∀ j (h : j < data.length), j < d → RDat data j data[j]) ∧ H' = H ++ [.perm e_string 1 d, .perm e_string 1 (cnames (data.take d)).length]) data.length ?_ ?_
 ·intro _; exact ⟨0, by omega, by omega, rfl, by simp [dnames, strs], by simp [cnames, strs], by omega, by simp [cnames]⟩
 ·rintro q t3 t4 t5 H' ⟨d, hd, rfl, rfl, rfl, rfl, hok, rfl⟩ hsc hlen hsF Kb hKb
  by_cases hlt : d < data.length
  ·have hbad : ¬ RDat data d data[d] → ∀ J, Out H.length K (.bool false) (H ++ J) := fun h => hF fun hh => h (hh.dats d hlt)
   have hcd := hcn d
   have hds := dnames_snoc hlt
   have hcs := cnames_snoc hlt
   obtain ⟨kn, kc, kcc⟩ := kd _ (List.getElem_mem hlt)
   have hdl : (dnames (data.take d)).length = d := by simp [dnames]; omega
   generalize hD : data[d] = D at *
   have hge : (data.map Dat.cs)[d]?.getD [] = [.str D.name, .int .i64 D.vars, .sl (D.cons.map Con.cs) .none] := by simp [hlt, hD, Dat.cs]
   by_cases hv0 : D.vars < 0
   ·simp [zq51_b5, hlt, hD, Dat.cs, hv0]
    exact hbad (fun h => by have := h.v0; omega) _
   by_cases hv6 : 6 < D.vars
   ·simp [zq51_b5, hlt, hD, Dat.cs, hv0, hv6]
    exact hbad (fun h => by have := h.v6; omega) _
   by_cases hc1 : D.cons.length < 1
   ·have hc1' : (D.cons.length : Int) < 1 := by omega
    simp [zq51_b5, hlt, hD, Dat.cs, hv0, hv6, hc1']
    exact hbad (fun h => by have := h.c1; omega) _
   have hc1' : ¬ (D.cons.length : Int) < 1 := by omega
   by_cases hc8 : 8 < D.cons.length
   ·have hc8' : (8 : Int) < D.cons.length := by omega
    simp [zq51_b5, hlt, hD, Dat.cs, hv0, hv6, hc1', hc8']
    exact hbad (fun h => by have := h.c8; omega) _
   have hc8' : ¬ (8 : Int) < D.cons.length := by omega
   simp [zq51_b5, hlt, hD, Dat.cs, hv0, hv6, hc1', hc8']
   refine zq91_spec _ _ _ ?_
   cases hup : upName D.name with
   | false => simp; exact hbad (fun h => by have := h.up; rw [hup] at this; cases this) _
   | true =>
   simp [buildS_str]
   simp [aAppend, aSrc, aAppTo, hdl]
   refine ⟨by omega, ?_⟩
   rw [← strs_snoc, ← hds]
   refine zq51_loop12 (Inv := fun q t4 t7 H' => ∃ k : Nat, k ≤ D.cons.length ∧ q = D.cons.length - k ∧ t7 = .int .i64 k ∧ t4 = .sl (strs (cnames (data.take d) ++ (D.cons.map Con.name).take k)) (.own (H.length + 1)) ∧ (∀ c ∈ D.cons.take k, RCon data d D.vars c) ∧ H' = H ++ [.perm e_string 1 (d + 1), .perm e_string 1 ((cnames (data.take d)).length + k), .cells [.str D.name, .int .i64 D.vars, .sl (D.cons.map Con.cs) .none]]) D.cons.length ?_ ?_
   ·intro _; exact ⟨0, by omega, by omega, rfl, by simp, by simp, by simp⟩
   ·rintro q t4 t7 H' ⟨k, hk, rfl, rfl, rfl, hck, rfl⟩ hsc1 hlen1 hsF1 Kb1 hKb1
    have hlk : (cnames (data.take d) ++ (D.cons.map Con.name).take k).length = (cnames (data.take d)).length + k := by simp; omega
    by_cases hkl : k < D.cons.length
    ·have hkI : (k : Int) < D.cons.length := by omega
     have hca := con_at hkl
     have hcbad : ¬ RCon data d D.vars D.cons[k] → ∀ J, Out H.length K (.bool false) (H ++ J) := fun h => hbad fun hh => h (hh.cons _ (List.getElem_mem hkl))
     have hns : cnames (data.take d) ++ (D.cons.map Con.name).take (k + 1) = (cnames (data.take d) ++ (D.cons.map Con.name).take k) ++ [(D.cons[k]).name] := by rw [take_snoc (by simpa using hkl)]; simp
     obtain ⟨_, ka, kan⟩ := kcc _ (List.getElem_mem hkl)
     generalize hC : D.cons[k] = C at *
     simp [zq51_b12, hkl, hC, Con.cs]
     refine zq91_spec _ _ _ ?_
     cases hupc : upName C.name with
     | false => simp; exact hcbad (fun h => by have := h.up; rw [hupc] at this; cases this) _
     | true =>
     by_cases ha6 : 6 < C.args.length
     ·have ha6' : (6 : Int) < C.args.length := by omega
      simp [hkl, hC, Con.cs, ha6']
      exact hcbad (fun h => by have := h.len; omega) _
     have ha6' : ¬ (6 : Int) < C.args.length := by omega
     simp [hkl, hC, Con.cs, ha6', buildS_str]
     generalize hA : cnames (data.take d) ++ (D.cons.map Con.name).take k = A at *
     have hAl : A.length = (cnames (data.take d)).length + k := hlk
     simp [aAppend, aSrc, aAppTo, hAl, hkl, hC, Con.cs]
     refine ⟨by omega, ?_⟩
     rw [← strs_snoc, ← hns]
     refine zq51_loop18 (Inv := fun q t95 H' => ∃ i : Nat, i ≤ C.args.length ∧ q = C.args.length - i ∧ t95 = .int .i64 i ∧ (∀ x ∈ C.args.take i, refArg data d D.vars x = true) ∧ H' = H ++ [.perm e_string 1 (d + 1), .perm e_string 1 ((cnames (data.take d)).length + k + 1), .cells [.str D.name, .int .i64 D.vars, .sl (D.cons.map Con.cs) .none]]) C.args.length ?_ ?_
     ·intro _; exact ⟨0, by omega, by omega, rfl, by simp, rfl⟩
     ·rintro q t95 H' ⟨i, hi, rfl, rfl, hok3, rfl⟩ hsc2 hlen2 hsF2 Kb2 hKb2
      by_cases hil : i < C.args.length
      ·have hxn := kan _ (List.getElem_mem hil)
       have habad : refArg data d D.vars C.args[i] = false → ∀ J, Out H.length K (.bool false) (H ++ J) := fun h => hcbad fun hh => by
        have := hh.args _ (List.getElem_mem hil)
        rw [h] at this; cases this
       obtain ⟨x, y, z, hvx, hx, hy, hz⟩ := vt3 C.args[i]
       have good : refArg data d D.vars C.args[i] = true → zq51_j1 (.sl (data.map Dat.cs) .none) (.sl (strs (dnames (data.take (d + 1)))) (.own H.length)) (.sl (strs (cnames (data.take d) ++ (D.cons.map Con.name).take (k + 1))) (.own (H.length + 1))) (.int .i64 d) (.ptr (H.length + 2) 0) (.int .i64 k) (.sl (VT.css C.args) .none) (.int .i64 C.args.length) (.int .i64 i) (H ++ [.perm e_string 1 (d + 1), .perm e_string 1 ((cnames (data.take d)).length + k + 1), .cells [.str D.name, .int .i64 D.vars, .sl (D.cons.map Con.cs) .none], .cells [x, y, z]]) (Out H.length K) Kb Kb1 Kb2 := fun hg => by
        simp [zq51_j1, zq51_j2]
        rw [wrap_in (by omega) (by omega)]
        refine hKb2 _ _ ⟨C.args.length - (i + 1), by omega, Back.at (J := [_]) (H2 := H ++ [.perm e_string 1 (d + 1), .perm e_string 1 ((cnames (data.take d)).length + k + 1), .cells [.str D.name, .int .i64 D.vars, .sl (D.cons.map Con.cs) .none]]) (by simp; rfl) (by simp) hsc2 ?_ ⟨_, rfl, i + 1, by omega, rfl, by simp, mem_take_succ hil hok3 hg, rfl⟩⟩
        simp [zq51_fr18, AV.sc, AV.scV, AV.scA, AV.scB]
       simp [zq51_b18, hil, hvx, hx, hy, hz]
       rw [← hvx]
       refine IsSelf_spec _ _ _ (by omega) _ _ ?_
       cases hself : isSelf d D.vars C.args[i] with
       | true =>
        rw [hvx]
        simp
        exact good (by simp [refArg, hself])
       | false =>
        simp [hvx]
        refine ⟨⟨by omega, fun a _ => rfl⟩, ?_⟩
        rw [← List.map_take, ← hvx]
        refine aPureX_call (.bool (tyValid (data.take d) D.vars C.args[i])) (fun J => zq52_spec (data.take d) (by simp; omega) _ _ (by omega) _ _ ⟨rfl, rfl⟩) ?_
        cases hty : tyValid (data.take d) D.vars C.args[i] with
        | false => simp; exact habad (by simp [refArg, hself, hty]) _
        | true =>
         rw [hvx]
         simp
         exact good (by simp [refArg, hty])
      ·obtain rfl : i = C.args.length := by omega
       rw [List.take_length] at *
       simp [zq51_b18]
       rw [wrap_in (by omega) (by omega)]
       refine hKb1 _ _ ⟨D.cons.length - (k + 1), by omega, Back.here (by simp) hsc2 ?_ ⟨_, _, rfl, k + 1, by omega, rfl, by simp, rfl, ?_, by simp [Nat.add_assoc]⟩⟩
       ·simp [zq51_fr12, AV.sc, AV.scV, AV.scA, AV.scB]
       ·exact mem_take_succ hkl hck (by rw [hC]; exact ⟨hupc, by omega, hok3⟩)
    ·obtain rfl : k = D.cons.length := by omega
     rw [List.take_length] at *
     simp [zq51_b12]
     rw [wrap_in (by omega) (by omega)]
     refine hKb _ _ ⟨data.length - (d + 1), by omega, Back.at (J := [_]) (H2 := H ++ [.perm e_string 1 (d + 1), .perm e_string 1 (cnames (data.take (d + 1))).length]) (by rw [hcs]; simp; rfl) (by simp) (hsP _ _) ?_ ⟨_, _, _, rfl, d + 1, by omega, rfl, by simp, rfl, by rw [hcs]; exact congrArg (fun l => AV.sl (strs (cnames (data.take d) ++ l)) (.own (H.length + 1))) (List.take_of_length_le (Nat.le_of_eq (List.length_map _))), fun j hj hji => ?_, rfl⟩⟩
     ·simp [zq51_fr5, AV.sc, AV.scV, AV.scA, AV.scB]
     ·by_cases hjd : j = d
      ·subst hjd; rw [hD]; exact ⟨by omega, by omega, by omega, by omega, hup, hck⟩
      ·exact hok j hj (by omega)
  ·obtain rfl : d = data.length := by omega
   rw [List.take_length] at *
   have hdn : (dnames data).length = data.length := by simp [dnames]
   have hcn' := hcn data.length
   rw [List.take_length] at hcn'
   simp [zq51_b5]
   refine repeats_tok _ (by omega) _ _ ?_
   cases hr : repeats (dnames data) with
   | true =>
    simp
    refine hT _ ?_ _
    simp
    intro h
    have := repeats_nodup h.names
    rw [hr] at this; cases this
   | false =>
    simp
    refine repeats_tok _ (by omega) _ _ ?_
    refine hT _ ?_ _
    simp only [repeats, Bool.not_eq_false', decide_eq_true_eq, Bool.not_not] at hr ⊢
    exact ⟨fun h => ⟨by omega, fun j hj => hok j hj hj, hr, h⟩, fun h => h.cons⟩
mutual
theorem same_iff : ∀ v w : VT, v.same w = true ↔ v = w
 | .mk k n ks, .mk k' n' ks' => by
  have h := sameL_iff ks ks'
  simp only [VT.same, Bool.and_eq_true, beq_iff_eq, VT.mk.injEq, h, and_assoc]
theorem sameL_iff : ∀ v w : List VT, VT.sameL v w = true ↔ v = w
 | v :: vs, w :: ws => by
  have h1 := same_iff v w
  have h2 := sameL_iff vs ws
  simp only [VT.sameL, Bool.and_eq_true, List.cons.injEq, h1, h2]
 | [], [] => by simp [VT.sameL]
 | [], _ :: _ => by simp [VT.sameL]
 | _ :: _, [] => by simp [VT.sameL]
end
theorem take_get {α : Type} (l : List α) (d n : Nat) : (l.take d)[n]? = if n < d then l[n]? else none := by
 by_cases h : n < d
 ·rw [if_pos h, List.getElem?_take_of_lt h]
 ·rw [if_neg h, List.getElem?_eq_none (by rw [List.length_take]; omega)]
theorem shape_ne {data : List Dat} {d : Nat} {vars k n : Int} {len : Nat} (h : (k == 5 && n == (d : Int)) = false) : shapeOk (data.take (d + 1)) vars k n len = shapeOk (data.take d) vars k n len := by
 unfold shapeOk
 by_cases h5 : k = 5
 ·subst h5
  have hn : n ≠ d := by simpa using h
  simp only [take_get]
  by_cases h0 : 0 ≤ n
  ·have : (n.toNat < d + 1) = (n.toNat < d) := by
    apply propext; omega
   simp [this]
  ·simp [h0]
 ·have : (k == 5) = false := by simpa using h5
  simp [this]
mutual
theorem tyOk_ne (data : List Dat) (d : Nat) (vars : Int) : ∀ t : VT, mentions d t = false → tyOk (data.take (d + 1)) vars t = tyOk (data.take d) vars t
 | .mk k n ks => by
  intro h
  simp only [mentions, Bool.or_eq_false_iff] at h
  rw [tyOk, tyOk, shape_ne h.1, tyOkL_ne data d vars ks h.2]
theorem tyOkL_ne (data : List Dat) (d : Nat) (vars : Int) : ∀ l : List VT, mentionsL d l = false → tyOkL (data.take (d + 1)) vars l = tyOkL (data.take d) vars l
 | [] => fun _ => rfl
 | t :: ts => by
  intro h
  simp only [mentionsL, Bool.or_eq_false_iff] at h
  rw [tyOkL, tyOkL, tyOk_ne data d vars t h.1, tyOkL_ne data d vars ts h.2]
end
mutual
theorem ment_of (data : List Dat) (d : Nat) (vars : Int) : ∀ t : VT, tyOk (data.take d) vars t = true → mentions d t = false
 | .mk k n ks => by
  intro h
  rw [tyOk, Bool.and_eq_true] at h
  rw [mentions, mentL_of data d vars ks h.2, Bool.or_false]
  by_cases h5 : k = 5
  ·subst h5
   have h1 := h.1
   simp [shapeOk, take_get] at h1
   obtain ⟨h0, h2⟩ := h1
   by_cases hn : n = d
   ·subst hn
    simp at h2
   ·simpa using hn
  ·have : (k == 5) = false := by simpa using h5
   simp [this]
theorem mentL_of (data : List Dat) (d : Nat) (vars : Int) : ∀ l : List VT, tyOkL (data.take d) vars l = true → mentionsL d l = false
 | [] => fun _ => rfl
 | t :: ts => by
  intro h
  rw [tyOkL, Bool.and_eq_true] at h
  rw [mentionsL, ment_of data d vars t h.1, mentL_of data d vars ts h.2]; rfl
end
theorem selfL_ok (data : List Dat) (vars : Int) : ∀ (l : List VT) (i : Nat), isSelfL l i = true → ((i + l.length : Nat) : Int) ≤ vars → tyOkL data vars l = true ∧ VT.nodesL l = l.length
 | [], i, _, _ => ⟨rfl, rfl⟩
 | .mk k n ks :: l, i, h, hv => by
  rw [isSelfL, Bool.and_eq_true] at h
  obtain ⟨h1, h2⟩ := h
  simp only [isVarAt, Bool.and_eq_true, beq_iff_eq] at h1
  obtain ⟨⟨rfl, rfl⟩, h3⟩ := h1
  have hk : ks = [] := List.eq_nil_of_length_eq_zero h3
  subst hk
  obtain ⟨h4, h5⟩ := selfL_ok data vars l (i + 1) h2 (by simp at hv ⊢; omega)
  simp at hv
  constructor
  ·simp [tyOkL, tyOk, shapeOk, h4]
   omega
  ·simp [VT.nodesL, VT.nodes, h5]; omega
theorem arg_eq (data : List Dat) (d : Nat) (hd : d < data.length) (h0 : 0 ≤ (data[d]).vars) (h6 : (data[d]).vars ≤ 6) (t : VT) : argOk data d (data[d]).vars t = refArg data d (data[d]).vars t := by
 unfold argOk refArg
 cases hs : isSelf d (data[d]).vars t with
 | true =>
  obtain ⟨k, n, ks⟩ := t
  simp only [isSelf, Bool.and_eq_true, beq_iff_eq] at hs
  obtain ⟨⟨⟨rfl, rfl⟩, hl⟩, hs⟩ := hs
  obtain ⟨h1, h2⟩ := selfL_ok (data.take (d + 1)) (data[d]).vars ks 0 hs (by simp; omega)
  have hty : tyValid (data.take (d + 1)) (data[d]).vars (.mk 5 d ks) = true := by
   simp [tyValid, tyOk, h1, VT.nodes, h2, shapeOk, take_get, hd, hl]
   omega
  simp [hty]
 | false =>
  simp only [Bool.false_or]
  unfold tyValid
  cases hm : mentions d t with
  | false => rw [tyOk_ne data d _ t hm]; simp
  | true =>
   have : tyOk (data.take d) (data[d]).vars t = false := by
    cases h : tyOk (data.take d) (data[d]).vars t with
    | false => rfl
    | true => rw [ment_of data d _ t h] at hm; cases hm
   simp [this]
theorem datsOk_iff (data : List Dat) : ∀ (l : List Dat) (d : Nat), datsOk data l d = true ↔ ∀ j (h : j < l.length), datOk data (d + j) l[j] = true
 | [], d => by simp [datsOk]
 | D :: l, d => by
  rw [datsOk, Bool.and_eq_true, datsOk_iff data l (d + 1)]
  constructor
  ·rintro ⟨h1, h2⟩ j hj
   cases j with
   | zero => exact h1
   | succ j =>
    have := h2 j (by simpa using hj)
    rw [show d + (j + 1) = d + 1 + j by omega]
    simpa using this
  ·intro h
   refine ⟨h 0 (by simp), fun j hj => ?_⟩
   have := h (j + 1) (by simpa using hj)
   rw [show d + (j + 1) = d + 1 + j by omega] at this
   simpa using this
theorem data_iff (data : List Dat) : dataOk data = true ↔ RData data := by
 unfold dataOk
 simp only [Bool.and_eq_true, decide_eq_true_eq, datsOk_iff, repeats, Bool.not_not, Nat.zero_add]
 constructor
 ·rintro ⟨⟨⟨h1, h2⟩, h3⟩, h4⟩
  refine ⟨h1, fun d hd => ?_, h3, h4⟩
  have := h2 d hd
  simp only [datOk, Bool.and_eq_true, decide_eq_true_eq, List.all_eq_true] at this
  obtain ⟨⟨⟨⟨⟨q1, q2⟩, q3⟩, q4⟩, q5⟩, q6⟩ := this
  refine ⟨q2, q3, q4, q5, q1, fun c hc => ?_⟩
  have := q6 c hc
  simp only [conOk, Bool.and_eq_true, decide_eq_true_eq, List.all_eq_true] at this
  exact ⟨this.1, this.2.1, fun x hx => by rw [← arg_eq data d hd q2 q3 x]; exact this.2.2 x hx⟩
 ·rintro ⟨h1, h2, h3, h4⟩
  refine ⟨⟨⟨h1, fun d hd => ?_⟩, h3⟩, h4⟩
  obtain ⟨q2, q3, q4, q5, q1, q6⟩ := h2 d hd
  simp only [datOk, Bool.and_eq_true, decide_eq_true_eq, List.all_eq_true]
  refine ⟨⟨⟨⟨⟨q1, q2⟩, q3⟩, q4⟩, q5⟩, fun c hc => ?_⟩
  obtain ⟨r1, r2, r3⟩ := q6 c hc
  simp only [conOk, Bool.and_eq_true, decide_eq_true_eq, List.all_eq_true]
  exact ⟨r1, r2, fun x hx => by rw [arg_eq data d hd q2 q3 x]; exact r3 x hx⟩
end Go.Proofs.YtfpmdpldabopjaaGreatDoor
namespace Go.Proofs.YtfpmdpldabopjaaGreatDoor
open Go Go.Abs
set_option maxRecDepth 100000
def zq84_M (_ : Nat) : List Bool := []
noncomputable def zq84_c : Code := Tryz.f86.body.getD .skip
noncomputable def zq84_r : List ResultVar := Tryz.f86.results.toList
def zq84 (t0 : AV) (H : Heap) (K : Kt) : Prop :=
 aBox t0 H fun t1 H =>
 aFld 0 t1 fun t3 =>
 aLoad false 1 t3 H fun t4 =>
 ACalls Tryz.prog n_zq146 [t4] H fun t5 H =>
 aGuardJ t5 true H (fun K' => aLoad true 4 t1 H (K' · H)) fun t7 H =>
 aGuardJ t5 true H (fun K' => ACalls Tryz.prog n_zq147 [t7] H K') fun t8 H =>
 aPick t5 t8 (.bool false) fun t9 =>
 aGuardJ t9 true H (fun K' => aLoad true 4 t1 H (K' · H)) fun t11 H =>
 aGuardJ t9 true H (fun K' => ACalls Tryz.prog n_zq148 [t11] H K') fun t12 H =>
 aPick t9 t12 (.bool false) fun t13 =>
 aGuardJ t13 true H (fun K' => aLoad true 4 t1 H (K' · H)) fun t15 H =>
 aGuardJ t13 true H (fun K' => ACalls Tryz.prog n_zq149 [t15] H K') fun t16 H =>
 aPick t13 t16 (.bool false) fun t17 =>
 aGuardJ t17 true H (fun K' => aLoad true 4 t1 H (K' · H)) fun t19 H =>
 aGuardJ t17 true H (fun K' => ACalls Tryz.prog n_zq150 [t19] H K') fun t20 H =>
 aPick t17 t20 (.bool false) fun t21 =>
 aGuardJ t21 true H (fun K' => aLoad true 4 t1 H (K' · H)) fun t23 H =>
 aGuardJ t21 true H (fun K' => ACalls Tryz.prog n_zq151 [t23] H K') fun t24 H =>
 aPick t21 t24 (.bool false) fun t25 =>
 aGuardJ t25 true H (fun K' => aLoad true 4 t1 H (K' · H)) fun t27 H =>
 aGuardJ t25 true H (fun K' => ACalls Tryz.prog n_zq152 [t27] H K') fun t28 H =>
 aPick t25 t28 (.bool false) fun t29 =>
 K t29 H
theorem zq84_eq (t0 : AV) (H : Heap) (K : Kt) : awp Tryz.prog zq84_M zq84_c (retQ Tryz.prog zq84_r K) (t0 :: List.replicate 29 .unk) H = zq84 t0 H K := by kernel_rfl
theorem zq84_ok {t0 : AV} {H : Heap} {K : Kt} (h : HSc H → zq84 t0 H K) : ACalls Tryz.prog n_zq84 [t0] H K :=
 acalls_body (M := zq84_M) Tryz.func86 (c := zq84_c) (by kernel_rfl) (fun hs => (zq84_eq t0 H K).mpr (h hs))
def zq147_M (_ : Nat) : List Bool := []
noncomputable def zq147_c : Code := Tryz.f149.body.getD .skip
noncomputable def zq147_r : List ResultVar := Tryz.f149.results.toList
def zq147 (t0 : AV) (H : Heap) (K : Kt) : Prop :=
 aBox t0 H fun t1 H =>
 aFld 2 t1 fun t3 =>
 aLoad false 1 t3 H fun t4 =>
 aLen 1 t4 fun t5 =>
 aBin .leq false t5 (.int .i64 3000) fun t6 =>
 aGuardJ t6 true H (fun K' => aFld 2 t1 (K' · H)) fun t8 H =>
 aGuardJ t6 true H (fun K' => aLoad false 1 t8 H (K' · H)) fun t9 H =>
 aGuardJ t6 true H (fun K' => aClos n_zq189 [t1] (K' · H)) fun t10 H =>
 aGuardJ t6 true H (fun K' => ACalls Tryz.prog n_zq144 [t9, t10] H K') fun t11 H =>
 aGuardJ t6 true H (fun K' => aUn .not t11 (K' · H)) fun t12 H =>
 aPick t6 t12 (.bool false) fun t13 =>
 K t13 H
theorem zq147_eq (t0 : AV) (H : Heap) (K : Kt) : awp Tryz.prog zq147_M zq147_c (retQ Tryz.prog zq147_r K) (t0 :: List.replicate 13 .unk) H = zq147 t0 H K := by kernel_rfl
theorem zq147_ok {t0 : AV} {H : Heap} {K : Kt} (h : HSc H → zq147 t0 H K) : ACalls Tryz.prog n_zq147 [t0] H K :=
 acalls_body (M := zq147_M) Tryz.func149 (c := zq147_c) (by kernel_rfl) (fun hs => (zq147_eq t0 H K).mpr (h hs))
def zq148_M : Nat → List Bool
 | 6 => rl false [1,1,1,2,14,3,59]
 | _ => []
noncomputable def zq148_c : Code := Tryz.f150.body.getD .skip
noncomputable def zq148_r : List ResultVar := Tryz.f150.results.toList
def zq148_fr6 (t1 t3 t4 t19 t20 t21 : AV) : List AV := ux 1 (t1 :: ux 1 (t3 :: t4 :: ux 14 (t19 :: t20 :: t21 :: ux 59 [])))
def zq148_m6 : List Bool := zq148_M 6
noncomputable def zq148_c6 : Code := codeAt [1, 1, 1, 1, 0, 1, 0, 0] zq148_c
def zq148_Q6 (K : Kt) : AExit → List AV → Heap → Prop := contAt Tryz.prog zq148_M [1, 1, 1, 1, 0, 1, 0] zq148_c (retQ Tryz.prog zq148_r K)
def zq148_l6 (t1 t3 t4 t19 t20 t21 : AV) (H : Heap) (K : Kt) : Prop := ALoop Tryz.prog zq148_c6 (zq148_Q6 K) (zq148_fr6 t1 t3 t4 t19 t20 t21) H
def zq148_j1 (t1 t3 t4 t6 t19 t20 t21 : AV) (H : Heap) (K : Kt) (Kb6 : Lt) : Prop :=
 aFld 0 t6 fun t42 =>
 aLoad false 1 t42 H fun t43 =>
 aMUpd t3 t43 (.bool true) H fun H =>
 aFld 1 t6 fun t44 =>
 aLoad false 1 t44 H fun t45 =>
 aLen 1 t45 fun t46 =>
 aBin .gtr false t46 (.int .i64 6) fun t47 =>
 aGuardJ t47 false H (fun K' => aFld 0 t1 (K' · H)) fun t49 H =>
 aGuardJ t47 false H (fun K' => aLoad false 1 t49 H (K' · H)) fun t50 H =>
 aGuardJ t47 false H (fun K' => aFld 3 t6 (K' · H)) fun t51 H =>
 aGuardJ t47 false H (fun K' => aLoad true 3 t51 H (K' · H)) fun t52 H =>
 aGuardJ t47 false H (fun K' => ACalls Tryz.prog n_zq85 [t50, t52, (.int .i64 0)] H K') fun t53 H =>
 aGuardJ t47 false H (fun K' => aUn .not t53 (K' · H)) fun t54 H =>
 aPick t47 (.bool true) t54 fun t55 =>
 aTest t55
 (K (.bool false) H)
 (aPure H (fun K' => aFld 6 t6 (K' · H)) fun t56 =>
 aPure H (fun K' => aLoadC false 1 t56 H (K' · H)) fun t57 =>
 aPure H (fun K' => aBin .lss false t57 (.int .i64 0) (K' · H)) fun t58 =>
 aPure H (fun K' => K' t58 H) fun t59 =>
 aGuardJ t59 false H (fun K' => aPure H (fun K'' => aFld 6 t6 (K'' · H)) (K' · H)) fun t60 H =>
 aGuardJ t59 false H (fun K' => aPure H (fun K'' => aLoadC false 1 t60 H (K'' · H)) (K' · H)) fun t61 H =>
 aGuardJ t59 false H (fun K' => aPure H (fun K'' => aFld 3 t1 (K'' · H)) (K' · H)) fun t62 H =>
 aGuardJ t59 false H (fun K' => aPure H (fun K'' => aLoadC false 1 t62 H (K'' · H)) (K' · H)) fun t63 H =>
 aGuardJ t59 false H (fun K' => aPure H (fun K'' => aLen 1 t63 (K'' · H)) (K' · H)) fun t64 H =>
 aGuardJ t59 false H (fun K' => aPure H (fun K'' => aBin .geq false t61 t64 (K'' · H)) (K' · H)) fun t65 H =>
 aPure H (fun K' => aPick t59 (.bool true) t65 (K' · H)) fun t66 =>
 aPure H (fun K' => K' t66 H) fun t67 =>
 aGuardJ t67 false H (fun K' => aPure H (fun K'' => aFld 3 t1 (K'' · H)) (K' · H)) fun t68 H =>
 aGuardJ t67 false H (fun K' => aPure H (fun K'' => aLoadC false 1 t68 H (K'' · H)) (K' · H)) fun t69 H =>
 aGuardJ t67 false H (fun K' => aPure H (fun K'' => aFld 6 t6 (K'' · H)) (K' · H)) fun t70 H =>
 aGuardJ t67 false H (fun K' => aPure H (fun K'' => aLoadC false 1 t70 H (K'' · H)) (K' · H)) fun t71 H =>
 aGuardJ t67 false H (fun K' => aPure H (fun K'' => aIdxA 8 t69 t71 (K'' · H)) (K' · H)) fun t72 H =>
 aGuardJ t67 false H (fun K' => aPure H (fun K'' => aFld 5 t72 (K'' · H)) (K' · H)) fun t73 H =>
 aGuardJ t67 false H (fun K' => aPure H (fun K'' => aLoadC true 3 t73 H (K'' · H)) (K' · H)) fun t74 H =>
 aGuardJ t67 false H (fun K' => aPure H (fun K'' => aFld 3 t6 (K'' · H)) (K' · H)) fun t75 H =>
 aGuardJ t67 false H (fun K' => aPure H (fun K'' => aLoadC true 3 t75 H (K'' · H)) (K' · H)) fun t76 H =>
 aGuardJ t67 false H (fun K' => aPureX H (fun H K'' => ACalls Tryz.prog n_zq190 [t74, t76] H K'') (K' · H)) fun t77 H =>
 aGuardJ t67 false H (fun K' => aPure H (fun K'' => aUn .not t77 (K'' · H)) (K' · H)) fun t78 H =>
 aPure H (fun K' => aPick t67 (.bool true) t78 (K' · H)) fun t79 =>
 aTest t79
 (K (.bool false) H)
 (aBin .add false t21 (.int .i64 1) fun t80 =>
 Kb6 (zq148_fr6 t1 t3 t4 t19 t20 t80) H))
def zq148_b6 (t1 t3 t4 t19 t20 t21 : AV) (H : Heap) (K : Kt) (Kb6 : Lt) : Prop :=
 aBin .lss false t21 t20 fun t22 =>
 aTest t22
 (aIdxA 7 t19 t21 fun t23 =>
 aLoad true 7 t23 H fun t24 =>
 aNew [(.str []), .snil, .snil, (.int .i64 0), (.int .i64 0), .snil, (.int .i64 0)] H fun t6 H =>
 aStore 7 t6 t24 H fun H =>
 aFld 0 t6 fun t25 =>
 aLoad false 1 t25 H fun t26 =>
 aBin .eql false t26 (.str []) fun t27 =>
 aTest t27
 (zq148_j1 t1 t3 (.bool true) t6 t19 t20 t21 H K Kb6)
 (aGuardJ t4 false H (fun K' => K' t3 H) fun t30 H =>
 aGuardJ t4 false H (fun K' => aFld 0 t6 (K' · H)) fun t31 H =>
 aGuardJ t4 false H (fun K' => aLoad false 1 t31 H (K' · H)) fun t32 H =>
 aGuardJ t4 false H (fun K' => aLkp (.bool false) false t30 t32 H (K' · H)) fun t33 H =>
 aPick t4 (.bool true) t33 fun t34 =>
 aGuardJ t34 false H (fun K' => aFld 2 t6 (K' · H)) fun t36 H =>
 aGuardJ t34 false H (fun K' => aLoad false 1 t36 H (K' · H)) fun t37 H =>
 aGuardJ t34 false H (fun K' => aLen 1 t37 (K' · H)) fun t38 H =>
 aGuardJ t34 false H (fun K' => aBin .gtr false t38 (.int .i64 0) (K' · H)) fun t39 H =>
 aPick t34 (.bool true) t39 fun t40 =>
 aTest t40
 (K (.bool false) H)
 (zq148_j1 t1 t3 t4 t6 t19 t20 t21 H K Kb6)))
 (K (.bool true) H)
def zq148 (t0 : AV) (H : Heap) (K : Kt) : Prop :=
 aBox t0 H fun t1 H =>
 aFld 1 t1 fun t7 =>
 aLoad false 1 t7 H fun t8 =>
 aLen 1 t8 fun t9 =>
 aBin .gtr false t9 (.int .i64 64) fun t10 =>
 aGuardJ t10 false H (fun K' => aFld 3 t1 (K' · H)) fun t12 H =>
 aGuardJ t10 false H (fun K' => aLoad false 1 t12 H (K' · H)) fun t13 H =>
 aGuardJ t10 false H (fun K' => aLen 1 t13 (K' · H)) fun t14 H =>
 aGuardJ t10 false H (fun K' => aBin .gtr false t14 (.int .i64 3000) (K' · H)) fun t15 H =>
 aPick t10 (.bool true) t15 fun t16 =>
 aTest t16
 (K (.bool false) H)
 (aMkMap H fun t17 H =>
 aFld 1 t1 fun t18 =>
 aLoad false 1 t18 H fun t19 =>
 aLen 1 t19 fun t20 =>
 zq148_l6 t1 t17 (.bool false) t19 t20 (.int .i64 0) H K)
theorem zq148_b6_eq (t1 t3 t4 t19 t20 t21 : AV) (H : Heap) (K : Kt) (Kb6 : Lt) : awp Tryz.prog zq148_M zq148_c6 (roundQ zq148_m6 Kb6 (zq148_Q6 K)) (zq148_fr6 t1 t3 t4 t19 t20 t21) H = zq148_b6 t1 t3 t4 t19 t20 t21 H K Kb6 := by kernel_rfl
theorem zq148_loop6 {t1 t3 t4 t19 t20 t21 : AV} {H : Heap} {K : Kt} (Inv : Nat → AV → AV → Heap → Prop) (n : Nat) (h0 : HSc H → Inv n t4 t21 H)
  (round : ∀ n t4 t21 H', Inv n t4 t21 H' → HSc H' → H.length ≤ H'.length → (zq148_fr6 t1 t3 t4 t19 t20 t21).all (AV.sc H'.length) = true → ∀ Kb6 : Lt, (∀ F'' H'', (∃ n', n' < n ∧ Back H.length (fun F2 H2 => ∃ t4 t21, F2 = zq148_fr6 t1 t3 t4 t19 t20 t21 ∧ Inv n' t4 t21 H2) F'' H'') → Kb6 F'' H'') → zq148_b6 t1 t3 t4 t19 t20 t21 H' K Kb6) : zq148_l6 t1 t3 t4 t19 t20 t21 H K :=
 aloop (M := zq148_M) zq148_m6 (fun n F H => ∃ t4 t21, F = zq148_fr6 t1 t3 t4 t19 t20 t21 ∧ Inv n t4 t21 H) n (fun hs _ => ⟨t4, t21, rfl, h0 hs⟩) (fun n F H' ⟨t4, t21, hF, hI⟩ h1 h2 h3 => by subst hF; rw [zq148_b6_eq]; exact round n t4 t21 H' hI h1 h2 h3 _ (fun _ _ h => h))
theorem zq148_eq (t0 : AV) (H : Heap) (K : Kt) : awp Tryz.prog zq148_M zq148_c (retQ Tryz.prog zq148_r K) (t0 :: List.replicate 80 .unk) H = zq148 t0 H K := by kernel_rfl
theorem zq148_ok {t0 : AV} {H : Heap} {K : Kt} (h : HSc H → zq148 t0 H K) : ACalls Tryz.prog n_zq148 [t0] H K :=
 acalls_body (M := zq148_M) Tryz.func150 (c := zq148_c) (by kernel_rfl) (fun hs => (zq148_eq t0 H K).mpr (h hs))
def zq149_M : Nat → List Bool
 | 5 => rl false [1,1,2,2,12,3,54]
 | 11 => rl false [1,1,2,2,25,3,41]
 | 16 => rl false [1,1,2,2,2,1,22,3,12,3,26]
 | _ => []
noncomputable def zq149_c : Code := Tryz.f151.body.getD .skip
noncomputable def zq149_r : List ResultVar := Tryz.f151.results.toList
def zq149_fr5 (t1 t4 t5 t18 t19 t20 : AV) : List AV := ux 1 (t1 :: ux 2 (t4 :: t5 :: ux 12 (t18 :: t19 :: t20 :: ux 54 [])))
def zq149_m5 : List Bool := zq149_M 5
noncomputable def zq149_c5 : Code := codeAt [1, 1, 1, 1, 0, 1, 0, 0] zq149_c
def zq149_Q5 (K : Kt) : AExit → List AV → Heap → Prop := contAt Tryz.prog zq149_M [1, 1, 1, 1, 0, 1, 0] zq149_c (retQ Tryz.prog zq149_r K)
def zq149_l5 (t1 t4 t5 t18 t19 t20 : AV) (H : Heap) (K : Kt) : Prop := ALoop Tryz.prog zq149_c5 (zq149_Q5 K) (zq149_fr5 t1 t4 t5 t18 t19 t20) H
def zq149_fr11 (t1 t4 t5 t31 t32 t33 : AV) : List AV := ux 1 (t1 :: ux 2 (t4 :: t5 :: ux 25 (t31 :: t32 :: t33 :: ux 41 [])))
def zq149_m11 : List Bool := zq149_M 11
noncomputable def zq149_c11 : Code := codeAt [1, 1, 1, 1, 1, 0, 1, 0, 0] zq149_c
def zq149_Q11 (K : Kt) : AExit → List AV → Heap → Prop := contAt Tryz.prog zq149_M [1, 1, 1, 1, 1, 0, 1, 0] zq149_c (retQ Tryz.prog zq149_r K)
def zq149_l11 (t1 t4 t5 t31 t32 t33 : AV) (H : Heap) (K : Kt) : Prop := ALoop Tryz.prog zq149_c11 (zq149_Q11 K) (zq149_fr11 t1 t4 t5 t31 t32 t33) H
def zq149_fr16 (t1 t4 t5 t8 t31 t32 t33 t46 t47 t48 : AV) : List AV := ux 1 (t1 :: ux 2 (t4 :: t5 :: ux 2 (t8 :: ux 22 (t31 :: t32 :: t33 :: ux 12 (t46 :: t47 :: t48 :: ux 26 [])))))
noncomputable def zq149_c16 : Code := codeAt [1, 1, 0, 0, 1, 1, 1, 0, 0] zq149_c11
def zq149_Q16 (K : Kt) (Kb11 : Lt) : AExit → List AV → Heap → Prop := contAt Tryz.prog zq149_M [1, 1, 0, 0, 1, 1, 1, 0] zq149_c11 (roundQ zq149_m11 Kb11 (zq149_Q11 K))
def zq149_l16 (t1 t4 t5 t8 t31 t32 t33 t46 t47 t48 : AV) (H : Heap) (K : Kt) (Kb11 : Lt) : Prop := ALoop Tryz.prog zq149_c16 (zq149_Q16 K Kb11) (zq149_fr16 t1 t4 t5 t8 t31 t32 t33 t46 t47 t48) H
def zq149_b11 (t1 t4 t5 t31 t32 t33 : AV) (H : Heap) (K : Kt) (Kb11 : Lt) : Prop :=
 aBin .lss false t33 t32 fun t34 =>
 aTest t34
 (aIdxA 8 t31 t33 fun t36 =>
 aLoad true 8 t36 H fun t37 =>
 aNew [(.int .i64 0), (.int .i64 0), .snil, .snil, .snil, (.int .i64 0), (.int .i64 0), .snil] H fun t9 H =>
 aStore 8 t9 t37 H fun H =>
 aFld 3 t9 fun t38 =>
 aLoad false 1 t38 H fun t39 =>
 aLen 1 t39 fun t40 =>
 aFld 4 t9 fun t41 =>
 aLoad false 1 t41 H fun t42 =>
 aLen 1 t42 fun t43 =>
 aBin .neq false t40 t43 fun t44 =>
 aTest t44
 (K (.bool false) H)
 (aFld 4 t9 fun t45 =>
 aLoad false 1 t45 H fun t46 =>
 aLen 1 t46 fun t47 =>
 zq149_l16 t1 t4 t5 t33 t31 t32 t33 t46 t47 (.int .i64 0) H K Kb11))
 (aLoad false 1 t4 H fun t70 =>
 aFld 3 t1 fun t71 =>
 aLoad false 1 t71 H fun t72 =>
 aLen 1 t72 fun t73 =>
 aBin .eql false t70 t73 fun t74 =>
 K t74 H)
def zq149_b5 (t1 t4 t5 t18 t19 t20 : AV) (H : Heap) (K : Kt) (Kb5 : Lt) : Prop :=
 aBin .lss false t20 t19 fun t21 =>
 aTest t21
 (aIdxA 7 t18 t20 fun t22 =>
 aLoad true 7 t22 H fun t23 =>
 aNew [(.str []), .snil, .snil, (.int .i64 0), (.int .i64 0), .snil, (.int .i64 0)] H fun t7 H =>
 aStore 7 t7 t23 H fun H =>
 aFld 6 t7 fun t25 =>
 aLoad false 1 t25 H fun t26 =>
 aCallV Tryz.prog t5 [t26] H fun t27 H =>
 aUn .not t27 fun t28 =>
 aTest t28
 (K (.bool false) H)
 (aBin .add false t20 (.int .i64 1) fun t29 =>
 Kb5 (zq149_fr5 t1 t4 t5 t18 t19 t29) H))
 (aFld 3 t1 fun t30 =>
 aLoad false 1 t30 H fun t31 =>
 aLen 1 t31 fun t32 =>
 zq149_l11 t1 t4 t5 t31 t32 (.int .i64 0) H K)
def zq149 (t0 : AV) (H : Heap) (K : Kt) : Prop :=
 aBox t0 H fun t1 H =>
 aFld 3 t1 fun t12 =>
 aLoad false 1 t12 H fun t13 =>
 aLen 1 t13 fun t14 =>
 aMake 1 [(.bool false)] t14 t14 H fun t15 H =>
 aNew [.snil] H fun t3 H =>
 aStore 1 t3 t15 H fun H =>
 aNew [(.int .i64 0)] H fun t4 H =>
 aStore 1 t4 (.int .i64 0) H fun H =>
 aClos n_zq191 [t3, t4] fun t16 =>
 aFld 1 t1 fun t17 =>
 aLoad false 1 t17 H fun t18 =>
 aLen 1 t18 fun t19 =>
 zq149_l5 t1 t4 t16 t18 t19 (.int .i64 0) H K
theorem zq149_b11_eq (t1 t4 t5 t31 t32 t33 : AV) (H : Heap) (K : Kt) (Kb11 : Lt) : awp Tryz.prog zq149_M zq149_c11 (roundQ zq149_m11 Kb11 (zq149_Q11 K)) (zq149_fr11 t1 t4 t5 t31 t32 t33) H = zq149_b11 t1 t4 t5 t31 t32 t33 H K Kb11 := by kernel_rfl
theorem zq149_loop11 {t1 t4 t5 t31 t32 t33 : AV} {H : Heap} {K : Kt} (Inv : Nat → AV → Heap → Prop) (n : Nat) (h0 : HSc H → Inv n t33 H)
  (round : ∀ n t33 H', Inv n t33 H' → HSc H' → H.length ≤ H'.length → (zq149_fr11 t1 t4 t5 t31 t32 t33).all (AV.sc H'.length) = true → ∀ Kb11 : Lt, (∀ F'' H'', (∃ n', n' < n ∧ Back H.length (fun F2 H2 => ∃ t33, F2 = zq149_fr11 t1 t4 t5 t31 t32 t33 ∧ Inv n' t33 H2) F'' H'') → Kb11 F'' H'') → zq149_b11 t1 t4 t5 t31 t32 t33 H' K Kb11) : zq149_l11 t1 t4 t5 t31 t32 t33 H K :=
 aloop (M := zq149_M) zq149_m11 (fun n F H => ∃ t33, F = zq149_fr11 t1 t4 t5 t31 t32 t33 ∧ Inv n t33 H) n (fun hs _ => ⟨t33, rfl, h0 hs⟩) (fun n F H' ⟨t33, hF, hI⟩ h1 h2 h3 => by subst hF; rw [zq149_b11_eq]; exact round n t33 H' hI h1 h2 h3 _ (fun _ _ h => h))
theorem zq149_b5_eq (t1 t4 t5 t18 t19 t20 : AV) (H : Heap) (K : Kt) (Kb5 : Lt) : awp Tryz.prog zq149_M zq149_c5 (roundQ zq149_m5 Kb5 (zq149_Q5 K)) (zq149_fr5 t1 t4 t5 t18 t19 t20) H = zq149_b5 t1 t4 t5 t18 t19 t20 H K Kb5 := by kernel_rfl
theorem zq149_loop5 {t1 t4 t5 t18 t19 t20 : AV} {H : Heap} {K : Kt} (Inv : Nat → AV → Heap → Prop) (n : Nat) (h0 : HSc H → Inv n t20 H)
  (round : ∀ n t20 H', Inv n t20 H' → HSc H' → H.length ≤ H'.length → (zq149_fr5 t1 t4 t5 t18 t19 t20).all (AV.sc H'.length) = true → ∀ Kb5 : Lt, (∀ F'' H'', (∃ n', n' < n ∧ Back H.length (fun F2 H2 => ∃ t20, F2 = zq149_fr5 t1 t4 t5 t18 t19 t20 ∧ Inv n' t20 H2) F'' H'') → Kb5 F'' H'') → zq149_b5 t1 t4 t5 t18 t19 t20 H' K Kb5) : zq149_l5 t1 t4 t5 t18 t19 t20 H K :=
 aloop (M := zq149_M) zq149_m5 (fun n F H => ∃ t20, F = zq149_fr5 t1 t4 t5 t18 t19 t20 ∧ Inv n t20 H) n (fun hs _ => ⟨t20, rfl, h0 hs⟩) (fun n F H' ⟨t20, hF, hI⟩ h1 h2 h3 => by subst hF; rw [zq149_b5_eq]; exact round n t20 H' hI h1 h2 h3 _ (fun _ _ h => h))
theorem zq149_eq (t0 : AV) (H : Heap) (K : Kt) : awp Tryz.prog zq149_M zq149_c (retQ Tryz.prog zq149_r K) (t0 :: List.replicate 74 .unk) H = zq149 t0 H K := by kernel_rfl
theorem zq149_ok {t0 : AV} {H : Heap} {K : Kt} (h : HSc H → zq149 t0 H K) : ACalls Tryz.prog n_zq149 [t0] H K :=
 acalls_body (M := zq149_M) Tryz.func151 (c := zq149_c) (by kernel_rfl) (fun hs => (zq149_eq t0 H K).mpr (h hs))
def zq150_M : Nat → List Bool
 | 5 => rl false [1,1,2,2,12,3,41]
 | 11 => rl false [1,1,2,2,32,3,21]
 | 14 => rl false [1,1,2,2,32,3,4,3,14]
 | _ => []
noncomputable def zq150_c : Code := Tryz.f152.body.getD .skip
noncomputable def zq150_r : List ResultVar := Tryz.f152.results.toList
def zq150_fr5 (t1 t4 t5 t18 t19 t20 : AV) : List AV := ux 1 (t1 :: ux 2 (t4 :: t5 :: ux 12 (t18 :: t19 :: t20 :: ux 41 [])))
def zq150_m5 : List Bool := zq150_M 5
noncomputable def zq150_c5 : Code := codeAt [1, 1, 1, 1, 0, 1, 0, 0] zq150_c
def zq150_Q5 (K : Kt) : AExit → List AV → Heap → Prop := contAt Tryz.prog zq150_M [1, 1, 1, 1, 0, 1, 0] zq150_c (retQ Tryz.prog zq150_r K)
def zq150_l5 (t1 t4 t5 t18 t19 t20 : AV) (H : Heap) (K : Kt) : Prop := ALoop Tryz.prog zq150_c5 (zq150_Q5 K) (zq150_fr5 t1 t4 t5 t18 t19 t20) H
def zq150_fr11 (t1 t4 t5 t38 t39 t40 : AV) : List AV := ux 1 (t1 :: ux 2 (t4 :: t5 :: ux 32 (t38 :: t39 :: t40 :: ux 21 [])))
def zq150_m11 : List Bool := zq150_M 11
noncomputable def zq150_c11 : Code := codeAt [1, 1, 1, 1, 1, 0, 1, 0, 0] zq150_c
def zq150_Q11 (K : Kt) : AExit → List AV → Heap → Prop := contAt Tryz.prog zq150_M [1, 1, 1, 1, 1, 0, 1, 0] zq150_c (retQ Tryz.prog zq150_r K)
def zq150_l11 (t1 t4 t5 t38 t39 t40 : AV) (H : Heap) (K : Kt) : Prop := ALoop Tryz.prog zq150_c11 (zq150_Q11 K) (zq150_fr11 t1 t4 t5 t38 t39 t40) H
def zq150_fr14 (t1 t4 t5 t38 t39 t40 t45 t46 t47 : AV) : List AV := ux 1 (t1 :: ux 2 (t4 :: t5 :: ux 32 (t38 :: t39 :: t40 :: ux 4 (t45 :: t46 :: t47 :: ux 14 []))))
noncomputable def zq150_c14 : Code := codeAt [1, 1, 0, 0, 1, 1, 0, 0] zq150_c11
def zq150_Q14 (K : Kt) (Kb11 : Lt) : AExit → List AV → Heap → Prop := contAt Tryz.prog zq150_M [1, 1, 0, 0, 1, 1, 0] zq150_c11 (roundQ zq150_m11 Kb11 (zq150_Q11 K))
def zq150_l14 (t1 t4 t5 t38 t39 t40 t45 t46 t47 : AV) (H : Heap) (K : Kt) (Kb11 : Lt) : Prop := ALoop Tryz.prog zq150_c14 (zq150_Q14 K Kb11) (zq150_fr14 t1 t4 t5 t38 t39 t40 t45 t46 t47) H
def zq150_b11 (t1 t4 t5 t38 t39 t40 : AV) (H : Heap) (K : Kt) (Kb11 : Lt) : Prop :=
 aBin .lss false t40 t39 fun t41 =>
 aTest t41
 (aIdxA 8 t38 t40 fun t42 =>
 aLoad true 8 t42 H fun t43 =>
 aNew [(.int .i64 0), (.int .i64 0), .snil, .snil, .snil, (.int .i64 0), (.int .i64 0), .snil] H fun t9 H =>
 aStore 8 t9 t43 H fun H =>
 aFld 3 t9 fun t44 =>
 aLoad false 1 t44 H fun t45 =>
 aLen 1 t45 fun t46 =>
 zq150_l14 t1 t4 t5 t38 t39 t40 t45 t46 (.int .i64 0) H K Kb11)
 (aLoad false 1 t4 H fun t57 =>
 aFld 2 t1 fun t58 =>
 aLoad false 1 t58 H fun t59 =>
 aLen 1 t59 fun t60 =>
 aBin .eql false t57 t60 fun t61 =>
 K t61 H)
def zq150_b5 (t1 t4 t5 t18 t19 t20 : AV) (H : Heap) (K : Kt) (Kb5 : Lt) : Prop :=
 aBin .lss false t20 t19 fun t21 =>
 aTest t21
 (aIdxA 7 t18 t20 fun t22 =>
 aLoad true 7 t22 H fun t23 =>
 aNew [(.str []), .snil, .snil, (.int .i64 0), (.int .i64 0), .snil, (.int .i64 0)] H fun t7 H =>
 aStore 7 t7 t23 H fun H =>
 aFld 1 t7 fun t25 =>
 aLoad false 1 t25 H fun t26 =>
 aCallV Tryz.prog t5 [t26] H fun t27 H =>
 aUn .not t27 fun t28 =>
 aGuardJ t28 false H (fun K' => K' t5 H) fun t30 H =>
 aGuardJ t28 false H (fun K' => aFld 2 t7 (K' · H)) fun t31 H =>
 aGuardJ t28 false H (fun K' => aLoad false 1 t31 H (K' · H)) fun t32 H =>
 aGuardJ t28 false H (fun K' => aCallV Tryz.prog t30 [t32] H K') fun t33 H =>
 aGuardJ t28 false H (fun K' => aUn .not t33 (K' · H)) fun t34 H =>
 aPick t28 (.bool true) t34 fun t35 =>
 aTest t35
 (K (.bool false) H)
 (aBin .add false t20 (.int .i64 1) fun t36 =>
 Kb5 (zq150_fr5 t1 t4 t5 t18 t19 t36) H))
 (aFld 3 t1 fun t37 =>
 aLoad false 1 t37 H fun t38 =>
 aLen 1 t38 fun t39 =>
 zq150_l11 t1 t4 t5 t38 t39 (.int .i64 0) H K)
def zq150 (t0 : AV) (H : Heap) (K : Kt) : Prop :=
 aBox t0 H fun t1 H =>
 aFld 2 t1 fun t12 =>
 aLoad false 1 t12 H fun t13 =>
 aLen 1 t13 fun t14 =>
 aMake 1 [(.bool false)] t14 t14 H fun t15 H =>
 aNew [.snil] H fun t3 H =>
 aStore 1 t3 t15 H fun H =>
 aNew [(.int .i64 0)] H fun t4 H =>
 aStore 1 t4 (.int .i64 0) H fun H =>
 aClos n_zq192 [t3, t4] fun t16 =>
 aFld 1 t1 fun t17 =>
 aLoad false 1 t17 H fun t18 =>
 aLen 1 t18 fun t19 =>
 zq150_l5 t1 t4 t16 t18 t19 (.int .i64 0) H K
theorem zq150_b11_eq (t1 t4 t5 t38 t39 t40 : AV) (H : Heap) (K : Kt) (Kb11 : Lt) : awp Tryz.prog zq150_M zq150_c11 (roundQ zq150_m11 Kb11 (zq150_Q11 K)) (zq150_fr11 t1 t4 t5 t38 t39 t40) H = zq150_b11 t1 t4 t5 t38 t39 t40 H K Kb11 := by kernel_rfl
theorem zq150_loop11 {t1 t4 t5 t38 t39 t40 : AV} {H : Heap} {K : Kt} (Inv : Nat → AV → Heap → Prop) (n : Nat) (h0 : HSc H → Inv n t40 H)
  (round : ∀ n t40 H', Inv n t40 H' → HSc H' → H.length ≤ H'.length → (zq150_fr11 t1 t4 t5 t38 t39 t40).all (AV.sc H'.length) = true → ∀ Kb11 : Lt, (∀ F'' H'', (∃ n', n' < n ∧ Back H.length (fun F2 H2 => ∃ t40, F2 = zq150_fr11 t1 t4 t5 t38 t39 t40 ∧ Inv n' t40 H2) F'' H'') → Kb11 F'' H'') → zq150_b11 t1 t4 t5 t38 t39 t40 H' K Kb11) : zq150_l11 t1 t4 t5 t38 t39 t40 H K :=
 aloop (M := zq150_M) zq150_m11 (fun n F H => ∃ t40, F = zq150_fr11 t1 t4 t5 t38 t39 t40 ∧ Inv n t40 H) n (fun hs _ => ⟨t40, rfl, h0 hs⟩) (fun n F H' ⟨t40, hF, hI⟩ h1 h2 h3 => by subst hF; rw [zq150_b11_eq]; exact round n t40 H' hI h1 h2 h3 _ (fun _ _ h => h))
theorem zq150_b5_eq (t1 t4 t5 t18 t19 t20 : AV) (H : Heap) (K : Kt) (Kb5 : Lt) : awp Tryz.prog zq150_M zq150_c5 (roundQ zq150_m5 Kb5 (zq150_Q5 K)) (zq150_fr5 t1 t4 t5 t18 t19 t20) H = zq150_b5 t1 t4 t5 t18 t19 t20 H K Kb5 := by kernel_rfl
theorem zq150_loop5 {t1 t4 t5 t18 t19 t20 : AV} {H : Heap} {K : Kt} (Inv : Nat → AV → Heap → Prop) (n : Nat) (h0 : HSc H → Inv n t20 H)
  (round : ∀ n t20 H', Inv n t20 H' → HSc H' → H.length ≤ H'.length → (zq150_fr5 t1 t4 t5 t18 t19 t20).all (AV.sc H'.length) = true → ∀ Kb5 : Lt, (∀ F'' H'', (∃ n', n' < n ∧ Back H.length (fun F2 H2 => ∃ t20, F2 = zq150_fr5 t1 t4 t5 t18 t19 t20 ∧ Inv n' t20 H2) F'' H'') → Kb5 F'' H'') → zq150_b5 t1 t4 t5 t18 t19 t20 H' K Kb5) : zq150_l5 t1 t4 t5 t18 t19 t20 H K :=
 aloop (M := zq150_M) zq150_m5 (fun n F H => ∃ t20, F = zq150_fr5 t1 t4 t5 t18 t19 t20 ∧ Inv n t20 H) n (fun hs _ => ⟨t20, rfl, h0 hs⟩) (fun n F H' ⟨t20, hF, hI⟩ h1 h2 h3 => by subst hF; rw [zq150_b5_eq]; exact round n t20 H' hI h1 h2 h3 _ (fun _ _ h => h))
theorem zq150_eq (t0 : AV) (H : Heap) (K : Kt) : awp Tryz.prog zq150_M zq150_c (retQ Tryz.prog zq150_r K) (t0 :: List.replicate 61 .unk) H = zq150 t0 H K := by kernel_rfl
theorem zq150_ok {t0 : AV} {H : Heap} {K : Kt} (h : HSc H → zq150 t0 H K) : ACalls Tryz.prog n_zq150 [t0] H K :=
 acalls_body (M := zq150_M) Tryz.func152 (c := zq150_c) (by kernel_rfl) (fun hs => (zq150_eq t0 H K).mpr (h hs))
def zq151_M : Nat → List Bool
 | 6 => rl false [4,2,9,3,25]
 | _ => []
noncomputable def zq151_c : Code := Tryz.f153.body.getD .skip
noncomputable def zq151_r : List ResultVar := Tryz.f153.results.toList
def zq151_fr6 (t4 t5 t15 t16 t17 : AV) : List AV := ux 4 (t4 :: t5 :: ux 9 (t15 :: t16 :: t17 :: ux 25 []))
def zq151_m6 : List Bool := zq151_M 6
noncomputable def zq151_c6 : Code := codeAt [1, 1, 1, 1, 1, 0, 1, 0, 0] zq151_c
def zq151_Q6 (K : Kt) : AExit → List AV → Heap → Prop := contAt Tryz.prog zq151_M [1, 1, 1, 1, 1, 0, 1, 0] zq151_c (retQ Tryz.prog zq151_r K)
def zq151_l6 (t4 t5 t15 t16 t17 : AV) (H : Heap) (K : Kt) : Prop := ALoop Tryz.prog zq151_c6 (zq151_Q6 K) (zq151_fr6 t4 t5 t15 t16 t17) H
def zq151_b6 (t4 t5 t15 t16 t17 : AV) (H : Heap) (K : Kt) (Kb6 : Lt) : Prop :=
 aBin .lss false t17 t16 fun t18 =>
 aTest t18
 (aIdxA 7 t15 t17 fun t19 =>
 aLoad true 7 t19 H fun t20 =>
 aNew [(.str []), .snil, .snil, (.int .i64 0), (.int .i64 0), .snil, (.int .i64 0)] H fun t7 H =>
 aStore 7 t7 t20 H fun H =>
 aLoad false 1 t4 H fun t21 =>
 aFld 1 t7 fun t22 =>
 aLoad false 1 t22 H fun t23 =>
 aCallV Tryz.prog t21 [t23, (.bool true)] H fun t24 H =>
 aLoad false 1 t4 H fun t25 =>
 aFld 2 t7 fun t26 =>
 aLoad false 1 t26 H fun t27 =>
 aCallV Tryz.prog t25 [t27, (.bool true)] H fun t28 H =>
 aLoad false 1 t5 H fun t29 =>
 aFld 6 t7 fun t30 =>
 aLoad false 1 t30 H fun t31 =>
 aCallV Tryz.prog t29 [t31] H fun t32 H =>
 aUn .not t32 fun t33 =>
 aTest t33
 (K (.bool false) H)
 (aLoad false 1 t4 H fun t34 =>
 aFld 1 t7 fun t35 =>
 aLoad false 1 t35 H fun t36 =>
 aCallV Tryz.prog t34 [t36, (.bool false)] H fun t37 H =>
 aLoad false 1 t4 H fun t38 =>
 aFld 2 t7 fun t39 =>
 aLoad false 1 t39 H fun t40 =>
 aCallV Tryz.prog t38 [t40, (.bool false)] H fun t41 H =>
 aBin .add false t17 (.int .i64 1) fun t42 =>
 Kb6 (zq151_fr6 t4 t5 t15 t16 t42) H))
 (K (.bool true) H)
def zq151 (t0 : AV) (H : Heap) (K : Kt) : Prop :=
 aBox t0 H fun t1 H =>
 aFld 2 t1 fun t8 =>
 aLoad false 1 t8 H fun t9 =>
 aLen 1 t9 fun t10 =>
 aMake 1 [(.bool false)] t10 t10 H fun t11 H =>
 aNew [.snil] H fun t3 H =>
 aStore 1 t3 t11 H fun H =>
 aClos n_zq193 [t3] fun t12 =>
 aNew [.nilfn] H fun t4 H =>
 aStore 1 t4 t12 H fun H =>
 aNew [.nilfn] H fun t5 H =>
 aClos n_zq194 [t1, t3, t4, t5] fun t13 =>
 aStore 1 t5 t13 H fun H =>
 aFld 1 t1 fun t14 =>
 aLoad false 1 t14 H fun t15 =>
 aLen 1 t15 fun t16 =>
 zq151_l6 t4 t5 t15 t16 (.int .i64 0) H K
theorem zq151_b6_eq (t4 t5 t15 t16 t17 : AV) (H : Heap) (K : Kt) (Kb6 : Lt) : awp Tryz.prog zq151_M zq151_c6 (roundQ zq151_m6 Kb6 (zq151_Q6 K)) (zq151_fr6 t4 t5 t15 t16 t17) H = zq151_b6 t4 t5 t15 t16 t17 H K Kb6 := by kernel_rfl
theorem zq151_loop6 {t4 t5 t15 t16 t17 : AV} {H : Heap} {K : Kt} (Inv : Nat → AV → Heap → Prop) (n : Nat) (h0 : HSc H → Inv n t17 H)
  (round : ∀ n t17 H', Inv n t17 H' → HSc H' → H.length ≤ H'.length → (zq151_fr6 t4 t5 t15 t16 t17).all (AV.sc H'.length) = true → ∀ Kb6 : Lt, (∀ F'' H'', (∃ n', n' < n ∧ Back H.length (fun F2 H2 => ∃ t17, F2 = zq151_fr6 t4 t5 t15 t16 t17 ∧ Inv n' t17 H2) F'' H'') → Kb6 F'' H'') → zq151_b6 t4 t5 t15 t16 t17 H' K Kb6) : zq151_l6 t4 t5 t15 t16 t17 H K :=
 aloop (M := zq151_M) zq151_m6 (fun n F H => ∃ t17, F = zq151_fr6 t4 t5 t15 t16 t17 ∧ Inv n t17 H) n (fun hs _ => ⟨t17, rfl, h0 hs⟩) (fun n F H' ⟨t17, hF, hI⟩ h1 h2 h3 => by subst hF; rw [zq151_b6_eq]; exact round n t17 H' hI h1 h2 h3 _ (fun _ _ h => h))
theorem zq151_eq (t0 : AV) (H : Heap) (K : Kt) : awp Tryz.prog zq151_M zq151_c (retQ Tryz.prog zq151_r K) (t0 :: List.replicate 42 .unk) H = zq151 t0 H K := by kernel_rfl
theorem zq151_ok {t0 : AV} {H : Heap} {K : Kt} (h : HSc H → zq151 t0 H K) : ACalls Tryz.prog n_zq151 [t0] H K :=
 acalls_body (M := zq151_M) Tryz.func153 (c := zq151_c) (by kernel_rfl) (fun hs => (zq151_eq t0 H K).mpr (h hs))
def zq152_M : Nat → List Bool
 | 3 => rl false [1,1,1,1,12,3,30]
 | 9 => rl false [3,1,24,3,18]
 | _ => []
noncomputable def zq152_c : Code := Tryz.f154.body.getD .skip
noncomputable def zq152_r : List ResultVar := Tryz.f154.results.toList
def zq152_fr3 (t1 t3 t16 t17 t18 : AV) : List AV := ux 1 (t1 :: ux 1 (t3 :: ux 12 (t16 :: t17 :: t18 :: ux 30 [])))
def zq152_m3 : List Bool := zq152_M 3
noncomputable def zq152_c3 : Code := codeAt [1, 1, 0, 1, 0, 0] zq152_c
def zq152_Q3 (K : Kt) : AExit → List AV → Heap → Prop := contAt Tryz.prog zq152_M [1, 1, 0, 1, 0] zq152_c (retQ Tryz.prog zq152_r K)
def zq152_l3 (t1 t3 t16 t17 t18 : AV) (H : Heap) (K : Kt) : Prop := ALoop Tryz.prog zq152_c3 (zq152_Q3 K) (zq152_fr3 t1 t3 t16 t17 t18) H
def zq152_fr9 (t3 t28 t29 t30 : AV) : List AV := ux 3 (t3 :: ux 24 (t28 :: t29 :: t30 :: ux 18 []))
def zq152_m9 : List Bool := zq152_M 9
noncomputable def zq152_c9 : Code := codeAt [1, 1, 1, 0, 1, 0, 0] zq152_c
def zq152_Q9 (K : Kt) : AExit → List AV → Heap → Prop := contAt Tryz.prog zq152_M [1, 1, 1, 0, 1, 0] zq152_c (retQ Tryz.prog zq152_r K)
def zq152_l9 (t3 t28 t29 t30 : AV) (H : Heap) (K : Kt) : Prop := ALoop Tryz.prog zq152_c9 (zq152_Q9 K) (zq152_fr9 t3 t28 t29 t30) H
def zq152_b9 (t3 t28 t29 t30 : AV) (H : Heap) (K : Kt) (Kb9 : Lt) : Prop :=
 aBin .lss false t30 t29 fun t31 =>
 aTest t31
 (aIdxA 7 t28 t30 fun t33 =>
 aLoad true 7 t33 H fun t34 =>
 aNew [(.str []), .snil, .snil, (.int .i64 0), (.int .i64 0), .snil, (.int .i64 0)] H fun t7 H =>
 aStore 7 t7 t34 H fun H =>
 aFld 0 t7 fun t35 =>
 aLoad false 1 t35 H fun t36 =>
 aBin .eql false t36 (.str []) fun t37 =>
 aGuardJ t37 true H (fun K' => K' t3 H) fun t39 H =>
 aGuardJ t37 true H (fun K' => aNil t39 (K' · H)) fun t40 H =>
 aGuardJ t37 true H (fun K' => aFld 4 t40 (K' · H)) fun t41 H =>
 aGuardJ t37 true H (fun K' => aLoad false 1 t41 H (K' · H)) fun t42 H =>
 aGuardJ t37 true H (fun K' => K' t30 H) fun t43 H =>
 aGuardJ t37 true H (fun K' => aIdxA 1 t42 t43 (K' · H)) fun t44 H =>
 aGuardJ t37 true H (fun K' => aLoad false 1 t44 H (K' · H)) fun t45 H =>
 aGuardJ t37 true H (fun K' => aBin .neq false t45 (.int .i64 1) (K' · H)) fun t46 H =>
 aPick t37 t46 (.bool false) fun t47 =>
 aTest t47
 (K (.bool false) H)
 (aBin .add false t30 (.int .i64 1) fun t48 =>
 Kb9 (zq152_fr9 t3 t28 t29 t48) H))
 (K (.bool true) H)
def zq152_b3 (t1 t3 t16 t17 t18 : AV) (H : Heap) (K : Kt) (Kb3 : Lt) : Prop :=
 aBin .lss false t18 t17 fun t19 =>
 aTest t19
 (aIdxA 8 t16 t18 fun t20 =>
 aLoad true 8 t20 H fun t21 =>
 aNew [(.int .i64 0), (.int .i64 0), .snil, .snil, .snil, (.int .i64 0), (.int .i64 0), .snil] H fun t5 H =>
 aStore 8 t5 t21 H fun H =>
 aLoad true 8 t5 H fun t23 =>
 ACalls Tryz.prog n_zq195 [t3, t23] H fun t24 H =>
 aUn .not t24 fun t25 =>
 aTest t25
 (K (.bool false) H)
 (aBin .add false t18 (.int .i64 1) fun t26 =>
 Kb3 (zq152_fr3 t1 t3 t16 t17 t26) H))
 (aFld 1 t1 fun t27 =>
 aLoad false 1 t27 H fun t28 =>
 aLen 1 t28 fun t29 =>
 zq152_l9 t3 t28 t29 (.int .i64 0) H K)
def zq152 (t0 : AV) (H : Heap) (K : Kt) : Prop :=
 aBox t0 H fun t1 H =>
 aPure H (fun K' => aLoadC true 4 t1 H (K' · H)) fun t8 =>
 aPure H (fun K' => aFld 1 t1 (K' · H)) fun t9 =>
 aPure H (fun K' => aLoadC false 1 t9 H (K' · H)) fun t10 =>
 aPure H (fun K' => aLen 1 t10 (K' · H)) fun t11 =>
 aMake 8 [(.int .i64 0)] t11 t11 H fun t12 H =>
 aPure H (fun K' => aBuild [.snil, .snil, .snil, .snil, .snil] [(0, 4), (4, 1)] [(0, t8), (1, t12)] (K' · H)) fun t13 =>
 aBox t13 H fun t14 H =>
 aPure H (fun K' => K' t14 H) fun t3 =>
 aFld 3 t1 fun t15 =>
 aLoad false 1 t15 H fun t16 =>
 aLen 1 t16 fun t17 =>
 zq152_l3 t1 t3 t16 t17 (.int .i64 0) H K
theorem zq152_b9_eq (t3 t28 t29 t30 : AV) (H : Heap) (K : Kt) (Kb9 : Lt) : awp Tryz.prog zq152_M zq152_c9 (roundQ zq152_m9 Kb9 (zq152_Q9 K)) (zq152_fr9 t3 t28 t29 t30) H = zq152_b9 t3 t28 t29 t30 H K Kb9 := by kernel_rfl
theorem zq152_loop9 {t3 t28 t29 t30 : AV} {H : Heap} {K : Kt} (Inv : Nat → AV → Heap → Prop) (n : Nat) (h0 : HSc H → Inv n t30 H)
  (round : ∀ n t30 H', Inv n t30 H' → HSc H' → H.length ≤ H'.length → (zq152_fr9 t3 t28 t29 t30).all (AV.sc H'.length) = true → ∀ Kb9 : Lt, (∀ F'' H'', (∃ n', n' < n ∧ Back H.length (fun F2 H2 => ∃ t30, F2 = zq152_fr9 t3 t28 t29 t30 ∧ Inv n' t30 H2) F'' H'') → Kb9 F'' H'') → zq152_b9 t3 t28 t29 t30 H' K Kb9) : zq152_l9 t3 t28 t29 t30 H K :=
 aloop (M := zq152_M) zq152_m9 (fun n F H => ∃ t30, F = zq152_fr9 t3 t28 t29 t30 ∧ Inv n t30 H) n (fun hs _ => ⟨t30, rfl, h0 hs⟩) (fun n F H' ⟨t30, hF, hI⟩ h1 h2 h3 => by subst hF; rw [zq152_b9_eq]; exact round n t30 H' hI h1 h2 h3 _ (fun _ _ h => h))
theorem zq152_b3_eq (t1 t3 t16 t17 t18 : AV) (H : Heap) (K : Kt) (Kb3 : Lt) : awp Tryz.prog zq152_M zq152_c3 (roundQ zq152_m3 Kb3 (zq152_Q3 K)) (zq152_fr3 t1 t3 t16 t17 t18) H = zq152_b3 t1 t3 t16 t17 t18 H K Kb3 := by kernel_rfl
theorem zq152_loop3 {t1 t3 t16 t17 t18 : AV} {H : Heap} {K : Kt} (Inv : Nat → AV → Heap → Prop) (n : Nat) (h0 : HSc H → Inv n t18 H)
  (round : ∀ n t18 H', Inv n t18 H' → HSc H' → H.length ≤ H'.length → (zq152_fr3 t1 t3 t16 t17 t18).all (AV.sc H'.length) = true → ∀ Kb3 : Lt, (∀ F'' H'', (∃ n', n' < n ∧ Back H.length (fun F2 H2 => ∃ t18, F2 = zq152_fr3 t1 t3 t16 t17 t18 ∧ Inv n' t18 H2) F'' H'') → Kb3 F'' H'') → zq152_b3 t1 t3 t16 t17 t18 H' K Kb3) : zq152_l3 t1 t3 t16 t17 t18 H K :=
 aloop (M := zq152_M) zq152_m3 (fun n F H => ∃ t18, F = zq152_fr3 t1 t3 t16 t17 t18 ∧ Inv n t18 H) n (fun hs _ => ⟨t18, rfl, h0 hs⟩) (fun n F H' ⟨t18, hF, hI⟩ h1 h2 h3 => by subst hF; rw [zq152_b3_eq]; exact round n t18 H' hI h1 h2 h3 _ (fun _ _ h => h))
theorem zq152_eq (t0 : AV) (H : Heap) (K : Kt) : awp Tryz.prog zq152_M zq152_c (retQ Tryz.prog zq152_r K) (t0 :: List.replicate 48 .unk) H = zq152 t0 H K := by kernel_rfl
theorem zq152_ok {t0 : AV} {H : Heap} {K : Kt} (h : HSc H → zq152 t0 H K) : ACalls Tryz.prog n_zq152 [t0] H K :=
 acalls_body (M := zq152_M) Tryz.func154 (c := zq152_c) (by kernel_rfl) (fun hs => (zq152_eq t0 H K).mpr (h hs))
end Go.Proofs.YtfpmdpldabopjaaGreatDoor
