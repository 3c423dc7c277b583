import Derived.Test.YtfpmdpldabopjaaGreatDoorKNum
import Derived.Test.YtfpmdpldabopjaaGreatDoorProg
import Derived.KernelRfl
import Derived.Test.YtfpmdpldabopjaaGreatDoorKGA
import Derived.WalkKit
import Derived.BigCall
import Derived.Laws.Externs
import Derived.Laws.Entries
import Derived.Lib.Builder
import Derived.Lib.AppendStr
import Derived.Lib.UnsafeStr
import Derived.Test.YtfpmdpldabopjaaGreatDoorA3
import Derived.RegionTactic
import Derived.Test.YtfpmdpldabopjaaGreatDoorKTWa
set_option linter.unusedSimpArgs false
set_option linter.unusedVariables false
namespace Go.Proofs.YtfpmdpldabopjaaGreatDoor
open Go Go.Abs
set_option maxRecDepth 100000
def zq16_M (_ : Nat) : List Bool := []
noncomputable def zq16_c : Code := Tryz.f18.body.getD .skip
noncomputable def zq16_r : List ResultVar := Tryz.f18.results.toList
def zq16 (t0 t1 t2 : AV) (H : Heap) (K : Kt) : Prop :=
 aBox t1 H fun t4 H =>
 aBox t2 H fun t5 H =>
 aNew [(.int .i64 0)] H fun t7 H =>
 aStore 1 t7 (.int .i64 5000) H fun H =>
 aLoad true 3 t5 H fun t9 =>
 ACalls Tryz.prog n_zq48 [t0, t9] H fun t10 H =>
 aGuardJ t10 true H (fun K' => aLoad true 3 t4 H (K' · H)) fun t12 H =>
 aGuardJ t10 true H (fun K' => ACalls Tryz.prog n_zq49 [t12, t7] H K') fun t13 H =>
 aPick t10 t13 (.bool false) fun t14 =>
 aGuardJ t14 true H (fun K' => K' t0 H) fun t16 H =>
 aGuardJ t14 true H (fun K' => aLoad true 3 t4 H (K' · H)) fun t17 H =>
 aGuardJ t14 true H (fun K' => aLoad true 3 t5 H (K' · H)) fun t18 H =>
 aGuardJ t14 true H (fun K' => ACalls Tryz.prog n_zq50 [t16, t17, t18] H K') fun t19 H =>
 aPick t14 t19 (.bool false) fun t20 =>
 K t20 H
theorem zq16_eq (t0 t1 t2 : AV) (H : Heap) (K : Kt) : awp Tryz.prog zq16_M zq16_c (retQ Tryz.prog zq16_r K) (t0 :: t1 :: t2 :: List.replicate 18 .unk) H = zq16 t0 t1 t2 H K := by kernel_rfl
theorem zq16_ok {t0 t1 t2 : AV} {H : Heap} {K : Kt} (h : HSc H → zq16 t0 t1 t2 H K) : ACalls Tryz.prog n_zq16 [t0, t1, t2] H K :=
 acalls_body (M := zq16_M) Tryz.func18 (c := zq16_c) (by kernel_rfl) (fun hs => (zq16_eq t0 t1 t2 H K).mpr (h hs))
def zq17_M (_ : Nat) : List Bool := []
noncomputable def zq17_c : Code := Tryz.f19.body.getD .skip
noncomputable def zq17_r : List ResultVar := Tryz.f19.results.toList
def zq17 (t0 t1 t2 : AV) (H : Heap) (K : Kt) : Prop :=
 aBox t1 H fun t4 H =>
 aBox t2 H fun t5 H =>
 aNew [(.int .i64 0)] H fun t7 H =>
 aStore 1 t7 (.int .i64 5000) H fun H =>
 ACalls Tryz.prog n_zq51 [t0] H fun t9 H =>
 aGuardJ t9 true H (fun K' => K' t0 H) fun t11 H =>
 aGuardJ t9 true H (fun K' => aLoad true 3 t5 H (K' · H)) fun t12 H =>
 aGuardJ t9 true H (fun K' => ACalls Tryz.prog n_zq52 [t11, t12, (.int .i64 0)] H K') fun t13 H =>
 aPick t9 t13 (.bool false) fun t14 =>
 aGuardJ t14 true H (fun K' => aLoad true 3 t4 H (K' · H)) fun t16 H =>
 aGuardJ t14 true H (fun K' => ACalls Tryz.prog n_zq53 [t16, t7] H K') fun t17 H =>
 aPick t14 t17 (.bool false) fun t18 =>
 aGuardJ t18 true H (fun K' => K' t0 H) fun t20 H =>
 aGuardJ t18 true H (fun K' => aLoad true 3 t4 H (K' · H)) fun t21 H =>
 aGuardJ t18 true H (fun K' => aLoad true 3 t5 H (K' · H)) fun t22 H =>
 aGuardJ t18 true H (fun K' => ACalls Tryz.prog n_zq54 [t20, t21, t22] H K') fun t23 H =>
 aPick t18 t23 (.bool false) fun t24 =>
 K t24 H
theorem zq17_eq (t0 t1 t2 : AV) (H : Heap) (K : Kt) : awp Tryz.prog zq17_M zq17_c (retQ Tryz.prog zq17_r K) (t0 :: t1 :: t2 :: List.replicate 22 .unk) H = zq17 t0 t1 t2 H K := by kernel_rfl
theorem zq17_ok {t0 t1 t2 : AV} {H : Heap} {K : Kt} (h : HSc H → zq17 t0 t1 t2 H K) : ACalls Tryz.prog n_zq17 [t0, t1, t2] H K :=
 acalls_body (M := zq17_M) Tryz.func19 (c := zq17_c) (by kernel_rfl) (fun hs => (zq17_eq t0 t1 t2 H K).mpr (h hs))
def zq48_M (_ : Nat) : List Bool := []
noncomputable def zq48_c : Code := Tryz.f50.body.getD .skip
noncomputable def zq48_r : List ResultVar := Tryz.f50.results.toList
def zq48 (t0 t1 : AV) (H : Heap) (K : Kt) : Prop :=
 aBox t1 H fun t3 H =>
 aBuild [.snil, .snil, .snil, .snil] [(0, 1), (1, 1), (2, 1), (3, 1)] [(0, t0)] fun t6 =>
 ACalls Tryz.prog n_zq84 [t6] H fun t7 H =>
 aGuardJ t7 true H (fun K' => K' t0 H) fun t9 H =>
 aGuardJ t7 true H (fun K' => aLoad true 3 t3 H (K' · H)) fun t10 H =>
 aGuardJ t7 true H (fun K' => ACalls Tryz.prog n_zq85 [t9, t10, (.int .i64 0)] H K') fun t11 H =>
 aPick t7 t11 (.bool false) fun t12 =>
 K t12 H
theorem zq48_eq (t0 t1 : AV) (H : Heap) (K : Kt) : awp Tryz.prog zq48_M zq48_c (retQ Tryz.prog zq48_r K) (t0 :: t1 :: List.replicate 11 .unk) H = zq48 t0 t1 H K := by kernel_rfl
theorem zq48_ok {t0 t1 : AV} {H : Heap} {K : Kt} (h : HSc H → zq48 t0 t1 H K) : ACalls Tryz.prog n_zq48 [t0, t1] H K :=
 acalls_body (M := zq48_M) Tryz.func50 (c := zq48_c) (by kernel_rfl) (fun hs => (zq48_eq t0 t1 H K).mpr (h hs))
def zq49_M (_ : Nat) : List Bool := []
noncomputable def zq49_c : Code := Tryz.f51.body.getD .skip
noncomputable def zq49_r : List ResultVar := Tryz.f51.results.toList
def zq49 (t0 t1 : AV) (H : Heap) (K : Kt) : Prop :=
 aBox t0 H fun t2 H =>
 aBox t1 H fun t3 H =>
 aLoad false 1 t3 H fun t5 =>
 aNil t5 fun t6 =>
 aLoad false 1 t6 H fun t7 =>
 aBin .sub false t7 (.int .i64 1) fun t8 =>
 aNil t5 fun t9 =>
 aStore 1 t9 t8 H fun H =>
 aLoad false 1 t3 H fun t10 =>
 aNil t10 fun t11 =>
 aLoad false 1 t11 H fun t12 =>
 aBin .lss false t12 (.int .i64 0) fun t13 =>
 aTest t13
 (K (.bool false) H)
 (aFld 2 t2 fun t14 =>
 aLoad false 1 t14 H fun t15 =>
 aClos n_zq87 [t3] fun t16 =>
 ACalls Tryz.prog n_zq86 [t15, t16] H fun t17 H =>
 aUn .not t17 fun t18 =>
 K t18 H)
theorem zq49_eq (t0 t1 : AV) (H : Heap) (K : Kt) : awp Tryz.prog zq49_M zq49_c (retQ Tryz.prog zq49_r K) (t0 :: t1 :: List.replicate 17 .unk) H = zq49 t0 t1 H K := by kernel_rfl
theorem zq49_ok {t0 t1 : AV} {H : Heap} {K : Kt} (h : HSc H → zq49 t0 t1 H K) : ACalls Tryz.prog n_zq49 [t0, t1] H K :=
 acalls_body (M := zq49_M) Tryz.func51 (c := zq49_c) (by kernel_rfl) (fun hs => (zq49_eq t0 t1 H K).mpr (h hs))
def zq87_M (_ : Nat) : List Bool := []
noncomputable def zq87_c : Code := Tryz.f89.body.getD .skip
noncomputable def zq87_r : List ResultVar := Tryz.f89.results.toList
def zq87 (t0 t1 : AV) (H : Heap) (K : Kt) : Prop :=
 aBox t0 H fun t2 H =>
 aLoad true 3 t2 H fun t4 =>
 aLoad false 1 t1 H fun t5 =>
 ACalls Tryz.prog n_zq49 [t4, t5] H fun t6 H =>
 aUn .not t6 fun t7 =>
 K t7 H
theorem zq87_eq (t0 t1 : AV) (H : Heap) (K : Kt) : awp Tryz.prog zq87_M zq87_c (retQ Tryz.prog zq87_r K) (t0 :: t1 :: List.replicate 6 .unk) H = zq87 t0 t1 H K := by kernel_rfl
theorem zq87_ok {t0 t1 : AV} {H : Heap} {K : Kt} (h : HSc H → zq87 t0 t1 H K) : ACalls Tryz.prog n_zq87 [t0, t1] H K :=
 acalls_body (M := zq87_M) Tryz.func89 (c := zq87_c) (by kernel_rfl) (fun hs => (zq87_eq t0 t1 H K).mpr (h hs))
def zq86_M (_ : Nat) : List Bool := []
noncomputable def zq86_c : Code := Tryz.f88.body.getD .skip
noncomputable def zq86_r : List ResultVar := Tryz.f88.results.toList
def zq86 (t0 t1 : AV) (H : Heap) (K : Kt) : Prop :=
 ACalls Tryz.prog n_zq154 [t0, t1] H fun t7 H =>
 aBin .geq false t7 (.int .i64 0) fun t8 =>
 K t8 H
theorem zq86_eq (t0 t1 : AV) (H : Heap) (K : Kt) : awp Tryz.prog zq86_M zq86_c (retQ Tryz.prog zq86_r K) (t0 :: t1 :: List.replicate 7 .unk) H = zq86 t0 t1 H K := by kernel_rfl
theorem zq86_ok {t0 t1 : AV} {H : Heap} {K : Kt} (h : HSc H → zq86 t0 t1 H K) : ACalls Tryz.prog n_zq86 [t0, t1] H K :=
 acalls_body (M := zq86_M) Tryz.func88 (c := zq86_c) (by kernel_rfl) (fun hs => (zq86_eq t0 t1 H K).mpr (h hs))
def zq154_M : Nat → List Bool
 | 2 => rl false [0,2,5,2,10]
 | _ => []
noncomputable def zq154_c : Code := Tryz.f156.body.getD .skip
noncomputable def zq154_r : List ResultVar := Tryz.f156.results.toList
def zq154_fr2 (t0 t1 t7 t8 : AV) : List AV := t0 :: t1 :: ux 5 (t7 :: t8 :: ux 10 [])
def zq154_m2 : List Bool := zq154_M 2
noncomputable def zq154_c2 : Code := codeAt [1, 0, 1, 0, 0] zq154_c
def zq154_Q2 (K : Kt) : AExit → List AV → Heap → Prop := contAt Tryz.prog zq154_M [1, 0, 1, 0] zq154_c (retQ Tryz.prog zq154_r K)
def zq154_l2 (t0 t1 t7 t8 : AV) (H : Heap) (K : Kt) : Prop := ALoop Tryz.prog zq154_c2 (zq154_Q2 K) (zq154_fr2 t0 t1 t7 t8) H
def zq154_b2 (t0 t1 t7 t8 : AV) (H : Heap) (K : Kt) (Kb2 : Lt) : Prop :=
 aBin .lss false t8 t7 fun t9 =>
 aTest t9
 (aIdxA 3 t0 t8 fun t14 =>
 aLoad true 3 t14 H fun t15 =>
 aCallV Tryz.prog t1 [t15] H fun t16 H =>
 aTest t16
 (K t8 H)
 (aBin .add false t8 (.int .i64 1) fun t18 =>
 Kb2 (zq154_fr2 t0 t1 t7 t18) H))
 (K (.int .i64 (-1)) H)
def zq154 (t0 t1 : AV) (H : Heap) (K : Kt) : Prop :=
 aLen 1 t0 fun t7 =>
 zq154_l2 t0 t1 t7 (.int .i64 0) H K
theorem zq154_b2_eq (t0 t1 t7 t8 : AV) (H : Heap) (K : Kt) (Kb2 : Lt) : awp Tryz.prog zq154_M zq154_c2 (roundQ zq154_m2 Kb2 (zq154_Q2 K)) (zq154_fr2 t0 t1 t7 t8) H = zq154_b2 t0 t1 t7 t8 H K Kb2 := by kernel_rfl
theorem zq154_loop2 {t0 t1 t7 t8 : AV} {H : Heap} {K : Kt} (Inv : Nat → AV → Heap → Prop) (n : Nat) (h0 : HSc H → Inv n t8 H)
  (round : ∀ n t8 H', Inv n t8 H' → HSc H' → H.length ≤ H'.length → (zq154_fr2 t0 t1 t7 t8).all (AV.sc H'.length) = true → ∀ Kb2 : Lt, (∀ F'' H'', (∃ n', n' < n ∧ Back H.length (fun F2 H2 => ∃ t8, F2 = zq154_fr2 t0 t1 t7 t8 ∧ Inv n' t8 H2) F'' H'') → Kb2 F'' H'') → zq154_b2 t0 t1 t7 t8 H' K Kb2) : zq154_l2 t0 t1 t7 t8 H K :=
 aloop (M := zq154_M) zq154_m2 (fun n F H => ∃ t8, F = zq154_fr2 t0 t1 t7 t8 ∧ Inv n t8 H) n (fun hs _ => ⟨t8, rfl, h0 hs⟩) (fun n F H' ⟨t8, hF, hI⟩ h1 h2 h3 => by subst hF; rw [zq154_b2_eq]; exact round n t8 H' hI h1 h2 h3 _ (fun _ _ h => h))
theorem zq154_eq (t0 t1 : AV) (H : Heap) (K : Kt) : awp Tryz.prog zq154_M zq154_c (retQ Tryz.prog zq154_r K) (t0 :: t1 :: List.replicate 17 .unk) H = zq154 t0 t1 H K := by kernel_rfl
theorem zq154_ok {t0 t1 : AV} {H : Heap} {K : Kt} (h : HSc H → zq154 t0 t1 H K) : ACalls Tryz.prog n_zq154 [t0, t1] H K :=
 acalls_body (M := zq154_M) Tryz.func156 (c := zq154_c) (by kernel_rfl) (fun hs => (zq154_eq t0 t1 H K).mpr (h hs))
def zq50_M (_ : Nat) : List Bool := []
noncomputable def zq50_c : Code := Tryz.f52.body.getD .skip
noncomputable def zq50_r : List ResultVar := Tryz.f52.results.toList
def zq50 (t0 t1 t2 : AV) (H : Heap) (K : Kt) : Prop :=
 aBox t0 H fun t3 H =>
 aBox t1 H fun t4 H =>
 aBox t2 H fun t5 H =>
 aFld 0 t5 fun t9 =>
 aLoad false 1 t9 H fun t10 =>
 aBin .eql false t10 (.int .i64 1) fun t12 =>
 aTest t12
 (aFld 0 t4 fun t13 =>
 aLoad false 1 t13 H fun t14 =>
 aBin .eql false t14 (.int .i64 3) fun t15 =>
 aGuardJ t15 true H (fun K' => aFld 1 t4 (K' · H)) fun t17 H =>
 aGuardJ t15 true H (fun K' => aLoad false 1 t17 H (K' · H)) fun t18 H =>
 aGuardJ t15 true H (fun K' => aBin .leq false (.int .i64 (-1099511627776)) t18 (K' · H)) fun t19 H =>
 aPick t15 t19 (.bool false) fun t20 =>
 aGuardJ t20 true H (fun K' => aFld 1 t4 (K' · H)) fun t22 H =>
 aGuardJ t20 true H (fun K' => aLoad false 1 t22 H (K' · H)) fun t23 H =>
 aGuardJ t20 true H (fun K' => aBin .leq false t23 (.int .i64 1099511627776) (K' · H)) fun t24 H =>
 aPick t20 t24 (.bool false) fun t25 =>
 aGuardJ t25 true H (fun K' => aFld 2 t4 (K' · H)) fun t27 H =>
 aGuardJ t25 true H (fun K' => aLoad false 1 t27 H (K' · H)) fun t28 H =>
 aGuardJ t25 true H (fun K' => aLen 1 t28 (K' · H)) fun t29 H =>
 aGuardJ t25 true H (fun K' => aBin .eql false t29 (.int .i64 0) (K' · H)) fun t30 H =>
 aPick t25 t30 (.bool false) fun t31 =>
 K t31 H)
 (aBin .eql false t10 (.int .i64 2) fun t33 =>
 aTest t33
 (aFld 0 t4 fun t34 =>
 aLoad false 1 t34 H fun t35 =>
 aBin .eql false t35 (.int .i64 2) fun t36 =>
 aGuardJ t36 true H (fun K' => aFld 1 t4 (K' · H)) fun t38 H =>
 aGuardJ t36 true H (fun K' => aLoad false 1 t38 H (K' · H)) fun t39 H =>
 aGuardJ t36 true H (fun K' => aBin .eql false t39 (.int .i64 0) (K' · H)) fun t40 H =>
 aGuardJ t36 true H (fun K' => K' t40 H) fun t41 H =>
 aGuardJ t41 false H (fun K' => aFld 1 t4 (K' · H)) fun t42 H =>
 aGuardJ t41 false H (fun K' => aLoad false 1 t42 H (K' · H)) fun t43 H =>
 aGuardJ t41 false H (fun K' => aBin .eql false t43 (.int .i64 1) (K' · H)) fun t44 H =>
 aGuardJ t36 true H (fun K' => aPick t41 (.bool true) t44 (K' · H)) fun t45 H =>
 aPick t36 t45 (.bool false) fun t46 =>
 aGuardJ t46 true H (fun K' => aFld 2 t4 (K' · H)) fun t48 H =>
 aGuardJ t46 true H (fun K' => aLoad false 1 t48 H (K' · H)) fun t49 H =>
 aGuardJ t46 true H (fun K' => aLen 1 t49 (K' · H)) fun t50 H =>
 aGuardJ t46 true H (fun K' => aBin .eql false t50 (.int .i64 0) (K' · H)) fun t51 H =>
 aPick t46 t51 (.bool false) fun t52 =>
 K t52 H)
 (aBin .eql false t10 (.int .i64 3) fun t54 =>
 aTest t54
 (aFld 0 t4 fun t55 =>
 aLoad false 1 t55 H fun t56 =>
 aBin .eql false t56 (.int .i64 1) fun t57 =>
 aGuardJ t57 true H (fun K' => aFld 1 t4 (K' · H)) fun t59 H =>
 aGuardJ t57 true H (fun K' => aLoad false 1 t59 H (K' · H)) fun t60 H =>
 aGuardJ t57 true H (fun K' => aBin .eql false t60 (.int .i64 0) (K' · H)) fun t61 H =>
 aPick t57 t61 (.bool false) fun t62 =>
 aGuardJ t62 true H (fun K' => aFld 2 t4 (K' · H)) fun t64 H =>
 aGuardJ t62 true H (fun K' => aLoad false 1 t64 H (K' · H)) fun t65 H =>
 aGuardJ t62 true H (fun K' => aLen 1 t65 (K' · H)) fun t66 H =>
 aGuardJ t62 true H (fun K' => aBin .eql false t66 (.int .i64 0) (K' · H)) fun t67 H =>
 aPick t62 t67 (.bool false) fun t68 =>
 K t68 H)
 (aBin .eql false t10 (.int .i64 6) fun t70 =>
 aTest t70
 (aFld 0 t4 fun t71 =>
 aLoad false 1 t71 H fun t72 =>
 aBin .eql false t72 (.int .i64 4) fun t73 =>
 aGuardJ t73 true H (fun K' => aFld 1 t4 (K' · H)) fun t75 H =>
 aGuardJ t73 true H (fun K' => aLoad false 1 t75 H (K' · H)) fun t76 H =>
 aGuardJ t73 true H (fun K' => aBin .eql false t76 (.int .i64 0) (K' · H)) fun t77 H =>
 aPick t73 t77 (.bool false) fun t78 =>
 aGuardJ t78 true H (fun K' => aLoad false 1 t3 H (K' · H)) fun t80 H =>
 aGuardJ t78 true H (fun K' => aFld 2 t4 (K' · H)) fun t81 H =>
 aGuardJ t78 true H (fun K' => aLoad false 1 t81 H (K' · H)) fun t82 H =>
 aGuardJ t78 true H (fun K' => aFld 2 t5 (K' · H)) fun t83 H =>
 aGuardJ t78 true H (fun K' => aLoad false 1 t83 H (K' · H)) fun t84 H =>
 aGuardJ t78 true H (fun K' => ACalls Tryz.prog n_zq88 [t80, t82, t84] H K') fun t85 H =>
 aPick t78 t85 (.bool false) fun t86 =>
 K t86 H)
 (aBin .eql false t10 (.int .i64 5) fun t88 =>
 aTest t88
 (aFld 0 t4 fun t89 =>
 aLoad false 1 t89 H fun t90 =>
 aBin .neq false t90 (.int .i64 5) fun t91 =>
 aGuardJ t91 false H (fun K' => aFld 1 t4 (K' · H)) fun t93 H =>
 aGuardJ t91 false H (fun K' => aLoad false 1 t93 H (K' · H)) fun t94 H =>
 aGuardJ t91 false H (fun K' => aBin .lss false t94 (.int .i64 0) (K' · H)) fun t95 H =>
 aPick t91 (.bool true) t95 fun t96 =>
 aGuardJ t96 false H (fun K' => aFld 1 t4 (K' · H)) fun t98 H =>
 aGuardJ t96 false H (fun K' => aLoad false 1 t98 H (K' · H)) fun t99 H =>
 aGuardJ t96 false H (fun K' => aBin .geq false t99 (.int .i64 8) (K' · H)) fun t100 H =>
 aPick t96 (.bool true) t100 fun t101 =>
 aTest t101
 (K (.bool false) H)
 (aLoad false 1 t3 H fun t103 =>
 aLoad true 3 t5 H fun t104 =>
 aFld 1 t4 fun t105 =>
 aLoad false 1 t105 H fun t106 =>
 ACalls Tryz.prog n_zq89 [t103, t104, t106] H fun t107 H =>
 aExt t107 0 fun t108 =>
 aExt t107 1 fun t109 =>
 aGuardJ t109 true H (fun K' => aLoad false 1 t3 H (K' · H)) fun t112 H =>
 aGuardJ t109 true H (fun K' => aFld 2 t4 (K' · H)) fun t113 H =>
 aGuardJ t109 true H (fun K' => aLoad false 1 t113 H (K' · H)) fun t114 H =>
 aGuardJ t109 true H (fun K' => K' t108 H) fun t115 H =>
 aGuardJ t109 true H (fun K' => ACalls Tryz.prog n_zq88 [t112, t114, t115] H K') fun t116 H =>
 aPick t109 t116 (.bool false) fun t117 =>
 K t117 H))
 (aBin .eql false t10 (.int .i64 7) fun t119 =>
 aTest t119
 (aFld 0 t4 fun t120 =>
 aLoad false 1 t120 H fun t121 =>
 aBin .eql false t121 (.int .i64 6) fun t122 =>
 aGuardJ t122 true H (fun K' => aFld 1 t4 (K' · H)) fun t124 H =>
 aGuardJ t122 true H (fun K' => aLoad false 1 t124 H (K' · H)) fun t125 H =>
 aGuardJ t122 true H (fun K' => aBin .eql false t125 (.int .i64 0) (K' · H)) fun t126 H =>
 aPick t122 t126 (.bool false) fun t127 =>
 aGuardJ t127 true H (fun K' => aFld 2 t4 (K' · H)) fun t129 H =>
 aGuardJ t127 true H (fun K' => aLoad false 1 t129 H (K' · H)) fun t130 H =>
 aGuardJ t127 true H (fun K' => aLen 1 t130 (K' · H)) fun t131 H =>
 aGuardJ t127 true H (fun K' => aBin .leq false t131 (.int .i64 4096) (K' · H)) fun t132 H =>
 aPick t127 t132 (.bool false) fun t133 =>
 aGuardJ t133 true H (fun K' => aFld 2 t4 (K' · H)) fun t135 H =>
 aGuardJ t133 true H (fun K' => aLoad false 1 t135 H (K' · H)) fun t136 H =>
 aGuardJ t133 true H (fun K' => aClos n_zq90 [t3, t5] (K' · H)) fun t137 H =>
 aGuardJ t133 true H (fun K' => ACalls Tryz.prog n_zq86 [t136, t137] H K') fun t138 H =>
 aGuardJ t133 true H (fun K' => aUn .not t138 (K' · H)) fun t139 H =>
 aPick t133 t139 (.bool false) fun t140 =>
 K t140 H)
 (aBin .eql false t10 (.int .i64 8) fun t142 =>
 aTest t142
 (aFld 0 t4 fun t143 =>
 aLoad false 1 t143 H fun t144 =>
 aBin .eql false t144 (.int .i64 7) fun t145 =>
 aGuardJ t145 true H (fun K' => aFld 1 t4 (K' · H)) fun t147 H =>
 aGuardJ t145 true H (fun K' => aLoad false 1 t147 H (K' · H)) fun t148 H =>
 aGuardJ t145 true H (fun K' => aBin .eql false t148 (.int .i64 0) (K' · H)) fun t149 H =>
 aPick t145 t149 (.bool false) fun t150 =>
 aGuardJ t150 true H (fun K' => aLoad false 1 t3 H (K' · H)) fun t152 H =>
 aGuardJ t150 true H (fun K' => aFld 2 t4 (K' · H)) fun t153 H =>
 aGuardJ t150 true H (fun K' => aLoad false 1 t153 H (K' · H)) fun t154 H =>
 aGuardJ t150 true H (fun K' => aFld 2 t5 (K' · H)) fun t155 H =>
 aGuardJ t150 true H (fun K' => aLoad false 1 t155 H (K' · H)) fun t156 H =>
 aGuardJ t150 true H (fun K' => ACalls Tryz.prog n_zq88 [t152, t154, t156] H K') fun t157 H =>
 aPick t150 t157 (.bool false) fun t158 =>
 K t158 H)
 (aBin .eql false t10 (.int .i64 9) fun t160 =>
 aTest t160
 (aFld 0 t4 fun t161 =>
 aLoad false 1 t161 H fun t162 =>
 aBin .eql false t162 (.int .i64 8) fun t163 =>
 aGuardJ t163 true H (fun K' => aFld 1 t4 (K' · H)) fun t165 H =>
 aGuardJ t163 true H (fun K' => aLoad false 1 t165 H (K' · H)) fun t166 H =>
 aGuardJ t163 true H (fun K' => aBin .leq false (.int .i64 0) t166 (K' · H)) fun t167 H =>
 aPick t163 t167 (.bool false) fun t168 =>
 aGuardJ t168 true H (fun K' => aFld 1 t4 (K' · H)) fun t170 H =>
 aGuardJ t168 true H (fun K' => aLoad false 1 t170 H (K' · H)) fun t171 H =>
 aGuardJ t168 true H (fun K' => aBin .lss false t171 (.int .i64 64) (K' · H)) fun t172 H =>
 aPick t168 t172 (.bool false) fun t173 =>
 aGuardJ t173 true H (fun K' => aFld 2 t4 (K' · H)) fun t175 H =>
 aGuardJ t173 true H (fun K' => aLoad false 1 t175 H (K' · H)) fun t176 H =>
 aGuardJ t173 true H (fun K' => aLen 1 t176 (K' · H)) fun t177 H =>
 aGuardJ t173 true H (fun K' => aBin .eql false t177 (.int .i64 0) (K' · H)) fun t178 H =>
 aPick t173 t178 (.bool false) fun t179 =>
 K t179 H)
 (K (.bool false) H))))))))
theorem zq50_eq (t0 t1 t2 : AV) (H : Heap) (K : Kt) : awp Tryz.prog zq50_M zq50_c (retQ Tryz.prog zq50_r K) (t0 :: t1 :: t2 :: List.replicate 177 .unk) H = zq50 t0 t1 t2 H K := by kernel_rfl
theorem zq50_ok {t0 t1 t2 : AV} {H : Heap} {K : Kt} (h : HSc H → zq50 t0 t1 t2 H K) : ACalls Tryz.prog n_zq50 [t0, t1, t2] H K :=
 acalls_body (M := zq50_M) Tryz.func52 (c := zq50_c) (by kernel_rfl) (fun hs => (zq50_eq t0 t1 t2 H K).mpr (h hs))
def zq88_M (_ : Nat) : List Bool := []
noncomputable def zq88_c : Code := Tryz.f90.body.getD .skip
noncomputable def zq88_r : List ResultVar := Tryz.f90.results.toList
def zq88 (t0 t1 t2 : AV) (H : Heap) (K : Kt) : Prop :=
 aBox t0 H fun t3 H =>
 aClos n_zq156 [t3] fun t9 =>
 ACalls Tryz.prog n_zq155 [t1, t2, t9] H fun t10 H =>
 K t10 H
theorem zq88_eq (t0 t1 t2 : AV) (H : Heap) (K : Kt) : awp Tryz.prog zq88_M zq88_c (retQ Tryz.prog zq88_r K) (t0 :: t1 :: t2 :: List.replicate 8 .unk) H = zq88 t0 t1 t2 H K := by kernel_rfl
theorem zq88_ok {t0 t1 t2 : AV} {H : Heap} {K : Kt} (h : HSc H → zq88 t0 t1 t2 H K) : ACalls Tryz.prog n_zq88 [t0, t1, t2] H K :=
 acalls_body (M := zq88_M) Tryz.func90 (c := zq88_c) (by kernel_rfl) (fun hs => (zq88_eq t0 t1 t2 H K).mpr (h hs))
def zq90_M (_ : Nat) : List Bool := []
noncomputable def zq90_c : Code := Tryz.f92.body.getD .skip
noncomputable def zq90_r : List ResultVar := Tryz.f92.results.toList
def zq90 (t0 t1 t2 : AV) (H : Heap) (K : Kt) : Prop :=
 aBox t0 H fun t3 H =>
 aPure H (fun K' => aLoadC false 1 t1 H (K' · H)) fun t5 =>
 aPure H (fun K' => aLoadC true 3 t3 H (K' · H)) fun t6 =>
 aPure H (fun K' => aFld 2 t2 (K' · H)) fun t7 =>
 aPure H (fun K' => aLoadC false 1 t7 H (K' · H)) fun t8 =>
 aPure H (fun K' => aIdxA 3 t8 (.int .i64 0) (K' · H)) fun t9 =>
 aPure H (fun K' => aLoadC true 3 t9 H (K' · H)) fun t10 =>
 aPureX H (fun H K' => ACalls Tryz.prog n_zq50 [t5, t6, t10] H K') fun t11 =>
 aPure H (fun K' => aUn .not t11 (K' · H)) fun t12 =>
 aPure H (fun K' => K' t12 H) fun t4 =>
 K t4 H
theorem zq90_eq (t0 t1 t2 : AV) (H : Heap) (K : Kt) : awp Tryz.prog zq90_M zq90_c (retQ Tryz.prog zq90_r K) (t0 :: t1 :: t2 :: List.replicate 10 .unk) H = zq90 t0 t1 t2 H K := by kernel_rfl
theorem zq90_ok {t0 t1 t2 : AV} {H : Heap} {K : Kt} (h : HSc H → zq90 t0 t1 t2 H K) : ACalls Tryz.prog n_zq90 [t0, t1, t2] H K :=
 acalls_body (M := zq90_M) Tryz.func92 (c := zq90_c) (by kernel_rfl) (fun hs => (zq90_eq t0 t1 t2 H K).mpr (h hs))
def zq155_M : Nat → List Bool
 | 4 => rl false [1,2,12,3,14]
 | _ => []
noncomputable def zq155_c : Code := Tryz.f157.body.getD .skip
noncomputable def zq155_r : List ResultVar := Tryz.f157.results.toList
def zq155_fr4 (t1 t2 t15 t16 t17 : AV) : List AV := ux 1 (t1 :: t2 :: ux 12 (t15 :: t16 :: t17 :: ux 14 []))
def zq155_m4 : List Bool := zq155_M 4
noncomputable def zq155_c4 : Code := codeAt [1, 1, 0, 1, 0, 0] zq155_c
def zq155_Q4 (K : Kt) : AExit → List AV → Heap → Prop := contAt Tryz.prog zq155_M [1, 1, 0, 1, 0] zq155_c (retQ Tryz.prog zq155_r K)
def zq155_l4 (t1 t2 t15 t16 t17 : AV) (H : Heap) (K : Kt) : Prop := ALoop Tryz.prog zq155_c4 (zq155_Q4 K) (zq155_fr4 t1 t2 t15 t16 t17) H
def zq155_b4 (t1 t2 t15 t16 t17 : AV) (H : Heap) (K : Kt) (Kb4 : Lt) : Prop :=
 aBin .lss false t17 t16 fun t18 =>
 aTest t18
 (aIdxA 3 t15 t17 fun t20 =>
 aLoad true 3 t20 H fun t21 =>
 aNew [(.int .i64 0), (.int .i64 0), .snil] H fun t8 H =>
 aStore 3 t8 t21 H fun H =>
 aIdxA 3 t1 t17 fun t24 =>
 aLoad true 3 t24 H fun t25 =>
 aNew [(.int .i64 0), (.int .i64 0), .snil] H fun t9 H =>
 aStore 3 t9 t25 H fun H =>
 aLoad true 3 t8 H fun t27 =>
 aLoad true 3 t9 H fun t28 =>
 aCallV Tryz.prog t2 [t27, t28] H fun t29 H =>
 aUn .not t29 fun t30 =>
 aTest t30
 (K (.bool false) H)
 (aBin .add false t17 (.int .i64 1) fun t31 =>
 Kb4 (zq155_fr4 t1 t2 t15 t16 t31) H))
 (K (.bool true) H)
def zq155 (t0 t1 t2 : AV) (H : Heap) (K : Kt) : Prop :=
 aLen 1 t0 fun t11 =>
 aLen 1 t1 fun t13 =>
 aBin .neq false t11 t13 fun t14 =>
 aTest t14
 (K (.bool false) H)
 (aLen 1 t0 fun t16 =>
 zq155_l4 t1 t2 t0 t16 (.int .i64 0) H K)
theorem zq155_b4_eq (t1 t2 t15 t16 t17 : AV) (H : Heap) (K : Kt) (Kb4 : Lt) : awp Tryz.prog zq155_M zq155_c4 (roundQ zq155_m4 Kb4 (zq155_Q4 K)) (zq155_fr4 t1 t2 t15 t16 t17) H = zq155_b4 t1 t2 t15 t16 t17 H K Kb4 := by kernel_rfl
theorem zq155_loop4 {t1 t2 t15 t16 t17 : AV} {H : Heap} {K : Kt} (Inv : Nat → AV → Heap → Prop) (n : Nat) (h0 : HSc H → Inv n t17 H)
  (round : ∀ n t17 H', Inv n t17 H' → HSc H' → H.length ≤ H'.length → (zq155_fr4 t1 t2 t15 t16 t17).all (AV.sc H'.length) = true → ∀ Kb4 : Lt, (∀ F'' H'', (∃ n', n' < n ∧ Back H.length (fun F2 H2 => ∃ t17, F2 = zq155_fr4 t1 t2 t15 t16 t17 ∧ Inv n' t17 H2) F'' H'') → Kb4 F'' H'') → zq155_b4 t1 t2 t15 t16 t17 H' K Kb4) : zq155_l4 t1 t2 t15 t16 t17 H K :=
 aloop (M := zq155_M) zq155_m4 (fun n F H => ∃ t17, F = zq155_fr4 t1 t2 t15 t16 t17 ∧ Inv n t17 H) n (fun hs _ => ⟨t17, rfl, h0 hs⟩) (fun n F H' ⟨t17, hF, hI⟩ h1 h2 h3 => by subst hF; rw [zq155_b4_eq]; exact round n t17 H' hI h1 h2 h3 _ (fun _ _ h => h))
theorem zq155_eq (t0 t1 t2 : AV) (H : Heap) (K : Kt) : awp Tryz.prog zq155_M zq155_c (retQ Tryz.prog zq155_r K) (t0 :: t1 :: t2 :: List.replicate 29 .unk) H = zq155 t0 t1 t2 H K := by kernel_rfl
theorem zq155_ok {t0 t1 t2 : AV} {H : Heap} {K : Kt} (h : HSc H → zq155 t0 t1 t2 H K) : ACalls Tryz.prog n_zq155 [t0, t1, t2] H K :=
 acalls_body (M := zq155_M) Tryz.func157 (c := zq155_c) (by kernel_rfl) (fun hs => (zq155_eq t0 t1 t2 H K).mpr (h hs))
def zq156_M (_ : Nat) : List Bool := []
noncomputable def zq156_c : Code := Tryz.f158.body.getD .skip
noncomputable def zq156_r : List ResultVar := Tryz.f158.results.toList
def zq156 (t0 t1 t2 : AV) (H : Heap) (K : Kt) : Prop :=
 aBox t0 H fun t3 H =>
 aBox t1 H fun t4 H =>
 aLoad false 1 t2 H fun t6 =>
 aLoad true 3 t3 H fun t7 =>
 aLoad true 3 t4 H fun t8 =>
 ACalls Tryz.prog n_zq50 [t6, t7, t8] H fun t9 H =>
 K t9 H
theorem zq156_eq (t0 t1 t2 : AV) (H : Heap) (K : Kt) : awp Tryz.prog zq156_M zq156_c (retQ Tryz.prog zq156_r K) (t0 :: t1 :: t2 :: List.replicate 7 .unk) H = zq156 t0 t1 t2 H K := by kernel_rfl
theorem zq156_ok {t0 t1 t2 : AV} {H : Heap} {K : Kt} (h : HSc H → zq156 t0 t1 t2 H K) : ACalls Tryz.prog n_zq156 [t0, t1, t2] H K :=
 acalls_body (M := zq156_M) Tryz.func158 (c := zq156_c) (by kernel_rfl) (fun hs => (zq156_eq t0 t1 t2 H K).mpr (h hs))
def zq53_M : Nat → List Bool
 | 5 => rl false [1,2,2,1,24]
 | _ => []
noncomputable def zq53_c : Code := Tryz.f55.body.getD .skip
noncomputable def zq53_r : List ResultVar := Tryz.f55.results.toList
def zq53_fr5 (t1 t2 t5 : AV) : List AV := ux 1 (t1 :: t2 :: ux 2 (t5 :: ux 24 []))
def zq53_m5 : List Bool := zq53_M 5
noncomputable def zq53_c5 : Code := codeAt [1, 1, 1, 0, 1, 0, 0] zq53_c
def zq53_Q5 (K : Kt) : AExit → List AV → Heap → Prop := contAt Tryz.prog zq53_M [1, 1, 1, 0, 1, 0] zq53_c (retQ Tryz.prog zq53_r K)
def zq53_l5 (t1 t2 t5 : AV) (H : Heap) (K : Kt) : Prop := ALoop Tryz.prog zq53_c5 (zq53_Q5 K) (zq53_fr5 t1 t2 t5) H
def zq53_b5 (t1 t2 t5 : AV) (H : Heap) (K : Kt) (Kb5 : Lt) : Prop :=
 aFld 2 t2 fun t16 =>
 aLoad false 1 t16 H fun t17 =>
 aLen 1 t17 fun t18 =>
 aBin .lss false t5 t18 fun t19 =>
 aTest t19
 (aFld 2 t2 fun t22 =>
 aLoad false 1 t22 H fun t23 =>
 aIdxA 3 t23 t5 fun t25 =>
 aLoad true 3 t25 H fun t26 =>
 ACalls Tryz.prog n_zq53 [t26, t1] H fun t28 H =>
 aUn .not t28 fun t29 =>
 aTest t29
 (K (.bool false) H)
 (aBin .add false t5 (.int .i64 1) fun t21 =>
 Kb5 (zq53_fr5 t1 t2 t21) H))
 (K (.bool true) H)
def zq53 (t0 t1 : AV) (H : Heap) (K : Kt) : Prop :=
 aBox t0 H fun t2 H =>
 aNil t1 fun t7 =>
 aLoad false 1 t7 H fun t8 =>
 aBin .sub false t8 (.int .i64 1) fun t9 =>
 aNil t1 fun t10 =>
 aStore 1 t10 t9 H fun H =>
 aNil t1 fun t12 =>
 aLoad false 1 t12 H fun t13 =>
 aBin .lss false t13 (.int .i64 0) fun t14 =>
 aTest t14
 (K (.bool false) H)
 (zq53_l5 t1 t2 (.int .i64 0) H K)
theorem zq53_b5_eq (t1 t2 t5 : AV) (H : Heap) (K : Kt) (Kb5 : Lt) : awp Tryz.prog zq53_M zq53_c5 (roundQ zq53_m5 Kb5 (zq53_Q5 K)) (zq53_fr5 t1 t2 t5) H = zq53_b5 t1 t2 t5 H K Kb5 := by kernel_rfl
theorem zq53_loop5 {t1 t2 t5 : AV} {H : Heap} {K : Kt} (Inv : Nat → AV → Heap → Prop) (n : Nat) (h0 : HSc H → Inv n t5 H)
  (round : ∀ n t5 H', Inv n t5 H' → HSc H' → H.length ≤ H'.length → (zq53_fr5 t1 t2 t5).all (AV.sc H'.length) = true → ∀ Kb5 : Lt, (∀ F'' H'', (∃ n', n' < n ∧ Back H.length (fun F2 H2 => ∃ t5, F2 = zq53_fr5 t1 t2 t5 ∧ Inv n' t5 H2) F'' H'') → Kb5 F'' H'') → zq53_b5 t1 t2 t5 H' K Kb5) : zq53_l5 t1 t2 t5 H K :=
 aloop (M := zq53_M) zq53_m5 (fun n F H => ∃ t5, F = zq53_fr5 t1 t2 t5 ∧ Inv n t5 H) n (fun hs _ => ⟨t5, rfl, h0 hs⟩) (fun n F H' ⟨t5, hF, hI⟩ h1 h2 h3 => by subst hF; rw [zq53_b5_eq]; exact round n t5 H' hI h1 h2 h3 _ (fun _ _ h => h))
theorem zq53_eq (t0 t1 : AV) (H : Heap) (K : Kt) : awp Tryz.prog zq53_M zq53_c (retQ Tryz.prog zq53_r K) (t0 :: t1 :: List.replicate 28 .unk) H = zq53 t0 t1 H K := by kernel_rfl
theorem zq53_ok {t0 t1 : AV} {H : Heap} {K : Kt} (h : HSc H → zq53 t0 t1 H K) : ACalls Tryz.prog n_zq53 [t0, t1] H K :=
 acalls_body (M := zq53_M) Tryz.func55 (c := zq53_c) (by kernel_rfl) (fun hs => (zq53_eq t0 t1 H K).mpr (h hs))
def zq54_M : Nat → List Bool
 | 21 => rl false [0,1,3,2,1,1,2,1,174]
 | _ => []
noncomputable def zq54_c : Code := Tryz.f56.body.getD .skip
noncomputable def zq54_r : List ResultVar := Tryz.f56.results.toList
def zq54_fr21 (t0 t4 t5 t7 t10 : AV) : List AV := t0 :: ux 3 (t4 :: t5 :: ux 1 (t7 :: ux 2 (t10 :: ux 174 [])))
def zq54_m21 : List Bool := zq54_M 21
noncomputable def zq54_c21 : Code := codeAt [1, 1, 0, 1, 0, 1, 1, 1, 1, 1, 1, 1, 1, 1, 1, 1, 0, 1, 0, 1, 0, 0] zq54_c
def zq54_Q21 (K : Kt) : AExit → List AV → Heap → Prop := contAt Tryz.prog zq54_M [1, 1, 0, 1, 0, 1, 1, 1, 1, 1, 1, 1, 1, 1, 1, 1, 0, 1, 0, 1, 0] zq54_c (retQ Tryz.prog zq54_r K)
def zq54_l21 (t0 t4 t5 t7 t10 : AV) (H : Heap) (K : Kt) : Prop := ALoop Tryz.prog zq54_c21 (zq54_Q21 K) (zq54_fr21 t0 t4 t5 t7 t10) H
def zq54_b21 (t0 t4 t5 t7 t10 : AV) (H : Heap) (K : Kt) (Kb21 : Lt) : Prop :=
 aBin .lss false t10 t7 fun t153 =>
 aTest t153
 (aPure H (fun K' => K' t0 H) fun t156 =>
 aPure H (fun K' => aFld 2 t4 (K' · H)) fun t157 =>
 aPure H (fun K' => aLoadC false 1 t157 H (K' · H)) fun t158 =>
 aPure H (fun K' => K' t10 H) fun t159 =>
 aPure H (fun K' => aIdxA 3 t158 t159 (K' · H)) fun t160 =>
 aPure H (fun K' => aLoadC true 3 t160 H (K' · H)) fun t161 =>
 aPure H (fun K' => aFld 2 t5 (K' · H)) fun t162 =>
 aPure H (fun K' => aLoadC false 1 t162 H (K' · H)) fun t163 =>
 aPure H (fun K' => aIdxA 3 t163 (.int .i64 0) (K' · H)) fun t164 =>
 aPure H (fun K' => aLoadC true 3 t164 H (K' · H)) fun t165 =>
 aPureX H (fun H K' => ACalls Tryz.prog n_zq54 [t156, t161, t165] H K') fun t166 =>
 aPure H (fun K' => aUn .not t166 (K' · H)) fun t167 =>
 aTest t167
 (K (.bool false) H)
 (aBin .add false t10 (.int .i64 1) fun t155 =>
 Kb21 (zq54_fr21 t0 t4 t5 t7 t155) H))
 (K (.bool true) H)
def zq54_j1 (t0 t4 t5 t7 t117 : AV) (H : Heap) (K : Kt) : Prop :=
 aTest t117
 (aFld 0 t5 fun t120 =>
 aLoad false 1 t120 H fun t121 =>
 aBin .eql false t121 (.int .i64 7) fun t122 =>
 aGuardJ t122 true H (fun K' => aFld 0 t4 (K' · H)) fun t124 H =>
 aGuardJ t122 true H (fun K' => aLoad false 1 t124 H (K' · H)) fun t125 H =>
 aGuardJ t122 true H (fun K' => aBin .neq false t125 (.int .i64 6) (K' · H)) fun t126 H =>
 aGuardJ t122 true H (fun K' => K' t126 H) fun t127 H =>
 aGuardJ t127 false H (fun K' => K' t7 H) fun t128 H =>
 aGuardJ t127 false H (fun K' => aBin .gtr false t128 (.int .i64 4096) (K' · H)) fun t129 H =>
 aGuardJ t122 true H (fun K' => aPick t127 (.bool true) t129 (K' · H)) fun t130 H =>
 aPick t122 t130 (.bool false) fun t131 =>
 aGuardJ t131 false H (fun K' => aFld 0 t5 (K' · H)) fun t133 H =>
 aGuardJ t131 false H (fun K' => aLoad false 1 t133 H (K' · H)) fun t134 H =>
 aGuardJ t131 false H (fun K' => aBin .eql false t134 (.int .i64 8) (K' · H)) fun t135 H =>
 aGuardJ t131 false H (fun K' => K' t135 H) fun t136 H =>
 aGuardJ t136 true H (fun K' => aFld 0 t4 (K' · H)) fun t137 H =>
 aGuardJ t136 true H (fun K' => aLoad false 1 t137 H (K' · H)) fun t138 H =>
 aGuardJ t136 true H (fun K' => aBin .neq false t138 (.int .i64 7) (K' · H)) fun t139 H =>
 aGuardJ t136 true H (fun K' => K' t139 H) fun t140 H =>
 aGuardJ t140 false H (fun K' => K' t7 H) fun t141 H =>
 aGuardJ t140 false H (fun K' => aBin .neq false t141 (.int .i64 1) (K' · H)) fun t142 H =>
 aGuardJ t136 true H (fun K' => aPick t140 (.bool true) t142 (K' · H)) fun t143 H =>
 aGuardJ t131 false H (fun K' => aPick t136 t143 (.bool false) (K' · H)) fun t144 H =>
 aPick t131 (.bool true) t144 fun t145 =>
 aGuardJ t145 false H (fun K' => aFld 1 t4 (K' · H)) fun t147 H =>
 aGuardJ t145 false H (fun K' => aLoad false 1 t147 H (K' · H)) fun t148 H =>
 aGuardJ t145 false H (fun K' => aBin .neq false t148 (.int .i64 0) (K' · H)) fun t149 H =>
 aPick t145 (.bool true) t149 fun t150 =>
 aTest t150
 (K (.bool false) H)
 (zq54_l21 t0 t4 t5 t7 (.int .i64 0) H K))
 (aFld 0 t4 fun t168 =>
 aLoad false 1 t168 H fun t169 =>
 aBin .eql false t169 (.int .i64 8) fun t170 =>
 aGuardJ t170 true H (fun K' => aFld 1 t4 (K' · H)) fun t172 H =>
 aGuardJ t170 true H (fun K' => aLoad false 1 t172 H (K' · H)) fun t173 H =>
 aGuardJ t170 true H (fun K' => aBin .geq false t173 (.int .i64 0) (K' · H)) fun t174 H =>
 aPick t170 t174 (.bool false) fun t175 =>
 aGuardJ t175 true H (fun K' => aFld 1 t4 (K' · H)) fun t177 H =>
 aGuardJ t175 true H (fun K' => aLoad false 1 t177 H (K' · H)) fun t178 H =>
 aGuardJ t175 true H (fun K' => aBin .lss false t178 (.int .i64 64) (K' · H)) fun t179 H =>
 aPick t175 t179 (.bool false) fun t180 =>
 aGuardJ t180 true H (fun K' => K' t7 H) fun t182 H =>
 aGuardJ t180 true H (fun K' => aBin .eql false t182 (.int .i64 0) (K' · H)) fun t183 H =>
 aPick t180 t183 (.bool false) fun t184 =>
 K t184 H)
def zq54 (t0 t1 t2 : AV) (H : Heap) (K : Kt) : Prop :=
 aBox t1 H fun t4 H =>
 aBox t2 H fun t5 H =>
 aFld 2 t4 fun t11 =>
 aLoad false 1 t11 H fun t12 =>
 aLen 1 t12 fun t13 =>
 aFld 0 t5 fun t14 =>
 aLoad false 1 t14 H fun t15 =>
 aBin .eql false t15 (.int .i64 3) fun t17 =>
 aTest t17
 (aFld 0 t4 fun t18 =>
 aLoad false 1 t18 H fun t19 =>
 aBin .eql false t19 (.int .i64 1) fun t20 =>
 aGuardJ t20 true H (fun K' => aFld 1 t4 (K' · H)) fun t22 H =>
 aGuardJ t20 true H (fun K' => aLoad false 1 t22 H (K' · H)) fun t23 H =>
 aGuardJ t20 true H (fun K' => aBin .eql false t23 (.int .i64 0) (K' · H)) fun t24 H =>
 aPick t20 t24 (.bool false) fun t25 =>
 aGuardJ t25 true H (fun K' => K' t13 H) fun t27 H =>
 aGuardJ t25 true H (fun K' => aBin .eql false t27 (.int .i64 0) (K' · H)) fun t28 H =>
 aPick t25 t28 (.bool false) fun t29 =>
 K t29 H)
 (aBin .eql false t15 (.int .i64 2) fun t31 =>
 aTest t31
 (aFld 0 t4 fun t32 =>
 aLoad false 1 t32 H fun t33 =>
 aBin .eql false t33 (.int .i64 2) fun t34 =>
 aGuardJ t34 true H (fun K' => aFld 1 t4 (K' · H)) fun t36 H =>
 aGuardJ t34 true H (fun K' => aLoad false 1 t36 H (K' · H)) fun t37 H =>
 aGuardJ t34 true H (fun K' => aBin .eql false t37 (.int .i64 0) (K' · H)) fun t38 H =>
 aGuardJ t34 true H (fun K' => K' t38 H) fun t39 H =>
 aGuardJ t39 false H (fun K' => aFld 1 t4 (K' · H)) fun t40 H =>
 aGuardJ t39 false H (fun K' => aLoad false 1 t40 H (K' · H)) fun t41 H =>
 aGuardJ t39 false H (fun K' => aBin .eql false t41 (.int .i64 1) (K' · H)) fun t42 H =>
 aGuardJ t34 true H (fun K' => aPick t39 (.bool true) t42 (K' · H)) fun t43 H =>
 aPick t34 t43 (.bool false) fun t44 =>
 aGuardJ t44 true H (fun K' => K' t13 H) fun t46 H =>
 aGuardJ t44 true H (fun K' => aBin .eql false t46 (.int .i64 0) (K' · H)) fun t47 H =>
 aPick t44 t47 (.bool false) fun t48 =>
 K t48 H)
 (aBin .eql false t15 (.int .i64 1) fun t50 =>
 aTest t50
 (aFld 0 t4 fun t51 =>
 aLoad false 1 t51 H fun t52 =>
 aBin .eql false t52 (.int .i64 3) fun t53 =>
 aGuardJ t53 true H (fun K' => aFld 1 t4 (K' · H)) fun t55 H =>
 aGuardJ t53 true H (fun K' => aLoad false 1 t55 H (K' · H)) fun t56 H =>
 aGuardJ t53 true H (fun K' => aBin .geq false t56 (.int .i64 (-1099511627776)) (K' · H)) fun t57 H =>
 aPick t53 t57 (.bool false) fun t58 =>
 aGuardJ t58 true H (fun K' => aFld 1 t4 (K' · H)) fun t60 H =>
 aGuardJ t58 true H (fun K' => aLoad false 1 t60 H (K' · H)) fun t61 H =>
 aGuardJ t58 true H (fun K' => aBin .leq false t61 (.int .i64 1099511627776) (K' · H)) fun t62 H =>
 aPick t58 t62 (.bool false) fun t63 =>
 aGuardJ t63 true H (fun K' => K' t13 H) fun t65 H =>
 aGuardJ t63 true H (fun K' => aBin .eql false t65 (.int .i64 0) (K' · H)) fun t66 H =>
 aPick t63 t66 (.bool false) fun t67 =>
 K t67 H)
 (aBin .eql false t15 (.int .i64 6) fun t69 =>
 aTest t69
 (aFld 0 t4 fun t70 =>
 aLoad false 1 t70 H fun t71 =>
 aBin .eql false t71 (.int .i64 4) fun t72 =>
 aGuardJ t72 true H (fun K' => aFld 1 t4 (K' · H)) fun t74 H =>
 aGuardJ t72 true H (fun K' => aLoad false 1 t74 H (K' · H)) fun t75 H =>
 aGuardJ t72 true H (fun K' => aBin .eql false t75 (.int .i64 0) (K' · H)) fun t76 H =>
 aPick t72 t76 (.bool false) fun t77 =>
 aGuardJ t77 true H (fun K' => K' t0 H) fun t79 H =>
 aGuardJ t77 true H (fun K' => aFld 2 t4 (K' · H)) fun t80 H =>
 aGuardJ t77 true H (fun K' => aLoad false 1 t80 H (K' · H)) fun t81 H =>
 aGuardJ t77 true H (fun K' => aFld 2 t5 (K' · H)) fun t82 H =>
 aGuardJ t77 true H (fun K' => aLoad false 1 t82 H (K' · H)) fun t83 H =>
 aGuardJ t77 true H (fun K' => ACalls Tryz.prog n_zq95 [t79, t81, t83] H K') fun t84 H =>
 aPick t77 t84 (.bool false) fun t85 =>
 K t85 H)
 (aBin .eql false t15 (.int .i64 5) fun t87 =>
 aTest t87
 (aFld 0 t4 fun t88 =>
 aLoad false 1 t88 H fun t89 =>
 aBin .neq false t89 (.int .i64 5) fun t90 =>
 aGuardJ t90 false H (fun K' => aFld 1 t4 (K' · H)) fun t92 H =>
 aGuardJ t90 false H (fun K' => aLoad false 1 t92 H (K' · H)) fun t93 H =>
 aGuardJ t90 false H (fun K' => aBin .lss false t93 (.int .i64 0) (K' · H)) fun t94 H =>
 aPick t90 (.bool true) t94 fun t95 =>
 aGuardJ t95 false H (fun K' => aFld 1 t4 (K' · H)) fun t97 H =>
 aGuardJ t95 false H (fun K' => aLoad false 1 t97 H (K' · H)) fun t98 H =>
 aGuardJ t95 false H (fun K' => aBin .geq false t98 (.int .i64 8) (K' · H)) fun t99 H =>
 aPick t95 (.bool true) t99 fun t100 =>
 aTest t100
 (K (.bool false) H)
 (aLoad true 3 t5 H fun t103 =>
 aFld 1 t4 fun t104 =>
 aLoad false 1 t104 H fun t105 =>
 ACalls Tryz.prog n_zq96 [t0, t103, t105] H fun t106 H =>
 aExt t106 0 fun t107 =>
 aExt t106 1 fun t108 =>
 aGuardJ t108 true H (fun K' => K' t0 H) fun t111 H =>
 aGuardJ t108 true H (fun K' => aFld 2 t4 (K' · H)) fun t112 H =>
 aGuardJ t108 true H (fun K' => aLoad false 1 t112 H (K' · H)) fun t113 H =>
 aGuardJ t108 true H (fun K' => K' t107 H) fun t114 H =>
 aGuardJ t108 true H (fun K' => ACalls Tryz.prog n_zq95 [t111, t113, t114] H K') fun t115 H =>
 aPick t108 t115 (.bool false) fun t116 =>
 K t116 H))
 (aBin .eql false t15 (.int .i64 7) fun t118 =>
 aTest t118
 (zq54_j1 t0 t4 t5 t13 t118 H K)
 (aBin .eql false t15 (.int .i64 8) fun t119 =>
 zq54_j1 t0 t4 t5 t13 t119 H K))))))
theorem zq54_b21_eq (t0 t4 t5 t7 t10 : AV) (H : Heap) (K : Kt) (Kb21 : Lt) : awp Tryz.prog zq54_M zq54_c21 (roundQ zq54_m21 Kb21 (zq54_Q21 K)) (zq54_fr21 t0 t4 t5 t7 t10) H = zq54_b21 t0 t4 t5 t7 t10 H K Kb21 := by kernel_rfl
theorem zq54_loop21 {t0 t4 t5 t7 t10 : AV} {H : Heap} {K : Kt} (Inv : Nat → AV → Heap → Prop) (n : Nat) (h0 : HSc H → Inv n t10 H)
  (round : ∀ n t10 H', Inv n t10 H' → HSc H' → H.length ≤ H'.length → (zq54_fr21 t0 t4 t5 t7 t10).all (AV.sc H'.length) = true → ∀ Kb21 : Lt, (∀ F'' H'', (∃ n', n' < n ∧ Back H.length (fun F2 H2 => ∃ t10, F2 = zq54_fr21 t0 t4 t5 t7 t10 ∧ Inv n' t10 H2) F'' H'') → Kb21 F'' H'') → zq54_b21 t0 t4 t5 t7 t10 H' K Kb21) : zq54_l21 t0 t4 t5 t7 t10 H K :=
 aloop (M := zq54_M) zq54_m21 (fun n F H => ∃ t10, F = zq54_fr21 t0 t4 t5 t7 t10 ∧ Inv n t10 H) n (fun hs _ => ⟨t10, rfl, h0 hs⟩) (fun n F H' ⟨t10, hF, hI⟩ h1 h2 h3 => by subst hF; rw [zq54_b21_eq]; exact round n t10 H' hI h1 h2 h3 _ (fun _ _ h => h))
theorem zq54_eq (t0 t1 t2 : AV) (H : Heap) (K : Kt) : awp Tryz.prog zq54_M zq54_c (retQ Tryz.prog zq54_r K) (t0 :: t1 :: t2 :: List.replicate 182 .unk) H = zq54 t0 t1 t2 H K := by kernel_rfl
theorem zq54_ok {t0 t1 t2 : AV} {H : Heap} {K : Kt} (h : HSc H → zq54 t0 t1 t2 H K) : ACalls Tryz.prog n_zq54 [t0, t1, t2] H K :=
 acalls_body (M := zq54_M) Tryz.func56 (c := zq54_c) (by kernel_rfl) (fun hs => (zq54_eq t0 t1 t2 H K).mpr (h hs))
def zq95_M : Nat → List Bool
 | 4 => rl false [0,3,4,1,22]
 | _ => []
noncomputable def zq95_c : Code := Tryz.f97.body.getD .skip
noncomputable def zq95_r : List ResultVar := Tryz.f97.results.toList
def zq95_fr4 (t0 t1 t2 t7 : AV) : List AV := t0 :: t1 :: t2 :: ux 4 (t7 :: ux 22 [])
def zq95_m4 : List Bool := zq95_M 4
noncomputable def zq95_c4 : Code := codeAt [1, 1, 0, 1, 0, 0] zq95_c
def zq95_Q4 (K : Kt) : AExit → List AV → Heap → Prop := contAt Tryz.prog zq95_M [1, 1, 0, 1, 0] zq95_c (retQ Tryz.prog zq95_r K)
def zq95_l4 (t0 t1 t2 t7 : AV) (H : Heap) (K : Kt) : Prop := ALoop Tryz.prog zq95_c4 (zq95_Q4 K) (zq95_fr4 t0 t1 t2 t7) H
def zq95_b4 (t0 t1 t2 t7 : AV) (H : Heap) (K : Kt) (Kb4 : Lt) : Prop :=
 aLen 1 t1 fun t15 =>
 aBin .lss false t7 t15 fun t16 =>
 aTest t16
 (aPure H (fun K' => K' t0 H) fun t19 =>
 aPure H (fun K' => K' t1 H) fun t20 =>
 aPure H (fun K' => K' t7 H) fun t21 =>
 aPure H (fun K' => aIdxA 3 t20 t21 (K' · H)) fun t22 =>
 aPure H (fun K' => aLoadC true 3 t22 H (K' · H)) fun t23 =>
 aPure H (fun K' => K' t2 H) fun t24 =>
 aPure H (fun K' => K' t7 H) fun t25 =>
 aPure H (fun K' => aIdxA 3 t24 t25 (K' · H)) fun t26 =>
 aPure H (fun K' => aLoadC true 3 t26 H (K' · H)) fun t27 =>
 aPureX H (fun H K' => ACalls Tryz.prog n_zq54 [t19, t23, t27] H K') fun t28 =>
 aPure H (fun K' => aUn .not t28 (K' · H)) fun t29 =>
 aTest t29
 (K (.bool false) H)
 (aBin .add false t7 (.int .i64 1) fun t18 =>
 Kb4 (zq95_fr4 t0 t1 t2 t18) H))
 (K (.bool true) H)
def zq95 (t0 t1 t2 : AV) (H : Heap) (K : Kt) : Prop :=
 aLen 1 t1 fun t9 =>
 aLen 1 t2 fun t11 =>
 aBin .neq false t9 t11 fun t12 =>
 aTest t12
 (K (.bool false) H)
 (zq95_l4 t0 t1 t2 (.int .i64 0) H K)
theorem zq95_b4_eq (t0 t1 t2 t7 : AV) (H : Heap) (K : Kt) (Kb4 : Lt) : awp Tryz.prog zq95_M zq95_c4 (roundQ zq95_m4 Kb4 (zq95_Q4 K)) (zq95_fr4 t0 t1 t2 t7) H = zq95_b4 t0 t1 t2 t7 H K Kb4 := by kernel_rfl
theorem zq95_loop4 {t0 t1 t2 t7 : AV} {H : Heap} {K : Kt} (Inv : Nat → AV → Heap → Prop) (n : Nat) (h0 : HSc H → Inv n t7 H)
  (round : ∀ n t7 H', Inv n t7 H' → HSc H' → H.length ≤ H'.length → (zq95_fr4 t0 t1 t2 t7).all (AV.sc H'.length) = true → ∀ Kb4 : Lt, (∀ F'' H'', (∃ n', n' < n ∧ Back H.length (fun F2 H2 => ∃ t7, F2 = zq95_fr4 t0 t1 t2 t7 ∧ Inv n' t7 H2) F'' H'') → Kb4 F'' H'') → zq95_b4 t0 t1 t2 t7 H' K Kb4) : zq95_l4 t0 t1 t2 t7 H K :=
 aloop (M := zq95_M) zq95_m4 (fun n F H => ∃ t7, F = zq95_fr4 t0 t1 t2 t7 ∧ Inv n t7 H) n (fun hs _ => ⟨t7, rfl, h0 hs⟩) (fun n F H' ⟨t7, hF, hI⟩ h1 h2 h3 => by subst hF; rw [zq95_b4_eq]; exact round n t7 H' hI h1 h2 h3 _ (fun _ _ h => h))
theorem zq95_eq (t0 t1 t2 : AV) (H : Heap) (K : Kt) : awp Tryz.prog zq95_M zq95_c (retQ Tryz.prog zq95_r K) (t0 :: t1 :: t2 :: List.replicate 27 .unk) H = zq95 t0 t1 t2 H K := by kernel_rfl
theorem zq95_ok {t0 t1 t2 : AV} {H : Heap} {K : Kt} (h : HSc H → zq95 t0 t1 t2 H K) : ACalls Tryz.prog n_zq95 [t0, t1, t2] H K :=
 acalls_body (M := zq95_M) Tryz.func97 (c := zq95_c) (by kernel_rfl) (fun hs => (zq95_eq t0 t1 t2 H K).mpr (h hs))
end Go.Proofs.YtfpmdpldabopjaaGreatDoor
namespace Go.Proofs.YtfpmdpldabopjaaGreatDoor
open Go Go.Abs
set_option maxRecDepth 8000
mutual
def hasV (data : List Dat) : VT → VT → Bool
 | .mk vk vn vks, .mk k n al =>
  if k = 1 then vk == 3 && decide (-1099511627776 ≤ vn) && decide (vn ≤ 1099511627776) && vks.length == 0
  else if k = 2 then vk == 2 && (vn == 0 || vn == 1) && vks.length == 0
  else if k = 3 then vk == 1 && vn == 0 && vks.length == 0
  else if k = 6 then vk == 4 && vn == 0 && hasL data vks al
  else if k = 5 then vk == 5 && decide (0 ≤ vn) && decide (vn < 8) && hasL? data vks (fields data (.mk k n al) vn)
  else if k = 7 then vk == 6 && vn == 0 && decide (vks.length ≤ 4096) && hasA data vks (al.getD 0 (.mk 0 0 []))
  else if k = 8 then vk == 7 && vn == 0 && hasL data vks al
  else vk == 8 && decide (0 ≤ vn) && decide (vn < 64) && vks.length == 0
def hasL? (data : List Dat) : List VT → Option (List VT) → Bool
 | _, none => false
 | [], some ts => ts.isEmpty
 | v :: vs, some ts => match ts with
  | [] => false
  | t :: ts => hasV data v t && hasL data vs ts
def hasL (data : List Dat) : List VT → List VT → Bool
 | [], ts => ts.isEmpty
 | v :: vs, ts => match ts with
  | [] => false
  | t :: ts => hasV data v t && hasL data vs ts
def hasA (data : List Dat) : List VT → VT → Bool
 | [], _ => true
 | v :: vs, t => hasV data v t && hasA data vs t
end
theorem hasL?_some (data : List Dat) (vs ts : List VT) : hasL? data vs (some ts) = hasL data vs ts := by
 cases vs with
 | nil => cases ts <;> rw [hasL?, hasL]
 | cons v vs => cases ts <;> simp only [hasL?, hasL]
theorem hasL?_none (data : List Dat) (vs : List VT) : hasL? data vs none = false := by cases vs <;> rw [hasL?]
theorem hasL_len {data : List Dat} : ∀ {vs ts : List VT}, hasL data vs ts = true → vs.length = ts.length
 | [], ts, h => by rw [hasL] at h; cases ts <;> simp at h ⊢
 | v :: vs, [], h => by simp [hasL] at h
 | v :: vs, t :: ts, h => by
  simp only [hasL, Bool.and_eq_true] at h
  simp [hasL_len h.2]
theorem hasL_at {data : List Dat} : ∀ {vs ts : List VT}, hasL data vs ts = true → ∀ (i : Nat) (h1 : i < vs.length) (h2 : i < ts.length), hasV data vs[i] ts[i] = true
 | [], ts, h => by intro i h1; simp at h1
 | v :: vs, [], h => by simp [hasL] at h
 | v :: vs, t :: ts, h => by
  simp only [hasL, Bool.and_eq_true] at h
  intro i h1 h2
  cases i with
  | zero => exact h.1
  | succ i => exact hasL_at h.2 i (by simpa using h1) (by simpa using h2)
theorem hasA_at {data : List Dat} {t : VT} : ∀ {vs : List VT}, hasA data vs t = true → ∀ v ∈ vs, hasV data v t = true
 | [], h => by simp
 | v :: vs, h => by
  simp only [hasA, Bool.and_eq_true] at h
  intro x hx
  rcases List.mem_cons.1 hx with rfl | hx
  ·exact h.1
  ·exact hasA_at h.2 x hx
theorem shape_sub {data : List Dat} {m : Nat} {vars k n : Int} {len : Nat} (h : shapeOk (data.take m) vars k n len = true) (h4 : k ≠ 4) : shapeOk data 0 k n len = true := by
 unfold shapeOk at h ⊢
 have h4' : (k == 4) = false := by simpa using h4
 rw [h4'] at h ⊢
 by_cases h5 : k = 5
 ·subst h5
  simp only [take_get] at h
  by_cases hm : n.toNat < m
  ·simpa [hm] using h
  ·simp [hm] at h
 ·have : (k == 5) = false := by simpa using h5
  simpa [this] using h
theorem substL_len (ks : List VT) : ∀ l : List VT, (substL ks l).length = l.length
 | [] => rfl
 | t :: ts => by simp [substL, substL_len ks ts]
mutual
theorem tyOk_subst {data : List Dat} {m : Nat} {vars : Int} {ks : List VT} (hk : ∀ x ∈ ks, tyOk data 0 x = true) (hl : (ks.length : Int) = vars) : ∀ a : VT, tyOk (data.take m) vars a = true → tyOk data 0 (subst ks a) = true
 | .mk k n al => by
  intro h
  rw [tyOk, Bool.and_eq_true] at h
  unfold subst
  by_cases h4 : k = 4
  ·have h1 := h.1
   subst h4
   simp [shapeOk] at h1
   rw [if_pos ⟨rfl, by omega, by omega⟩]
   have hn : n.toNat < ks.length := by omega
   rw [List.getElem?_eq_getElem hn]
   exact hk _ (List.getElem_mem hn)
  ·rw [if_neg (fun h => h4 h.1), tyOk, Bool.and_eq_true, substL_len]
   exact ⟨shape_sub h.1 h4, tyOkL_subst hk hl al h.2⟩
theorem tyOkL_subst {data : List Dat} {m : Nat} {vars : Int} {ks : List VT} (hk : ∀ x ∈ ks, tyOk data 0 x = true) (hl : (ks.length : Int) = vars) : ∀ l : List VT, tyOkL (data.take m) vars l = true → tyOkL data 0 (substL ks l) = true
 | [] => by intro _; simp [substL, tyOkL]
 | t :: ts => by
  intro h
  rw [tyOkL, Bool.and_eq_true] at h
  rw [substL, tyOkL, Bool.and_eq_true]
  exact ⟨tyOk_subst hk hl t h.1, tyOkL_subst hk hl ts h.2⟩
end
theorem tyOkL_mem {data : List Dat} {vars : Int} : ∀ {l : List VT}, tyOkL data vars l = true → ∀ x ∈ l, tyOk data vars x = true
 | [], _ => by simp
 | t :: ts, h => by
  rw [tyOkL, Bool.and_eq_true] at h
  intro x hx
  rcases List.mem_cons.1 hx with rfl | hx
  ·exact h.1
  ·exact tyOkL_mem h.2 x hx
theorem tyOk_kids {data : List Dat} {vars : Int} {k n : Int} {ks : List VT} (h : tyOk data vars (.mk k n ks) = true) : ∀ x ∈ ks, tyOk data vars x = true := by
 rw [tyOk, Bool.and_eq_true] at h
 exact tyOkL_mem h.2
theorem tyValid_kids {data : List Dat} {vars : Int} {k n : Int} {ks : List VT} (h : tyValid data vars (.mk k n ks) = true) : ∀ x ∈ ks, tyValid data vars x = true := by
 rw [tyValid, Bool.and_eq_true, decide_eq_true_eq] at h
 intro x hx
 rw [tyValid, Bool.and_eq_true, decide_eq_true_eq]
 exact ⟨Nat.le_trans (kids_le x hx) h.1, tyOk_kids h.2 x hx⟩
theorem con_args {data : List Dat} (hD : dataOk data = true) {d c : Nat} (hd : d < data.length) (hc : c < data[d].cons.length) : ∀ x ∈ (data[d].cons[c]).args, tyOk (data.take (d + 1)) data[d].vars x = true := by
 simp only [dataOk, Bool.and_eq_true, datsOk_iff, Nat.zero_add] at hD
 have h1 := hD.1.1.2 d hd
 simp only [datOk, Bool.and_eq_true] at h1
 have h2 := List.all_eq_true.1 h1.2 _ (List.getElem_mem hc)
 simp only [conOk, Bool.and_eq_true] at h2
 intro x hx
 have h3 := List.all_eq_true.1 h2.2.2 x hx
 simp only [argOk, tyValid, Bool.and_eq_true] at h3
 exact h3.1.2
theorem fields_some {data : List Dat} {k n : Int} {ks : List VT} {c : Int} {l : List VT} (h : fields data (.mk k n ks) c = some l) :
  k = 5 ∧ 0 ≤ n ∧ 0 ≤ c ∧ ∃ (hn : n.toNat < data.length) (hc : c.toNat < (data[n.toNat]).cons.length), (ks.length : Int) = (data[n.toNat]).vars ∧ l = ((data[n.toNat]).cons[c.toNat]).args.map (subst ks) ∧ ∀ x ∈ l, x.nodes ≤ 200 := by
 rw [fields_mk] at h
 split at h
 ·rename_i h5
  split at h
  ·rename_i D hD
   obtain ⟨hn, rfl⟩ := List.getElem?_eq_some_iff.1 hD
   split at h
   ·rename_i hv
    split at h
    ·rename_i C hC
     obtain ⟨hc, rfl⟩ := List.getElem?_eq_some_iff.1 hC
     split at h
     ·rename_i ha
      simp only [Option.some.injEq] at h
      subst h
      exact ⟨h5.1, h5.2.1, h5.2.2, hn, hc, hv, rfl, fun x hx => of_decide_eq_true (List.all_eq_true.1 ha x hx)⟩
     ·cases h
    ·cases h
   ·cases h
  ·cases h
 ·cases h
theorem fields_valid {data : List Dat} (hD : dataOk data = true) {t : VT} (ht : tyOk data 0 t = true) {c : Int} {l : List VT} (h : fields data t c = some l) : ∀ x ∈ l, tyValid data 0 x = true := by
 obtain ⟨k, n, ks⟩ := t
 obtain ⟨rfl, h0, hc0, hn, hc, hv, rfl, hsz⟩ := fields_some h
 intro x hx
 rw [tyValid, Bool.and_eq_true, decide_eq_true_eq]
 refine ⟨hsz x hx, ?_⟩
 obtain ⟨a, ha, rfl⟩ := List.mem_map.1 hx
 exact tyOk_subst (tyOk_kids ht) hv a (con_args hD hn hc a ha)
def recsC (d : Nat) (D : Dat) (C : Con) : List Bool := C.args.map (isSelf d D.vars)
def recs (data : List Dat) (d : Nat) : List (List Bool) := match data[d]? with
 | some D => D.cons.map (recsC d D)
 | none => []
mutual
def preV (rs : List (List Bool)) : VT → List VT
 | .mk k n ks => .mk k n ks :: preK rs ks (rs.getD n.toNat [])
def preK (rs : List (List Bool)) : List VT → List Bool → List VT
 | [], _ => []
 | v :: vs, bs => match bs with
  | [] => []
  | b :: bs => (if b = true then preV rs v else []) ++ preK rs vs bs
end
mutual
theorem preV_len (rs : List (List Bool)) : ∀ v : VT, (preV rs v).length ≤ v.nodes
 | .mk k n ks => by
  have := preK_len rs ks (rs.getD n.toNat [])
  simp only [preV, VT.nodes, List.length_cons]
  omega
theorem preK_len (rs : List (List Bool)) : ∀ (vs : List VT) (bs : List Bool), (preK rs vs bs).length ≤ VT.nodesL vs
 | [], _ => by simp [preK, VT.nodesL]
 | v :: vs, [] => by simp [preK]
 | v :: vs, b :: bs => by
  have h1 := preV_len rs v
  have h2 := preK_len rs vs bs
  simp only [preK, VT.nodesL, List.length_append]
  split
  ·omega
  ·simp; omega
end
def d4 (data : List Dat) : AV := .agg [.sl (data.map Dat.cs) .none, .snil, .snil, .snil]
section
variable {H : Heap} {K : Kt} (data : List Dat)
theorem vars0 (hK : K (.bool true) H) : ACalls Tryz.prog n_zq147 [d4 data] H K := by
 refine ACalls.out (zq147_ok fun hs => ?_)
 simp [zq147, d4]
 refine ⟨rfl, ACalls.wk (args' := [.sl (VT.css []) .none, .fn n_zq189 [.ptr H.length 0]]) ?_ ⟨.atom .snil, .atom (.refl _), trivial⟩⟩
 refine containsFunc_spec [] (by simp) _ _ _ (by simp [AV.sc, AV.scV, AV.scA, AV.scB]) (fun _ H' => H' = H ++ [.cells [.sl (data.map Dat.cs) .none, .snil, .snil, .snil]]) rfl (fun i h => by simp at h) ?_
 rintro H' rfl
 simp
 exact Out.bool rfl (Nat.le_refl _) hs hK
theorem codes0 (hK : K (.bool true) H) : ACalls Tryz.prog n_zq148 [d4 data] H K := by
 refine ACalls.out (zq148_ok fun hs => ?_)
 simp [zq148, d4]
 refine zq148_loop6 (Inv := fun _ _ t H' => t = .int .i64 0 ∧ H' = _) 0 (fun _ => ⟨rfl, rfl⟩) ?_
 rintro q t4 t H' ⟨rfl, rfl⟩ _ _ _ Kb hKb
 simp [zq148_b6]
 exact Out.bool rfl (Nat.le_refl _) hs hK
theorem tree0 (hK : K (.bool true) H) : ACalls Tryz.prog n_zq149 [d4 data] H K := by
 refine ACalls.out (zq149_ok fun hs => ?_)
 simp [zq149, d4, aMake]
 refine ⟨⟨rfl, rfl⟩, zq149_loop5 (Inv := fun _ t H' => t = .int .i64 0 ∧ H' = _) 0 (fun _ => ⟨rfl, rfl⟩) ?_⟩
 rintro q t H' ⟨rfl, rfl⟩ _ _ _ Kb hKb
 simp [zq149_b5]
 refine zq149_loop11 (Inv := fun _ t H' => t = .int .i64 0 ∧ H' = _) 0 (fun _ => ⟨rfl, rfl⟩) ?_
 rintro q t H' ⟨rfl, rfl⟩ _ _ _ Kb2 hKb2
 simp [zq149_b11, Nat.add_assoc]
 exact Out.bool rfl (Nat.le_refl _) hs hK
theorem bind0 (hK : K (.bool true) H) : ACalls Tryz.prog n_zq150 [d4 data] H K := by
 refine ACalls.out (zq150_ok fun hs => ?_)
 simp [zq150, d4, aMake]
 refine ⟨⟨rfl, rfl⟩, zq150_loop5 (Inv := fun _ t H' => t = .int .i64 0 ∧ H' = _) 0 (fun _ => ⟨rfl, rfl⟩) ?_⟩
 rintro q t H' ⟨rfl, rfl⟩ _ _ _ Kb hKb
 simp [zq150_b5]
 refine zq150_loop11 (Inv := fun _ t H' => t = .int .i64 0 ∧ H' = _) 0 (fun _ => ⟨rfl, rfl⟩) ?_
 rintro q t H' ⟨rfl, rfl⟩ _ _ _ Kb2 hKb2
 simp [zq150_b11, Nat.add_assoc]
 exact Out.bool rfl (Nat.le_refl _) hs hK
theorem scopes0 (hK : K (.bool true) H) : ACalls Tryz.prog n_zq151 [d4 data] H K := by
 refine ACalls.out (zq151_ok fun hs => ?_)
 simp [zq151, d4, aMake]
 refine ⟨rfl, ⟨rfl, rfl, rfl, rfl⟩, zq151_loop6 (Inv := fun _ t H' => t = .int .i64 0 ∧ H' = _) 0 (fun _ => ⟨rfl, rfl⟩) ?_⟩
 rintro q t H' ⟨rfl, rfl⟩ _ _ _ Kb hKb
 simp [zq151_b6]
 exact Out.bool rfl (Nat.le_refl _) hs hK
theorem exprs0 (hK : K (.bool true) H) : ACalls Tryz.prog n_zq152 [d4 data] H K := by
 refine ACalls.out (zq152_ok fun hs => ?_)
 simp [zq152, d4, aMake, aBuild, fillA]
 refine zq152_loop3 (Inv := fun _ t H' => t = .int .i64 0 ∧ H' = _) 0 (fun _ => ⟨rfl, rfl⟩) ?_
 rintro q t H' ⟨rfl, rfl⟩ _ _ _ Kb hKb
 simp [zq152_b3]
 refine zq152_loop9 (Inv := fun _ t H' => t = .int .i64 0 ∧ H' = _) 0 (fun _ => ⟨rfl, rfl⟩) ?_
 rintro q t H' ⟨rfl, rfl⟩ _ _ _ Kb2 hKb2
 simp [zq152_b9]
 exact Out.bool rfl (Nat.le_refl _) hs hK
theorem zq84_d4 (hB : Small data) (hl : data.length ≤ 1000000) (hK : K (.bool (dataOk data)) H) : ACalls Tryz.prog n_zq84 [d4 data] H K := by
 refine ACalls.out (zq84_ok fun hs => ?_)
 simp [zq84, d4]
 refine zq146_spec data hB hl _ _ ?_
 cases hd : dataOk data with
 | false =>
  rw [hd] at hK
  simp
  exact Out.bool rfl (Nat.le_refl _) hs hK
 | true =>
  rw [hd] at hK
  simp
  refine vars0 data ?_
  simp
  refine codes0 data ?_
  simp
  refine tree0 data ?_
  simp
  refine bind0 data ?_
  simp
  refine scopes0 data ?_
  simp
  refine exprs0 data ?_
  exact Out.bool rfl (Nat.le_refl _) hs hK
def fineV (data : List Dat) (t : VT) : Bool := dataOk data && tyValid data 0 t
theorem zq48_spec (hB : Small data) (hl : data.length ≤ 1000000) (t : VT) (ht : t.nodes ≤ 1000000) (hK : K (.bool (fineV data t)) H) : ACalls Tryz.prog n_zq48 [.sl (data.map Dat.cs) .none, .agg t.cs] H K := by
 refine ACalls.out (zq48_ok fun hs => ?_)
 obtain ⟨a, b, c, hv, ha, hb, hc⟩ := vt3' t
 simp [zq48, aBuild, fillA, hv]
 refine zq84_d4 data hB hl ?_
 unfold fineV at hK
 cases hd : dataOk data with
 | false =>
  rw [hd] at hK
  simp
  exact Out.bool rfl (Nat.le_refl _) hs hK
 | true =>
  rw [hd, Bool.true_and] at hK
  simp
  rw [← hv]
  refine zq85_spec data 0 t (by omega) _ _ ?_
  exact Out.bool rfl (Nat.le_refl _) hs hK
end
theorem indexFuncV_spec (x : List VT) (hl : x.length ≤ 1000000000) (fv : AV) (H : Heap) (K : AV → Heap → Prop) (hfv : fv.sc H.length = true) (Inv : Nat → Heap → Prop) (h0 : Inv 0 H)
  (step : ∀ (i : Nat) (h : i < x.length) (H' : Heap), H.length ≤ H'.length → Inv i H' → aCallV Tryz.prog fv [.agg (x[i]).cs] H' fun r H'' => (r = .bool false ∧ Inv (i + 1) H'') ∨ (r = .bool true ∧ K (.int .i64 i) H''))
  (fin : ∀ H', Inv x.length H' → K (.int .i64 (-1)) H') : ACalls Tryz.prog n_zq154 [.sl (VT.css x) .none, fv] H K := by
 refine zq154_ok fun hs => ?_
 simp [zq154]
 refine zq154_loop2 (Inv := fun q t8 H' => ∃ i : Nat, i ≤ x.length ∧ q = x.length - i ∧ t8 = .int .i64 i ∧ H.length ≤ H'.length ∧ Inv i H') x.length ?_ ?_
 ·intro _; exact ⟨0, by omega, by omega, rfl, Nat.le_refl _, h0⟩
 ·rintro q t8 H' ⟨i, hi, rfl, rfl, hle, hI⟩ hsc hlen hsF Kb hKb
  by_cases hlt : i < x.length
  ·simp [zq154_b2, hlt]
   refine (step i hlt H' hle hI).mono' fun r H'' hsc' hle' hr => ?_
   rcases hr with ⟨rfl, hI'⟩ | ⟨rfl, hk⟩
   ·simp
    rw [wrap_in (by omega) (by omega)]
    refine hKb _ _ ⟨x.length - (i + 1), by omega, Back.here (by omega) hsc' ?_ ⟨_, rfl, i + 1, by omega, rfl, by simp, by omega, hI'⟩⟩
    simp [zq154_fr2, AV.sc, AV.scV, AV.scA, AV.scB]
    exact sc_mono (by omega) hfv
   ·simpa using hk
  ·obtain rfl : i = x.length := by omega
   simp [zq154_b2]
   exact fin H' hI
theorem containsFuncV_spec (x : List VT) (hl : x.length ≤ 1000000000) (fv : AV) (H : Heap) (K : AV → Heap → Prop) (hfv : fv.sc H.length = true) (Inv : Nat → Heap → Prop) (h0 : Inv 0 H)
  (step : ∀ (i : Nat) (h : i < x.length) (H' : Heap), H.length ≤ H'.length → Inv i H' → aCallV Tryz.prog fv [.agg (x[i]).cs] H' fun r H'' => (r = .bool false ∧ Inv (i + 1) H'') ∨ (r = .bool true ∧ K (.bool true) H''))
  (fin : ∀ H', Inv x.length H' → K (.bool false) H') : ACalls Tryz.prog n_zq86 [.sl (VT.css x) .none, fv] H K := by
 refine zq86_ok fun hs => ?_
 unfold zq86
 refine indexFuncV_spec x hl fv H _ hfv Inv h0 (fun i h H' hle hI => (step i h H' hle hI).mono' fun r H'' _ _ hr => ?_) (fun H' hI => ?_)
 ·rcases hr with hr | ⟨h1, h2⟩
  ·exact .inl hr
  ·refine .inr ⟨h1, ?_⟩
   have : decide ((0 : Int) ≤ i) = true := by simp
   simpa using h2
 ·simpa using fin H' hI
theorem equalFuncV_spec (f : VT → VT → Bool) (fv : AV) (x y : List VT) (H : Heap) (hsc : fv.sc H.length = true) (hf : ∀ (i : Nat) (h1 : i < x.length) (h2 : i < y.length), x.length = y.length → ∀ (J : Heap) (K : AV → Heap → Prop), K (.bool (f x[i] y[i])) (H ++ J) → aCallV Tryz.prog fv [.agg (x[i]).cs, .agg (y[i]).cs] (H ++ J) K)
  (hl : x.length ≤ 1000000000) (K : AV → Heap → Prop) (hK : K (.bool (eqBy f x y)) H) : ACalls Tryz.prog n_zq155 [.sl (VT.css x) .none, .sl (VT.css y) .none, fv] H K := by
 refine ACalls.out (zq155_ok fun hs => ?_)
 have hO : ∀ J, Out H.length K (.bool (eqBy f x y)) (H ++ J) := fun J => Out.bool rfl (Nat.le_refl _) hs hK
 by_cases hlen : x.length = y.length
 ·simp [zq155, hlen]
  refine zq155_loop4 (Inv := fun q t17 H' => ∃ i : Nat, i ≤ x.length ∧ q = x.length - i ∧ t17 = .int .i64 i ∧ eqBy f (x.drop i) (y.drop i) = eqBy f x y ∧ H = H') x.length ?_ ?_
  ·intro _; exact ⟨0, by omega, by omega, rfl, by simp, rfl⟩
  ·rintro q t17 H' ⟨i, hi, rfl, rfl, ho, rfl⟩ hsc4 hlen2 hsF Kb hKb
   by_cases hlt : i < x.length
   ·have hlt' : i < y.length := by omega
    have hltI : (i : Int) < y.length := by omega
    rw [List.drop_eq_getElem_cons hlt, List.drop_eq_getElem_cons hlt', eqBy] at ho
    obtain ⟨x1, x2, x3, hvx, hx1, hx2, hx3⟩ := vt3' x[i]
    obtain ⟨y1, y2, y3, hvy, hy1, hy2, hy3⟩ := vt3' y[i]
    simp [zq155_b4, hlt, hlt', hvx, hx1, hx2, hx3, hvy, hy1, hy2, hy3]
    rw [← hvx, ← hvy]
    refine hf i hlt hlt' hlen _ _ ?_
    cases hb : f x[i] y[i] with
    | false =>
     rw [hb, Bool.false_and] at ho
     rw [← ho] at hO
     simp
     exact hO _
    | true =>
     rw [hb, Bool.true_and] at ho
     simp
     rw [wrap_in (by omega) (by omega)]
     refine hKb _ _ ⟨x.length - (i + 1), by omega, Back.same (by simp) hs ?_ ⟨_, rfl, i + 1, by omega, rfl, by simp, ho, rfl⟩⟩
     simp [zq155_fr4, AV.sc, AV.scV, AV.scA, AV.scB]
     exact hsc
   ·have hlt' : ¬ i < y.length := by omega
    obtain rfl : i = x.length := by omega
    rw [List.drop_length, hlen, List.drop_length, eqBy] at ho
    rw [← ho] at hO
    simp [zq155_b4, hlt']
    simpa using hO []
 ·have hl' : ((x.length : Int) != y.length) = true := by simp; omega
  rw [eqBy_len hlen] at hO
  simp [zq155, hl']
  simpa using hO []
theorem zq53_spec : ∀ (m : Nat) (v : VT), v.nodes ≤ m → ∀ (left : Int), left ≤ 1000000 → -1 ≤ left → ∀ (H : Heap) (id : Nat), H[id]? = some (.cells [.int .i64 left]) → ∀ (K : AV → Heap → Prop),
  ((v.nodes : Int) ≤ left → K (.bool true) (H.set id (.cells [.int .i64 (left - v.nodes)]))) → (¬ (v.nodes : Int) ≤ left → ∀ l', K (.bool false) (H.set id (.cells [.int .i64 l']))) →
  ACalls Tryz.prog n_zq53 [.agg v.cs, .ptr id 0] H K := by
 intro m
 induction m with
 | zero => intro v h; have := v.nodes_pos; omega
 | succ m ih =>
  intro v hv left hl1 hl0 H id hid K hK hF
  obtain ⟨k, n, ks⟩ := v
  have hlt := lt_get hid
  have hnn : (VT.mk k n ks).nodes = VT.nodesL ks + 1 := by simp [VT.nodes]
  refine ACalls.out (zq53_ok fun hs => ?_)
  have hget : (H ++ [AB.cells [.int .i64 k, .int .i64 n, .sl (VT.css ks) .none]])[id]? = some (.cells [.int .i64 left]) := app_get hid
  have bad : (¬ ((VT.mk k n ks).nodes : Int) ≤ left) → ∀ l' H', H' = H.set id (.cells [.int .i64 l']) ++ [.cells [.int .i64 k, .int .i64 n, .sl (VT.css ks) .none]] → Out H.length K (.bool false) H' := by
   intro h l' H' he
   exact Out.bool he (by simp) (hs.set rfl) (hF h l')
  simp [zq53, VT.cs, hget, AV.known]
  rw [wrap_in (by omega) (by omega), app_set _ hid, app_get (set_get _ hid)]
  by_cases h0 : left - 1 < 0
  ·simp [h0]
   exact bad (by omega) _ _ rfl
  ·simp [h0]
   refine zq53_loop5 (Inv := fun q t5 H' => ∃ i : Nat, i ≤ ks.length ∧ q = ks.length - i ∧ t5 = .int .i64 i ∧ ((VT.nodesL (ks.take i) : Int) + 1 ≤ left) ∧ H' = H.set id (.cells [.int .i64 (left - 1 - VT.nodesL (ks.take i))]) ++ [.cells [.int .i64 k, .int .i64 n, .sl (VT.css ks) .none]]) ks.length ?_ ?_
   ·intro _; exact ⟨0, by omega, by omega, rfl, by simp [VT.nodesL]; omega, by simp [VT.nodesL]⟩
   ·rintro q t5 H' ⟨i, hi, rfl, rfl, hb, rfl⟩ hsc hlen hsF Kb hKb
    by_cases hil : i < ks.length
    ·have hki := VT.kid_lt (k := k) (n := n) hil
     have h1 := VT.nodesL_take hil
     have h2 := VT.nodesL_take_le ks (i + 1)
     have hll := VT.len_le (ks.take i)
     simp only [List.length_take] at hll
     have hge : (H.set id (.cells [.int .i64 (left - 1 - VT.nodesL (ks.take i))]) ++ [AB.cells [.int .i64 k, .int .i64 n, .sl (VT.css ks) .none]])[id]? = some (.cells [.int .i64 (left - 1 - VT.nodesL (ks.take i))]) := app_get (set_get _ hid)
     simp [zq53_b5, hil]
     refine ih ks[i] (by omega) (left - 1 - VT.nodesL (ks.take i)) (by omega) (by omega) _ id hge _ ?_ ?_
     ·intro hle
      rw [app_set _ (set_get _ hid), List.set_set]
      simp
      rw [wrap_in (by omega) (by omega)]
      refine hKb _ _ ⟨ks.length - (i + 1), by omega, Back.here (by simp) ((hs.set rfl).snoc rfl) ?_ ⟨_, rfl, i + 1, by omega, rfl, by simp, by omega, ?_⟩⟩
      ·simp [zq53_fr5, AV.sc, AV.scV, AV.scA, AV.scB]; omega
      ·rw [h1]; congr 5; omega
     ·intro hle l'
      rw [app_set _ (set_get _ hid), List.set_set]
      simp
      exact bad (by omega) _ _ rfl
    ·obtain rfl : i = ks.length := by omega
     rw [List.take_length] at hb ⊢
     simp [zq53_b5]
     refine Out.bool rfl (by simp) (hs.set rfl) ?_
     have := hK (by omega)
     rw [hnn] at this
     rw [show left - 1 - (VT.nodesL ks : Int) = left - ((VT.nodesL ks + 1 : Nat) : Int) by omega]
     exact this
theorem callFew1 : callable Tryz.prog n_zq87 = true := by kernel_rfl
theorem zq49_spec : ∀ (m : Nat) (v : VT), v.nodes ≤ m → ∀ (left : Int), (v.nodes : Int) ≤ left → left ≤ 1000000 → ∀ (H : Heap) (id : Nat), H[id]? = some (.cells [.int .i64 left]) → ∀ (K : AV → Heap → Prop),
  K (.bool true) (H.set id (.cells [.int .i64 (left - v.nodes)])) → ACalls Tryz.prog n_zq49 [.agg v.cs, .ptr id 0] H K := by
 intro m
 induction m with
 | zero => intro v h; have := v.nodes_pos; omega
 | succ m ih =>
  intro v hv left hl0 hl1 H id hid K hK
  obtain ⟨k, n, ks⟩ := v
  have hlt := lt_get hid
  have hnn : (VT.mk k n ks).nodes = VT.nodesL ks + 1 := by simp [VT.nodes]
  have hll := VT.len_le ks
  refine ACalls.out (zq49_ok fun hs => ?_)
  have hget : (H ++ [AB.cells [.int .i64 k, .int .i64 n, .sl (VT.css ks) .none], .cells [.ptr id 0]])[id]? = some (.cells [.int .i64 left]) := app_get hid
  have hset : ∀ (J : Heap) (x : AB), (H ++ J).set id x = H.set id x ++ J := fun J x => app_set x hid
  have hg : ∀ (l : Heap) (x : AB) (j : Nat), (H.set id x ++ l)[H.length + j]? = l[j]? := fun l x j => by
   have := get_len_add (H.set id x) l j
   rwa [List.length_set] at this
  have hgi : ∀ (l : Heap) (x : AB), (H.set id x ++ l)[id]? = some x := fun l x => app_get (set_get x hid)
  have hl0' : ¬ left - 1 < 0 := by omega
  simp [zq49, VT.cs, hget, AV.known, hset, hg, hgi]
  rw [wrap_in (by omega) (by omega)]
  simp [hl0']
  refine ⟨rfl, ?_⟩
  refine containsFuncV_spec ks (by omega) _ _ _ (by simp [AV.sc, AV.scV, AV.scA, AV.scB]) (fun i H' => H' = H.set id (.cells [.int .i64 (left - 1 - VT.nodesL (ks.take i))]) ++ [.cells [.int .i64 k, .int .i64 n, .sl (VT.css ks) .none], .cells [.ptr id 0]]) (by simp [VT.nodesL]) ?_ ?_
  ·rintro i hi H' hle rfl
   have hki := VT.kid_lt (k := k) (n := n) hi
   have h1 := VT.nodesL_take hi
   have h2 := VT.nodesL_take_le ks (i + 1)
   simp [aCallV, callFew1]
   refine ACalls.out (zq87_ok fun hs1 => ?_)
   obtain ⟨x, y, z, hvx, hx, hy, hz⟩ := vt3' ks[i]
   simp [zq87, hvx, hg]
   rw [← hvx]
   refine ih ks[i] (by omega) (left - 1 - VT.nodesL (ks.take i)) (by omega) (by omega) _ id (hgi _ _) _ ?_
   rw [app_set _ (set_get _ hid), List.set_set]
   simp
   refine Out.bool (H2 := H.set id (.cells [.int .i64 (left - 1 - VT.nodesL (ks.take (i + 1)))]) ++ [.cells [.int .i64 k, .int .i64 n, .sl (VT.css ks) .none], .cells [.ptr id 0]]) (J := [.cells (ks[i]).cs]) ?_ (by simp) ?_ (.inl ⟨rfl, rfl⟩)
   ·have e : left - 1 - (VT.nodesL (ks.take i) : Int) - (ks[i]).nodes = left - 1 - VT.nodesL (ks.take (i + 1)) := by omega
    rw [e]
    simp
   ·exact (hs.set rfl).append (by simp [AB.sc]; omega)
  ·rintro H' rfl
   simp
   refine Out.bool rfl (by simp) (hs.set rfl) ?_
   rw [hnn] at hK
   have e : left - 1 - (VT.nodesL ks : Int) = left - ((VT.nodesL ks + 1 : Nat) : Int) := by omega
   rw [e]
   exact hK
end Go.Proofs.YtfpmdpldabopjaaGreatDoor
namespace Go.Proofs.YtfpmdpldabopjaaGreatDoor
open Go Go.Abs
def conName (data : List Dat) (t : VT) (c : Int) : List UInt8 := match data[t.num.toNat]? with
 | some D => match D.cons[c.toNat]? with
  | some C => C.name
  | none => []
 | none => []
theorem con_bound {data : List Dat} (hk : KData data) (t : VT) (c : Int) : (conName data t c).length ≤ 40 := by
 unfold conName
 split
 ·rename_i D hD
  split
  ·rename_i C hC
   exact ((hk.2 D (List.mem_of_getElem? hD)).2.2 C (List.mem_of_getElem? hC)).1
  ·simp
 ·simp
end Go.Proofs.YtfpmdpldabopjaaGreatDoor
namespace Go.Proofs.YtfpmdpldabopjaaGreatDoor
open Go Go.Abs
set_option maxRecDepth 100000
def zq168_M (_ : Nat) : List Bool := []
noncomputable def zq168_c : Code := Tryz.f170.body.getD .skip
noncomputable def zq168_r : List ResultVar := Tryz.f170.results.toList
def zq168 (t0 t1 : AV) (H : Heap) (K : Kt) : Prop :=
 ACalls Tryz.prog n_zq213 [t0, t1] H fun t8 H =>
 aExt t8 0 fun t9 =>
 aExt t8 1 fun t10 =>
 aRet [t9, t10] (K · H)
theorem zq168_eq (t0 t1 : AV) (H : Heap) (K : Kt) : awp Tryz.prog zq168_M zq168_c (retQ Tryz.prog zq168_r K) (t0 :: t1 :: List.replicate 9 .unk) H = zq168 t0 t1 H K := by kernel_rfl
theorem zq168_ok {t0 t1 : AV} {H : Heap} {K : Kt} (h : HSc H → zq168 t0 t1 H K) : ACalls Tryz.prog n_zq168 [t0, t1] H K :=
 acalls_body (M := zq168_M) Tryz.func170 (c := zq168_c) (by kernel_rfl) (fun hs => (zq168_eq t0 t1 H K).mpr (h hs))
def zq213_M (_ : Nat) : List Bool := []
noncomputable def zq213_c : Code := Tryz.f216.body.getD .skip
noncomputable def zq213_r : List ResultVar := Tryz.f216.results.toList
def zq213 (t0 t1 : AV) (H : Heap) (K : Kt) : Prop :=
 ACalls Tryz.prog n_zq240 [t0, t1] H fun t8 H =>
 aUn .not t8 fun t9 =>
 aTest t9
 (aRet [t0, (.bool false)] (K · H))
 (aLen 0 t1 fun t13 =>
 aSlice 0 0 t0 (some t13) none fun t14 =>
 aRet [t14, (.bool true)] (K · H))
theorem zq213_eq (t0 t1 : AV) (H : Heap) (K : Kt) : awp Tryz.prog zq213_M zq213_c (retQ Tryz.prog zq213_r K) (t0 :: t1 :: List.replicate 13 .unk) H = zq213 t0 t1 H K := by kernel_rfl
theorem zq213_ok {t0 t1 : AV} {H : Heap} {K : Kt} (h : HSc H → zq213 t0 t1 H K) : ACalls Tryz.prog n_zq213 [t0, t1] H K :=
 acalls_body (M := zq213_M) Tryz.func216 (c := zq213_c) (by kernel_rfl) (fun hs => (zq213_eq t0 t1 H K).mpr (h hs))
def zq240_M (_ : Nat) : List Bool := []
noncomputable def zq240_c : Code := Tryz.f243.body.getD .skip
noncomputable def zq240_r : List ResultVar := Tryz.f243.results.toList
def zq240 (t0 t1 : AV) (H : Heap) (K : Kt) : Prop :=
 aLen 0 t0 fun t6 =>
 aLen 0 t1 fun t8 =>
 aBin .geq false t6 t8 fun t9 =>
 aGuardJ t9 true H (fun K' => K' t0 H) fun t11 H =>
 aGuardJ t9 true H (fun K' => K' t1 H) fun t12 H =>
 aGuardJ t9 true H (fun K' => aLen 0 t12 (K' · H)) fun t13 H =>
 aGuardJ t9 true H (fun K' => aSlice 0 0 t11 none (some t13) (K' · H)) fun t14 H =>
 aGuardJ t9 true H (fun K' => K' t1 H) fun t15 H =>
 aGuardJ t9 true H (fun K' => aBin .eql false t14 t15 (K' · H)) fun t16 H =>
 aPick t9 t16 (.bool false) fun t17 =>
 K t17 H
theorem zq240_eq (t0 t1 : AV) (H : Heap) (K : Kt) : awp Tryz.prog zq240_M zq240_c (retQ Tryz.prog zq240_r K) (t0 :: t1 :: List.replicate 16 .unk) H = zq240 t0 t1 H K := by kernel_rfl
theorem zq240_ok {t0 t1 : AV} {H : Heap} {K : Kt} (h : HSc H → zq240 t0 t1 H K) : ACalls Tryz.prog n_zq240 [t0, t1] H K :=
 acalls_body (M := zq240_M) Tryz.func243 (c := zq240_c) (by kernel_rfl) (fun hs => (zq240_eq t0 t1 H K).mpr (h hs))
def zq18_M (_ : Nat) : List Bool := []
noncomputable def zq18_c : Code := Tryz.f20.body.getD .skip
noncomputable def zq18_r : List ResultVar := Tryz.f20.results.toList
def zq18 (H : Heap) (K : Kt) : Prop :=
 aBuild [(.int .i64 0), (.int .i64 0), .snil] [(0, 1), (1, 1), (2, 1)] [(0, (.int .i64 3)), (1, (.int .i64 7))] fun t3 =>
 aBuild [(.int .i64 0), (.int .i64 0), .snil] [(0, 1), (1, 1), (2, 1)] [(0, (.int .i64 1))] fun t4 =>
 aNew [(.int .i64 0), (.int .i64 0), .snil] H fun t1 H =>
 aNew [(.int .i64 0), (.int .i64 0), .snil] H fun t2 H =>
 aStore 3 t1 t3 H fun H =>
 aStore 3 t2 t4 H fun H =>
 aLoad true 3 t1 H fun t5 =>
 aLoad true 3 t2 H fun t6 =>
 ACalls Tryz.prog n_zq16 [.snil, t5, t6] H fun t7 H =>
 aGuardJ t7 true H (fun K' => aLoad true 3 t1 H (K' · H)) fun t9 H =>
 aGuardJ t7 true H (fun K' => aLoad true 3 t2 H (K' · H)) fun t10 H =>
 aGuardJ t7 true H (fun K' => ACalls Tryz.prog n_zq19 [.snil, t9, t10] H K') fun t11 H =>
 aGuardJ t7 true H (fun K' => aBin .eql false t11 (.str [55]) (K' · H)) fun t12 H =>
 aPick t7 t12 (.bool false) fun t13 =>
 K t13 H
theorem zq18_eq (H : Heap) (K : Kt) : awp Tryz.prog zq18_M zq18_c (retQ Tryz.prog zq18_r K) (List.replicate 14 .unk) H = zq18 H K := by kernel_rfl
theorem zq18_ok {H : Heap} {K : Kt} (h : HSc H → zq18 H K) : ACalls Tryz.prog n_zq18 [] H K :=
 acalls_body (M := zq18_M) Tryz.func20 (c := zq18_c) (by kernel_rfl) (fun hs => (zq18_eq H K).mpr (h hs))
def zq19_M (_ : Nat) : List Bool := []
noncomputable def zq19_c : Code := Tryz.f21.body.getD .skip
noncomputable def zq19_r : List ResultVar := Tryz.f21.results.toList
def zq19 (t0 t1 t2 : AV) (H : Heap) (K : Kt) : Prop :=
 aBox t1 H fun t4 H =>
 aBox t2 H fun t5 H =>
 aLoad true 3 t4 H fun t9 =>
 aLoad true 3 t5 H fun t10 =>
 ACalls Tryz.prog n_zq16 [t0, t9, t10] H fun t11 H =>
 aUn .not t11 fun t12 =>
 aTest t12
 (K (.str []) H)
 (aNewB 73 [.nilp, .snil] H fun t7 H =>
 aLoad true 3 t4 H fun t14 =>
 aLoad true 3 t5 H fun t15 =>
 ACalls Tryz.prog n_zq55 [t7, t0, t14, t15] H fun t16 H =>
 ACalls Tryz.prog n_zq56 [t7] H fun t17 H =>
 K t17 H)
theorem zq19_eq (t0 t1 t2 : AV) (H : Heap) (K : Kt) : awp Tryz.prog zq19_M zq19_c (retQ Tryz.prog zq19_r K) (t0 :: t1 :: t2 :: List.replicate 15 .unk) H = zq19 t0 t1 t2 H K := by kernel_rfl
theorem zq19_ok {t0 t1 t2 : AV} {H : Heap} {K : Kt} (h : HSc H → zq19 t0 t1 t2 H K) : ACalls Tryz.prog n_zq19 [t0, t1, t2] H K :=
 acalls_body (M := zq19_M) Tryz.func21 (c := zq19_c) (by kernel_rfl) (fun hs => (zq19_eq t0 t1 t2 H K).mpr (h hs))
def zq55_M : Nat → List Bool
 | 200013 => rl false [0,1]
 | 200025 => rl false [0,1]
 | _ => []
noncomputable def zq55_c : Code := Tryz.f57.body.getD .skip
noncomputable def zq55_r : List ResultVar := Tryz.f57.results.toList
def zq55_j1 (H : Heap) (K : Kt) : Prop :=
 aRet [] (K · H)
def zq55 (t0 t1 t2 t3 : AV) (H : Heap) (K : Kt) : Prop :=
 aBox t2 H fun t6 H =>
 aBox t3 H fun t7 H =>
 aFld 0 t7 fun t10 =>
 aLoad false 1 t10 H fun t11 =>
 aBin .eql false t11 (.int .i64 1) fun t13 =>
 aTest t13
 (aFld 1 t6 fun t15 =>
 aLoad false 1 t15 H fun t16 =>
 ACalls Tryz.prog n_zq98 [t16, (.int .i64 10)] H fun t17 H =>
 ACalls Tryz.prog n_zq97 [t0, t17] H fun t18 H =>
 zq55_j1 H K)
 (aBin .eql false t11 (.int .i64 2) fun t20 =>
 aTest t20
 (aFld 1 t6 fun t22 =>
 aLoad false 1 t22 H fun t23 =>
 aBin .eql false t23 (.int .i64 1) fun t24 =>
 ACalls Tryz.prog n_zq99 [t24] H fun t25 H =>
 ACalls Tryz.prog n_zq97 [t0, t25] H fun t26 H =>
 zq55_j1 H K)
 (aBin .eql false t11 (.int .i64 3) fun t28 =>
 aTest t28
 (ACalls Tryz.prog n_zq97 [t0, (.str [40, 41])] H fun t30 H =>
 zq55_j1 H K)
 (aBin .eql false t11 (.int .i64 6) fun t32 =>
 aTest t32
 (ACalls Tryz.prog n_zq97 [t0, (.str [40])] H fun t34 H =>
 aFld 2 t6 fun t37 =>
 aLoad false 1 t37 H fun t38 =>
 aClos n_zq101 [t7] fun t39 =>
 ACalls Tryz.prog n_zq100 [t0, t1, t38, t39] H fun t40 H =>
 ACalls Tryz.prog n_zq97 [t0, (.str [41])] H fun t42 H =>
 zq55_j1 H K)
 (aBin .eql false t11 (.int .i64 5) fun t44 =>
 aTest t44
 (aPure H (fun K' => K' t0 H) fun t45 =>
 aPure H (fun K' => K' t1 H) fun t46 =>
 aPure H (fun K' => aFld 1 t7 (K' · H)) fun t47 =>
 aPure H (fun K' => aLoadC false 1 t47 H (K' · H)) fun t48 =>
 aPure H (fun K' => aIdxA 3 t46 t48 (K' · H)) fun t49 =>
 aPure H (fun K' => aFld 2 t49 (K' · H)) fun t50 =>
 aPure H (fun K' => aLoadC false 1 t50 H (K' · H)) fun t51 =>
 aPure H (fun K' => aFld 1 t6 (K' · H)) fun t52 =>
 aPure H (fun K' => aLoadC false 1 t52 H (K' · H)) fun t53 =>
 aPure H (fun K' => aIdxA 2 t51 t53 (K' · H)) fun t54 =>
 aPure H (fun K' => aFld 0 t54 (K' · H)) fun t55 =>
 aPure H (fun K' => aLoadC false 1 t55 H (K' · H)) fun t56 =>
 aDet .w false H (fun K' => ACalls Tryz.prog n_zq97 [t45, t56] H K') fun t57 H =>
 aFld 2 t6 fun t58 =>
 aLoad false 1 t58 H fun t59 =>
 aLen 1 t59 fun t60 =>
 aBin .gtr false t60 (.int .i64 0) fun t61 =>
 aTest t61
 (aLoad true 3 t7 H fun t64 =>
 aFld 1 t6 fun t65 =>
 aLoad false 1 t65 H fun t66 =>
 ACalls Tryz.prog n_zq89 [t1, t64, t66] H fun t67 H =>
 aExt t67 0 fun t68 =>
 aExt t67 1 fun t69 =>
 aNew [.snil] H fun t8 H =>
 aStore 1 t8 t68 H fun H =>
 ACalls Tryz.prog n_zq97 [t0, (.str [40])] H fun t71 H =>
 aFld 2 t6 fun t74 =>
 aLoad false 1 t74 H fun t75 =>
 aClos n_zq102 [t8] fun t76 =>
 ACalls Tryz.prog n_zq100 [t0, t1, t75, t76] H fun t77 H =>
 ACalls Tryz.prog n_zq97 [t0, (.str [41])] H fun t79 H =>
 zq55_j1 H K)
 (zq55_j1 H K))
 (aBin .eql false t11 (.int .i64 7) fun t81 =>
 aTest t81
 (ACalls Tryz.prog n_zq97 [t0, (.str [91])] H fun t83 H =>
 aFld 2 t6 fun t86 =>
 aLoad false 1 t86 H fun t87 =>
 aClos n_zq103 [t7] fun t88 =>
 ACalls Tryz.prog n_zq100 [t0, t1, t87, t88] H fun t89 H =>
 ACalls Tryz.prog n_zq97 [t0, (.str [93])] H fun t91 H =>
 zq55_j1 H K)
 (aBin .eql false t11 (.int .i64 8) fun t93 =>
 aTest t93
 (ACalls Tryz.prog n_zq97 [t0, (.str [114, 101, 102, 40])] H fun t95 H =>
 aPure H (fun K' => K' t0 H) fun t96 =>
 aPure H (fun K' => K' t1 H) fun t97 =>
 aPure H (fun K' => aFld 2 t6 (K' · H)) fun t98 =>
 aPure H (fun K' => aLoadC false 1 t98 H (K' · H)) fun t99 =>
 aPure H (fun K' => aIdxA 3 t99 (.int .i64 0) (K' · H)) fun t100 =>
 aPure H (fun K' => aLoadC true 3 t100 H (K' · H)) fun t101 =>
 aPure H (fun K' => aFld 2 t7 (K' · H)) fun t102 =>
 aPure H (fun K' => aLoadC false 1 t102 H (K' · H)) fun t103 =>
 aPure H (fun K' => aIdxA 3 t103 (.int .i64 0) (K' · H)) fun t104 =>
 aPure H (fun K' => aLoadC true 3 t104 H (K' · H)) fun t105 =>
 aDet .w false H (fun K' => ACalls Tryz.prog n_zq55 [t96, t97, t101, t105] H K') fun t106 H =>
 ACalls Tryz.prog n_zq97 [t0, (.str [41])] H fun t108 H =>
 zq55_j1 H K)
 (aBin .eql false t11 (.int .i64 9) fun t110 =>
 aTest t110
 (aFld 1 t6 fun t112 =>
 aLoad false 1 t112 H fun t113 =>
 ACalls Tryz.prog n_zq98 [t113, (.int .i64 10)] H fun t114 H =>
 aBin .add false (.str [102, 110, 35]) t114 fun t115 =>
 ACalls Tryz.prog n_zq97 [t0, t115] H fun t116 H =>
 zq55_j1 H K)
 (zq55_j1 H K))))))))
theorem zq55_eq (t0 t1 t2 t3 : AV) (H : Heap) (K : Kt) : awp Tryz.prog zq55_M zq55_c (retQ Tryz.prog zq55_r K) (t0 :: t1 :: t2 :: t3 :: List.replicate 113 .unk) H = zq55 t0 t1 t2 t3 H K := by kernel_rfl
theorem zq55_ok {t0 t1 t2 t3 : AV} {H : Heap} {K : Kt} (h : HSc H → zq55 t0 t1 t2 t3 H K) : ACalls Tryz.prog n_zq55 [t0, t1, t2, t3] H K :=
 acalls_body (M := zq55_M) Tryz.func57 (c := zq55_c) (by kernel_rfl) (fun hs => (zq55_eq t0 t1 t2 t3 H K).mpr (h hs))
def zq98_M (_ : Nat) : List Bool := []
noncomputable def zq98_c : Code := Tryz.f100.body.getD .skip
noncomputable def zq98_r : List ResultVar := Tryz.f100.results.toList
def zq98 (t0 t1 : AV) (H : Heap) (K : Kt) : Prop :=
 ACalls Tryz.prog n_zq163 [t0, t1] H fun t7 H =>
 K t7 H
theorem zq98_eq (t0 t1 : AV) (H : Heap) (K : Kt) : awp Tryz.prog zq98_M zq98_c (retQ Tryz.prog zq98_r K) (t0 :: t1 :: List.replicate 6 .unk) H = zq98 t0 t1 H K := by kernel_rfl
theorem zq98_ok {t0 t1 : AV} {H : Heap} {K : Kt} (h : HSc H → zq98 t0 t1 H K) : ACalls Tryz.prog n_zq98 [t0, t1] H K :=
 acalls_body (M := zq98_M) Tryz.func100 (c := zq98_c) (by kernel_rfl) (fun hs => (zq98_eq t0 t1 H K).mpr (h hs))
def zq204_M (_ : Nat) : List Bool := []
noncomputable def zq204_c : Code := Tryz.f207.body.getD .skip
noncomputable def zq204_r : List ResultVar := Tryz.f207.results.toList
def zq204 (t0 : AV) (H : Heap) (K : Kt) : Prop :=
 aBin .lss false t0 (.int .i64 10) fun t4 =>
 aTest t4
 (aBin .add false t0 (.int .i64 1) fun t7 =>
 aSlice 0 0 (.str [48, 49, 50, 51, 52, 53, 54, 55, 56, 57, 97, 98, 99, 100, 101, 102, 103, 104, 105, 106, 107, 108, 109, 110, 111, 112, 113, 114, 115, 116, 117, 118, 119, 120, 121, 122]) (some t0) (some t7) fun t8 =>
 K t8 H)
 (aBin .mul false t0 (.int .i64 2) fun t10 =>
 aBin .mul false t0 (.int .i64 2) fun t12 =>
 aBin .add false t12 (.int .i64 2) fun t13 =>
 aSlice 0 0 (.str [48, 48, 48, 49, 48, 50, 48, 51, 48, 52, 48, 53, 48, 54, 48, 55, 48, 56, 48, 57, 49, 48, 49, 49, 49, 50, 49, 51, 49, 52, 49, 53, 49, 54, 49, 55, 49, 56, 49, 57, 50, 48, 50, 49, 50, 50, 50, 51, 50, 52, 50, 53, 50, 54, 50, 55, 50, 56, 50, 57, 51, 48, 51, 49, 51, 50, 51, 51, 51, 52, 51, 53, 51, 54, 51, 55, 51, 56, 51, 57, 52, 48, 52, 49, 52, 50, 52, 51, 52, 52, 52, 53, 52, 54, 52, 55, 52, 56, 52, 57, 53, 48, 53, 49, 53, 50, 53, 51, 53, 52, 53, 53, 53, 54, 53, 55, 53, 56, 53, 57, 54, 48, 54, 49, 54, 50, 54, 51, 54, 52, 54, 53, 54, 54, 54, 55, 54, 56, 54, 57, 55, 48, 55, 49, 55, 50, 55, 51, 55, 52, 55, 53, 55, 54, 55, 55, 55, 56, 55, 57, 56, 48, 56, 49, 56, 50, 56, 51, 56, 52, 56, 53, 56, 54, 56, 55, 56, 56, 56, 57, 57, 48, 57, 49, 57, 50, 57, 51, 57, 52, 57, 53, 57, 54, 57, 55, 57, 56, 57, 57]) (some t10) (some t13) fun t14 =>
 K t14 H)
theorem zq204_eq (t0 : AV) (H : Heap) (K : Kt) : awp Tryz.prog zq204_M zq204_c (retQ Tryz.prog zq204_r K) (t0 :: List.replicate 14 .unk) H = zq204 t0 H K := by kernel_rfl
theorem zq204_ok {t0 : AV} {H : Heap} {K : Kt} (h : HSc H → zq204 t0 H K) : ACalls Tryz.prog n_zq204 [t0] H K :=
 acalls_body (M := zq204_M) Tryz.func207 (c := zq204_c) (by kernel_rfl) (fun hs => (zq204_eq t0 H K).mpr (h hs))
def zq99_M (_ : Nat) : List Bool := []
noncomputable def zq99_c : Code := Tryz.f101.body.getD .skip
noncomputable def zq99_r : List ResultVar := Tryz.f101.results.toList
def zq99 (t0 : AV) (H : Heap) (K : Kt) : Prop :=
 ACalls Tryz.prog n_zq164 [t0] H fun t4 H =>
 K t4 H
theorem zq99_eq (t0 : AV) (H : Heap) (K : Kt) : awp Tryz.prog zq99_M zq99_c (retQ Tryz.prog zq99_r K) (t0 :: List.replicate 4 .unk) H = zq99 t0 H K := by kernel_rfl
theorem zq99_ok {t0 : AV} {H : Heap} {K : Kt} (h : HSc H → zq99 t0 H K) : ACalls Tryz.prog n_zq99 [t0] H K :=
 acalls_body (M := zq99_M) Tryz.func101 (c := zq99_c) (by kernel_rfl) (fun hs => (zq99_eq t0 H K).mpr (h hs))
def zq164_M (_ : Nat) : List Bool := []
noncomputable def zq164_c : Code := Tryz.f166.body.getD .skip
noncomputable def zq164_r : List ResultVar := Tryz.f166.results.toList
def zq164 (t0 : AV) (H : Heap) (K : Kt) : Prop :=
 aTest t0
 (K (.str [116, 114, 117, 101]) H)
 (K (.str [102, 97, 108, 115, 101]) H)
theorem zq164_eq (t0 : AV) (H : Heap) (K : Kt) : awp Tryz.prog zq164_M zq164_c (retQ Tryz.prog zq164_r K) (t0 :: List.replicate 3 .unk) H = zq164 t0 H K := by kernel_rfl
theorem zq164_ok {t0 : AV} {H : Heap} {K : Kt} (h : HSc H → zq164 t0 H K) : ACalls Tryz.prog n_zq164 [t0] H K :=
 acalls_body (M := zq164_M) Tryz.func166 (c := zq164_c) (by kernel_rfl) (fun hs => (zq164_eq t0 H K).mpr (h hs))
end Go.Proofs.YtfpmdpldabopjaaGreatDoor
namespace Go.Proofs.YtfpmdpldabopjaaGreatDoor
open Go Go.RowKit
set_option maxHeartbeats 1000000 in
set_option maxRecDepth 100000 in
theorem copyCheck_used (b : Nat) (w : World) (h0 : w.cell? ⟨b, 0, none⟩ = some (.pointer (some ⟨b, 0, none⟩))) :
  Calls Tryz.prog n_zq162 #[.pointer (some ⟨b, 0, none⟩)] w fun e w' => e = .returned (.tuple #[]) ∧ w' = w := by
 obtain ⟨j, hj⟩ : ∃ j, Tryz.prog.info? 73 = some j := Option.isSome_iff_exists.1 (by kernel_rfl)
 go_enter Tryz.func164, Tryz.ntmps164
 go_wp2
 rw [Lib.run_neq_ptr_same w _ Tryz.underlying70 hj]
 go_wp2
 go_end0
 exact ⟨rfl, rfl⟩
set_option maxHeartbeats 1000000 in
set_option maxRecDepth 100000 in
theorem copyCheck_fresh (b : Nat) (w : World) (h0 : w.cell? ⟨b, 0, none⟩ = some (.pointer none)) (hsh : w.shape? b = some (73, 2)) (hfz : w.frozen? ⟨b, 0, none⟩ = false) :
  Calls Tryz.prog n_zq162 #[.pointer (some ⟨b, 0, none⟩)] w fun e w' => e = .returned (.tuple #[]) ∧ w' = w.setCell ⟨b, 0, none⟩ (.pointer (some ⟨b, 0, none⟩)) := by
 obtain ⟨j, hj⟩ : ∃ j, Tryz.prog.info? 73 = some j := Option.isSome_iff_exists.1 (by kernel_rfl)
 have hjs : j.size = 2 := by
  have : (Tryz.prog.info? 73).map (·.size) = some 2 := by kernel_rfl
  rw [hj] at this
  simpa using this
 go_enter Tryz.func164, Tryz.ntmps164
 go_wp2
 rw [Lib.run_to_unsafe w ⟨b, 0, none⟩ Tryz.underlying70 Tryz.underlying211 hj (by rw [hjs]; decide) hsh (Nat.zero_lt_succ 1)]
 simp only [Result.andThen]
 rw [Oper.upon_value]
 go_wp2
 rw [run_callFunc_extern Tryz.func206 (by kernel_rfl) (by kernel_rfl) (by kernel_rfl) (e := Extern.AbiNoEscape.same) (by kernel_rfl)]
 rw [Lib.run_noEscape]
 simp only [Result.andThen]
 rw [Oper.upon_value]
 go_wp2
 rw [Lib.run_from_unsafe w ⟨b, 0, none⟩ Tryz.underlying211 Tryz.underlying70 hj hsh (by kernel_rfl)]
 simp only [Result.andThen]
 rw [Oper.upon_value]
 go_wp2
 go_end0
 exact ⟨rfl, rfl⟩
end Go.Proofs.YtfpmdpldabopjaaGreatDoor
namespace Go.Proofs.YtfpmdpldabopjaaGreatDoor
open Go Go.RowKit
set_option maxHeartbeats 2000000 in
set_option maxRecDepth 100000 in
theorem writeString_model (b : Nat) (s : ByteArray) (v v' : Value) (w w1 w2 : World)
  (hcc : Calls Tryz.prog n_zq162 #[.pointer (some ⟨b, 0, none⟩)] w fun e w' => e = .returned (.tuple #[]) ∧ w' = w1)
  (hb1 : w1.heap[b]? = some (.cells #[.pointer (some ⟨b, 0, none⟩), v] 73 (0, 0)))
  (hr : ∀ ty, (Builtin.append_ #[71, 9] ty #[v, .string s]).run Tryz.prog w1 = .ok v' w2)
  (hb2 : w2.heap[b]? = some (.cells #[.pointer (some ⟨b, 0, none⟩), v] 73 (0, 0))) (hv' : ∃ ao n cap, v' = .slice ao n cap) :
  Calls Tryz.prog n_zq97 #[.pointer (some ⟨b, 0, none⟩), .string s] w fun e w' => e = .returned (.tuple #[.int .i64 s.size, .nilIface]) ∧ w' = w2.setCell ⟨b, 1, none⟩ v' := by
 obtain ⟨ao, n', cap, rfl⟩ := hv'
 have c1 : w1.cell? ⟨b, 1, none⟩ = some v := by rw [Lib.cell_of_heap hb1]; rfl
 have d1 : w2.cell? ⟨b, 1, none⟩ = some v := by rw [Lib.cell_of_heap hb2]; rfl
 have f1 : w2.frozen? ⟨b, 1, none⟩ = false := Lib.frozen_of_heap hb2 1
 go_enter Tryz.func99, Tryz.ntmps99
 go_wp2_with (go_at_call 164; refine hcc.mono ?_)
 rintro e w1' ⟨rfl, rfl⟩
 go_wp2_with (at_builtin; refine Go.Abs.wpList_append_str rfl _ _ 71 9 rfl rfl rfl hr ?_)
 go_wp2
 go_ret2
 exact ⟨rfl, rfl⟩
end Go.Proofs.YtfpmdpldabopjaaGreatDoor
namespace Go.Proofs.YtfpmdpldabopjaaGreatDoor
open Go Go.RowKit Go.Abs
theorem byte_info : ∃ i, Tryz.prog.info? 5 = some i ∧ i.zero = some (.int .u8 0) ∧ i.size = 1 ∧ i.bytes = 1 := by
 obtain ⟨i, hi⟩ : ∃ i, Tryz.prog.info? 5 = some i := Option.isSome_iff_exists.1 (by kernel_rfl)
 have h1 : (Tryz.prog.info? 5).map (·.size) = some 1 := by kernel_rfl
 have h2 : (Tryz.prog.info? 5).map (·.bytes) = some 1 := by kernel_rfl
 have h3 : (Tryz.prog.info? 5).bind (·.zero) = some (.int .u8 0) := by kernel_rfl
 rw [hi] at h1 h2 h3
 exact ⟨i, hi, by simpa using h3, by simpa using h1, by simpa using h2⟩
theorem copyCheck_step {B : Nat} {w : World} {G : Gh} {H : Heap} (hH : HRel B w G H) {id b : Nat} {p c : AV} (hp : p = .nilp ∨ p = .ptr id 0) (h1 : H[id]? = some (.bld 73 [p, c])) (hμ : G.μ[id]? = some (.blk b)) :
  ∃ w1 v, Calls Tryz.prog n_zq162 #[.pointer (some ⟨b, 0, none⟩)] w (fun e w' => e = .returned (.tuple #[]) ∧ w' = w1) ∧ Ext B w G w1 G ∧ HRel B w1 G (H.set id (.bld 73 [.ptr id 0, c])) ∧
   w1.heap[b]? = some (.cells #[.pointer (some ⟨b, 0, none⟩), v] 73 (0, 0)) ∧ ARel w1 G v c := by
 obtain ⟨hB, hL, ⟨vs⟩, hw, hc⟩ := hH.ok id _ _ h1 hμ
 match vs, hc with
 | [vp, v], ⟨hvp, hv, _⟩ =>
  have hvp' : vp = .pointer none ∨ vp = .pointer (some ⟨b, 0, none⟩) := by
   rcases hp with rfl | rfl
   ·exact .inl hvp
   ·obtain ⟨b', k1, k2⟩ := hvp
    rw [hμ] at k1
    cases k1
    exact .inr k2
  have hstep := hH.storeB (cs' := [.ptr id 0, c]) (vs' := #[.pointer (some ⟨b, 0, none⟩), v]) h1 hμ hw ⟨⟨b, hμ, rfl⟩, hv, trivial⟩
  rcases hvp' with rfl | rfl
  ·refine ⟨_, v, ?_, hstep.1, hstep.2, setRow_heap w b _ _ _ _ hw, hstep.1.arel hv⟩
   refine (copyCheck_fresh b w (by rw [Lib.cell_of_heap hw]; rfl) (by simp [World.shape?, hw]) (Lib.frozen_of_heap hw 0)).mono ?_
   rintro e w' ⟨rfl, rfl⟩
   refine ⟨rfl, ?_⟩
   rw [setCell_eq_setRow w b 0 _ _ _ _ hw]
   rfl
  ·refine ⟨w, v, copyCheck_used b w (by rw [Lib.cell_of_heap hw]; rfl), Ext.refl _ _ _, ?_, hw, hv⟩
   refine hH.reCellB h1 fun us hus => ?_
   match us, hus with
   | [u1, u2], ⟨k1, k2⟩ =>
    refine ⟨?_, k2⟩
    rcases hp with rfl | rfl
    ·cases hvp
    ·exact k1
theorem WriteString_spec {H : Heap} {id id2 : Nat} {l s : List UInt8} {p : AV} (hp : p = .nilp ∨ p = .ptr id 0) (h1 : H[id]? = some (.bld 73 [p, .sl (bcs l) (.own id2)])) (h2 : H[id2]? = some (.perm 5 1 l.length))
  (hn : l.length + s.length ≤ 140737488355328) {K : AV → Heap → Prop}
  (hK : K (.tup [.int .i64 s.length, .nili]) ((H.set id2 (.perm 5 1 (l.length + s.length))).set id (.bld 73 [.ptr id 0, .sl (bcs (l ++ s)) (.own id2)]))) :
  ACalls Tryz.prog n_zq97 [.ptr id 0, .str s] H K := by
 intro B w G ⟨vs⟩ hH hv
 match vs, hv with
 | [v0, v1], ⟨⟨b, hμ, hv0⟩, hv1, _⟩ =>
  have hv1 : v1 = .string ⟨s.toArray⟩ := hv1
  subst hv0 hv1
  obtain ⟨w1, v, hcc, hE1, hH1, hw1, hva⟩ := copyCheck_step hH hp h1 hμ
  obtain ⟨hd, v', size, n', hμ2, hle, heq⟩ := hva
  have hne : id ≠ id2 := by
   rintro rfl
   rw [h1] at h2
   cases h2
  have h21 : (H.set id (.bld 73 [.ptr id 0, .sl (bcs l) (.own id2)]))[id2]? = some (.perm 5 1 l.length) := by rw [List.getElem?_set_ne hne]; exact h2
  have hok := hH1.ok id2 _ _ h21 hμ2
  obtain ⟨hs1, hn1, ⟨xs, hown⟩, hL2⟩ := hok
  subst hs1 hn1
  obtain ⟨rfl, hall⟩ := heq (bcs_len l)
  have hbne : v.ownBlock ≠ some b := fun h => hne (hH1.dist id id2 _ _ b hμ hμ2 rfl h)
  have hblt : b < w1.heap.size := hH1.lt id _ b hμ rfl
  obtain ⟨i, hi, hz, hsz, hby⟩ := byte_info
  have hmx : maxLen = 9223372036854775807 := rfl
  have key : ∃ v' w2 G2, (∀ ty, (Builtin.append_ #[71, 9] ty #[v, .string ⟨s.toArray⟩]).run Tryz.prog w1 = .ok v' w2) ∧ Ext B w1 G w2 G2 ∧
    HRel B w2 G2 ((H.set id (.bld 73 [.ptr id 0, .sl (bcs l) (.own id2)])).set id2 (.perm 5 1 (l.length + s.length))) ∧ ARel w2 G2 v' (.sl (bcs (l ++ s)) (.own id2)) ∧ w2.heap[b]? = w1.heap[b]? := by
   by_cases hs : s = []
   ·subst hs
    refine ⟨v, w1, G, fun ty => own_run_string0 Tryz.underlying71 Tryz.underlying9 hi hsz hown _ rfl, Ext.refl _ _ _, ?_, ?_, rfl⟩
    ·have : (H.set id (.bld 73 [.ptr id 0, .sl (bcs l) (.own id2)])).set id2 (.perm 5 1 (l.length + ([] : List UInt8).length)) = H.set id (.bld 73 [.ptr id 0, .sl (bcs l) (.own id2)]) := by
      apply List.ext_getElem?
      intro k
      by_cases hk : k = id2
      ·subst hk; rw [List.getElem?_set_self (List.getElem?_eq_some_iff.1 h21).1, h21]; rfl
      ·rw [List.getElem?_set_ne (fun h => hk h.symm)]
     rw [this]
     exact hH1
    ·rw [List.append_nil]
     exact ⟨hd, v, 1, _, hμ2, hle, heq⟩
   ·have hpos : 0 < s.length := List.length_pos_iff.2 hs
    obtain ⟨v', w2, hrun, hown', hcase⟩ := own_run_string (P := Tryz.prog) (ty := 71) (B := B) Tryz.underlying71 Tryz.underlying9 hi hz hsz hby hown ⟨s.toArray⟩ (by simpa [ByteArray.size] using hpos) (by simp [ByteArray.size]; omega) (by simpa [ByteArray.size] using hn) hH1.base
    have hss : (⟨s.toArray⟩ : ByteArray).size = s.length := rfl
    rw [hss] at hown'
    have hx : All2 (DRel w1 G.L) xs (bcs l).flatten := xs_rel hown hd (bcs_len l) (bcs_one l)
    obtain ⟨G2, hE2, hH2, hT⟩ := own_step hH1 h21 hμ2 hown hown' hcase (bcs_len s) hpos (bcs_len l) (bcs_one l) (bcs_one s) hx (bcs_rel s)
    refine ⟨v', w2, G2, fun ty => hrun, hE2, hH2, by rw [← bcs_app]; exact hT, ?_⟩
    rcases hcase with ⟨g, k1, _, k3⟩ | ⟨_, k3⟩
    ·exact k3.block b hblt (fun h => hbne (by rw [k1, h]))
    ·exact k3.block b hblt (by simp)
  obtain ⟨v', w2, G2, hrun, hE2, hH2, hva', hb2⟩ := key
  have hw2 := hb2.trans hw1
  have hμ' := (hE2.blk hμ)
  obtain ⟨hE3, hH3⟩ := hH2.storeB (id := id) (cs' := [.ptr id 0, .sl (bcs (l ++ s)) (.own id2)]) (vs' := #[.pointer (some ⟨b, 0, none⟩), v']) (by rw [List.getElem?_set_ne (fun h => hne h.symm)]; exact List.getElem?_set_self (List.getElem?_eq_some_iff.1 h1).1) hμ' hw2 ⟨⟨b, hμ', rfl⟩, hva', trivial⟩
  refine (writeString_model b ⟨s.toArray⟩ v v' w w1 w2 hcc hw1 hrun hw2 ?_).mono ?_
  ·obtain ⟨hd', _⟩ := hva'
   generalize bcs (l ++ s) = cs at hd'
   cases hd' with
   | slE a c => exact ⟨_, _, _, rfl⟩
   | sl => exact ⟨_, _, _, rfl⟩
  ·rintro e w' ⟨rfl, rfl⟩
   have hset : w2.setCell ⟨b, 1, none⟩ v' = w2.setRow b #[.pointer (some ⟨b, 0, none⟩), v'] := by
    rw [setCell_eq_setRow w2 b 1 _ _ _ _ hw2]
    rfl
   rw [hset]
   refine ⟨_, _, _, G2, rfl, (hE1.trans hE2).trans hE3, ?_, ?_, hK⟩
   ·rw [List.set_comm _ _ hne, List.set_set] at hH3
    exact hH3
   ·exact ⟨#[.int .i64 s.length, .nilIface], rfl, rfl, rfl, trivial⟩
end Go.Proofs.YtfpmdpldabopjaaGreatDoor
namespace Go.Proofs.YtfpmdpldabopjaaGreatDoor
open Go Go.RowKit
theorem byte_cells : Tryz.prog.cellsOf 5 = 1 := by kernel_rfl
set_option maxHeartbeats 2000000 in
set_option maxRecDepth 100000 in
theorem string_model (b g cap n : Nat) (p : Value) (cur : Array Value) (l : List UInt8) (w : World) (h0 : l ≠ []) (hbk : w.heap[b]? = some (.cells #[p, .slice (some ⟨g, 0, none⟩) l.length cap] 73 (0, 0)))
  (hg : w.heap[g]? = some (.cells cur 5 (0, 0))) (hc1 : l.length ≤ cap) (hc2 : cap ≤ maxLen) (hcs : cur.size = cap)
  (hcell : ∀ j x, l[j]? = some x → w.cell? ((⟨g, 0, none⟩ : Addr).add j) = some (.int .u8 x.toNat)) :
  Calls Tryz.prog n_zq56 #[.pointer (some ⟨b, 0, none⟩)] w fun e w' => e = .returned (.string ⟨l.toArray⟩) ∧ w' = w.drew.freeze ⟨g, 0, none⟩ l.length := by
 have hl0 : l.length ≠ 0 := by simpa using h0
 have c1 : w.drew.cell? ⟨b, 1, none⟩ = some (.slice (some ⟨g, 0, none⟩) l.length cap) := by
  have : w.drew.heap[b]? = some (.cells #[p, .slice (some ⟨g, 0, none⟩) l.length cap] 73 (0, 0)) := hbk
  rw [Lib.cell_of_heap this]; rfl
 have hSD : (Builtin.unsafeSliceData_ #[71] 130 #[.slice (some ⟨g, 0, none⟩) l.length cap]).run Tryz.prog w.drew = .ok (.pointer (some ⟨g, 0, none⟩)) w.drew :=
  Lib.run_unsafeSliceData_row _ _ _ _ _ _ (by omega)
 have hUS : (Builtin.unsafeString_ #[130, 3] 9 #[.pointer (some ⟨g, 0, none⟩), .int .i64 l.length]).run Tryz.prog w.drew = .ok (.string ⟨l.toArray⟩) (w.drew.freeze ⟨g, 0, none⟩ l.length) := by
  refine Lib.run_unsafeString_row w.drew 130 3 9 5 Tryz.underlying130 byte_cells g cur.size (by have hg' : w.drew.heap[g]? = some (.cells cur 5 (0, 0)) := hg; simp [World.shape?, hg']) l h0 (by omega) (by unfold maxLen at hc2; omega) ?_
  intro j x hx
  exact hcell j x hx
 go_enter Tryz.func58, Tryz.ntmps58
 go_wp2
 go_region
 all_goals (go_wp2; go_ret; exact ⟨rfl, rfl⟩)
set_option maxHeartbeats 2000000 in
set_option maxRecDepth 100000 in
theorem string_model_nil (b : Nat) (p : Value) (w : World) (hbk : w.heap[b]? = some (.cells #[p, .slice none 0 0] 73 (0, 0))) :
  Calls Tryz.prog n_zq56 #[.pointer (some ⟨b, 0, none⟩)] w fun e w' => e = .returned (.string ⟨#[]⟩) ∧ w' = w.drew := by
 have hUS : ∀ (W : World) (q : Option Addr), (Builtin.unsafeString_ #[130, 3] 9 #[.pointer q, .int .i64 0]).run Tryz.prog W = .ok (.string .empty) W := fun W q => Lib.run_unsafeString_none W _ _ _ q
 have c1 : w.drew.cell? ⟨b, 1, none⟩ = some (.slice none 0 0) := by
  have : w.drew.heap[b]? = some (.cells #[p, .slice none 0 0] 73 (0, 0)) := hbk
  rw [Lib.cell_of_heap this]; rfl
 have hSD : (Builtin.unsafeSliceData_ #[71] 130 #[.slice none 0 0]).run Tryz.prog w.drew = .ok (.pointer none) w.drew := rfl
 go_enter Tryz.func58, Tryz.ntmps58
 go_wp2
 go_region
 all_goals (go_wp2; go_ret; exact ⟨rfl, rfl⟩)
set_option maxHeartbeats 2000000 in
set_option maxRecDepth 100000 in
theorem string_model_room (b g cap : Nat) (p : Value) (w : World) (hc0 : cap ≠ 0) (hbk : w.heap[b]? = some (.cells #[p, .slice (some ⟨g, 0, none⟩) 0 cap] 73 (0, 0))) :
  Calls Tryz.prog n_zq56 #[.pointer (some ⟨b, 0, none⟩)] w fun e w' => e = .returned (.string ⟨#[]⟩) ∧ w' = w.drew := by
 have hUS : ∀ (W : World) (q : Option Addr), (Builtin.unsafeString_ #[130, 3] 9 #[.pointer q, .int .i64 0]).run Tryz.prog W = .ok (.string .empty) W := fun W q => Lib.run_unsafeString_none W _ _ _ q
 have c1 : w.drew.cell? ⟨b, 1, none⟩ = some (.slice (some ⟨g, 0, none⟩) 0 cap) := by
  have : w.drew.heap[b]? = some (.cells #[p, .slice (some ⟨g, 0, none⟩) 0 cap] 73 (0, 0)) := hbk
  rw [Lib.cell_of_heap this]; rfl
 have hSD : (Builtin.unsafeSliceData_ #[71] 130 #[.slice (some ⟨g, 0, none⟩) 0 cap]).run Tryz.prog w.drew = .ok (.pointer (some ⟨g, 0, none⟩)) w.drew :=
  Lib.run_unsafeSliceData_row _ _ _ _ _ _ hc0
 clear hc0
 go_enter Tryz.func58, Tryz.ntmps58
 go_wp2
 go_region
 all_goals (go_wp2; go_ret; exact ⟨rfl, rfl⟩)
set_option maxHeartbeats 2000000 in
set_option maxRecDepth 100000 in
theorem string_model_noroom (b g : Nat) (p : Value) (cur : Array Value) (w : World) (hbk : w.heap[b]? = some (.cells #[p, .slice (some ⟨g, 0, none⟩) 0 0] 73 (0, 0))) (hg : w.heap[g]? = some (.cells cur 5 (0, 0))) :
  Calls Tryz.prog n_zq56 #[.pointer (some ⟨b, 0, none⟩)] w fun e w' => e = .returned (.string ⟨#[]⟩) ∧ w' = (w.alloc (.view ⟨g, 0, none⟩ 5)).drew := by
 have hUS : ∀ (W : World) (q : Option Addr), (Builtin.unsafeString_ #[130, 3] 9 #[.pointer q, .int .i64 0]).run Tryz.prog W = .ok (.string .empty) W := fun W q => Lib.run_unsafeString_none W _ _ _ q
 have hlt : b < w.heap.size := by
  rcases Nat.lt_or_ge b w.heap.size with h' | h'
  ·exact h'
  ·simp [Array.getElem?_eq_none h'] at hbk
 have c1 : w.drew.cell? ⟨b, 1, none⟩ = some (.slice (some ⟨g, 0, none⟩) 0 0) := by
  have : w.drew.heap[b]? = some (.cells #[p, .slice (some ⟨g, 0, none⟩) 0 0] 73 (0, 0)) := hbk
  rw [Lib.cell_of_heap this]; rfl
 have hSD : (Builtin.unsafeSliceData_ #[71] 130 #[.slice (some ⟨g, 0, none⟩) 0 0]).run Tryz.prog w.drew = .ok (.pointer (some ⟨w.drew.heap.size, 0, none⟩)) (w.drew.alloc (.view ⟨g, 0, none⟩ 5)) :=
  Lib.run_unsafeSliceData_zero w.drew _ _ 5 Tryz.underlying130 ⟨g, 0, none⟩ 0 (5, cur.size) (by have hg' : w.drew.heap[g]? = some (.cells cur 5 (0, 0)) := hg; simp [World.shape?, hg'])
 have c2 : (w.drew.alloc (.view ⟨g, 0, none⟩ 5)).cell? ⟨b, 1, none⟩ = some (.slice (some ⟨g, 0, none⟩) 0 0) := by
  have : (w.drew.alloc (.view ⟨g, 0, none⟩ 5)).heap[b]? = _ := (Lib.alloc_old w.drew _ b hlt).trans hbk
  rw [Lib.cell_of_heap this]; rfl
 have c3 : (w.alloc (.view ⟨g, 0, none⟩ 5)).drew.cell? ⟨b, 1, none⟩ = some (.slice (some ⟨g, 0, none⟩) 0 0) := c2
 have c0 : w.cell? ⟨b, 1, none⟩ = some (.slice (some ⟨g, 0, none⟩) 0 0) := c1
 go_enter Tryz.func58, Tryz.ntmps58
 go_wp2
 go_region
 all_goals (go_wp2; go_ret; exact ⟨rfl, rfl⟩)
end Go.Proofs.YtfpmdpldabopjaaGreatDoor
namespace Go.Proofs.YtfpmdpldabopjaaGreatDoor
open Go Go.RowKit Go.Abs
theorem bcs_vals {w : World} {L : Nat → Nat} : ∀ {l : List UInt8} {xs : List Value}, All2 (DRel w L) xs (bcs l).flatten → xs = l.map fun b => Value.int .u8 b.toNat
 | [], [], _ => rfl
 | [], _ :: _, h => h.elim
 | _ :: _, [], h => h.elim
 | c :: l, x :: xs, ⟨hx1, hx2⟩ => by
  cases hx1
  rw [List.map_cons, bcs_vals (l := l) hx2]
theorem String_spec {H : Heap} {id id2 : Nat} {l : List UInt8} {p : AV} (h1 : H[id]? = some (.bld 73 [p, .sl (bcs l) (.own id2)])) (h2 : H[id2]? = some (.perm 5 1 l.length)) {K : AV → Heap → Prop}
  (hK : K (.str l) (H.set id2 .dead)) : ACalls Tryz.prog n_zq56 [.ptr id 0] H K := by
 intro B w G ⟨vs⟩ hH hv
 match vs, hv with
 | [v0], ⟨⟨b, hμ, hv0⟩, _⟩ =>
  subst hv0
  obtain ⟨hB, hL, ⟨us⟩, hw, hc⟩ := hH.ok id _ _ h1 hμ
  match us, hc with
  | [vp, v], ⟨hvp, ⟨hd, v', size, n', hμ2, hle, heq⟩, _⟩ =>
   obtain ⟨hs1, hn1, ⟨xs, hown⟩, hL2⟩ := hH.ok id2 _ _ h2 hμ2
   subst hs1 hn1
   obtain ⟨rfl, hall⟩ := heq (bcs_len l)
   have hdr := Ext.drew B w G (w.drawn + 1)
   have hHd := hH.drew (w.drawn + 1)
   by_cases hl : l = []
   ·subst hl
    rcases hown.2 with ⟨rfl, _⟩ | ⟨g, cap, cur, rfl, k1, k2, k3, k4, k5, k6⟩
    ·refine (string_model_nil b vp w hw).mono ?_
     rintro e w' ⟨rfl, rfl⟩
     exact ⟨_, (.str []), _, G, rfl, hdr, hHd.dead h2, rfl, hK⟩
    ·by_cases hc0 : cap = 0
     ·subst hc0
      refine (string_model_noroom b g vp cur w hw k2).mono ?_
      rintro e w' ⟨rfl, rfl⟩
      obtain ⟨hE1, hH1⟩ := hH.other (.view ⟨g, 0, none⟩ 5)
      exact ⟨_, (.str []), _, G, rfl, hE1.trans (Ext.drew B _ G _), (hH1.drew _).dead h2, rfl, hK⟩
     ·refine (string_model_room b g cap vp w hc0 hw).mono ?_
      rintro e w' ⟨rfl, rfl⟩
      exact ⟨_, (.str []), _, G, rfl, hdr, hHd.dead h2, rfl, hK⟩
   ·rcases hown.2 with ⟨_, hz⟩ | ⟨g, cap, cur, rfl, k1, k2, k3, k4, k5, k6⟩
    ·exact absurd (List.eq_nil_of_length_eq_zero hz) hl
    ·have hx : All2 (DRel w G.L) xs (bcs l).flatten := xs_rel hown hd (bcs_len l) (bcs_one l)
     have hxs : xs = l.map fun b => Value.int .u8 b.toNat := by
      exact bcs_vals hx
     refine (string_model b g cap l.length vp cur l w hl hw k2 k3 k4 (by omega) ?_).mono ?_
     ·intro j x hj
      exact hown.cells (g := g) rfl j _ (by rw [hxs, List.getElem?_map, hj]; rfl)
     ·rintro e w' ⟨rfl, rfl⟩
      obtain ⟨hE1, hH1⟩ := hHd.freezeB h2 hμ2 l.length
      exact ⟨_, (.str l), _, G, rfl, hdr.trans hE1, hH1, rfl, hK⟩
end Go.Proofs.YtfpmdpldabopjaaGreatDoor
namespace Go.Proofs.YtfpmdpldabopjaaGreatDoor
open Go Go.RowKit Go.Abs
set_option maxRecDepth 8000
def small (n : Nat) : List UInt8 := if n < 10 then [48 + UInt8.ofNat n] else [48 + UInt8.ofNat (n / 10), 48 + UInt8.ofNat (n % 10)]
def digs : List UInt8 := [48, 49, 50, 51, 52, 53, 54, 55, 56, 57, 97, 98, 99, 100, 101, 102, 103, 104, 105, 106, 107, 108, 109, 110, 111, 112, 113, 114, 115, 116, 117, 118, 119, 120, 121, 122]
def pairs : List UInt8 := (List.range 100).flatMap fun n => [48 + UInt8.ofNat (n / 10), 48 + UInt8.ofNat (n % 10)]
theorem digs_at : ∀ n, n < 10 → (digs.take (n + 1)).drop n = small n := by decide
theorem pairs_at : ∀ n, n < 100 → 10 ≤ n → (pairs.take (2 * n + 2)).drop (2 * n) = small n := by decide
theorem small_spec (n : Nat) (hn : n < 100) (H : Heap) (K : Kt) (hK : K (.str (small n)) H) : ACalls Tryz.prog n_zq204 [.int .i64 n] H K := by
 refine zq204_ok fun hs => ?_
 by_cases h10 : n < 10
 ·have : (n : Int) < 10 := by omega
  have e1 : IntKind.i64.wrap ((n : Int) + 1) = ((n + 1 : Nat) : Int) := by rw [wrap_in (by omega) (by omega)]; omega
  simp [zq204, this]
  rw [e1]
  refine ⟨by omega, ⟨by omega, by omega⟩, ?_⟩
  have hK' : K (.str ((digs.take (n + 1)).drop n)) H := by rw [digs_at n h10]; exact hK
  rw [Int.toNat_natCast]
  exact hK'
 ·have : ¬ (n : Int) < 10 := by omega
  have e1 : IntKind.i64.wrap ((n : Int) * 2) = ((2 * n : Nat) : Int) := by rw [wrap_in (by omega) (by omega)]; omega
  have e2 : IntKind.i64.wrap (((2 * n : Nat) : Int) + 2) = ((2 * n + 2 : Nat) : Int) := by rw [wrap_in (by omega) (by omega)]; omega
  simp [zq204, this]
  rw [e1, e2]
  refine ⟨by omega, by omega, ⟨by omega, by omega⟩, ?_⟩
  have hK' : K (.str ((pairs.take (2 * n + 2)).drop (2 * n))) H := by rw [pairs_at n hn (by omega)]; exact hK
  have hp : pairs = [48, 48, 48, 49, 48, 50, 48, 51, 48, 52, 48, 53, 48, 54, 48, 55, 48, 56, 48, 57, 49, 48, 49, 49, 49, 50, 49, 51, 49, 52, 49, 53, 49, 54, 49, 55, 49, 56, 49, 57, 50, 48, 50, 49, 50, 50, 50, 51, 50, 52, 50, 53, 50, 54, 50, 55, 50, 56, 50, 57, 51, 48, 51, 49, 51, 50, 51, 51, 51, 52, 51, 53, 51, 54, 51, 55, 51, 56, 51, 57, 52, 48, 52, 49, 52, 50, 52, 51, 52, 52, 52, 53, 52, 54, 52, 55, 52, 56, 52, 57, 53, 48, 53, 49, 53, 50, 53, 51, 53, 52, 53, 53, 53, 54, 53, 55, 53, 56, 53, 57, 54, 48, 54, 49, 54, 50, 54, 51, 54, 52, 54, 53, 54, 54, 54, 55, 54, 56, 54, 57, 55, 48, 55, 49, 55, 50, 55, 51, 55, 52, 55, 53, 55, 54, 55, 55, 55, 56, 55, 57, 56, 48, 56, 49, 56, 50, 56, 51, 56, 52, 56, 53, 56, 54, 56, 55, 56, 56, 56, 57, 57, 48, 57, 49, 57, 50, 57, 51, 57, 52, 57, 53, 57, 54, 57, 55, 57, 56, 57, 57] := by decide
  rw [hp] at hK'
  rw [Int.toNat_natCast, Int.toNat_natCast]
  exact hK'
theorem internal_FormatInt_model (n : Nat) (hn : n < 100) (w : World) (R : World → Prop) (s : ByteArray)
  (hs : Calls Tryz.prog n_zq204 #[.int .i64 n] w fun e w' => e = .returned (.string s) ∧ R w') :
  Calls Tryz.prog n_zq163 #[.int .i64 n, .int .i64 10] w fun e w' => e = .returned (.string s) ∧ R w' := by
 have a1 : ((0 : Int) ≤ (n : Int)) := by omega
 have a2 : ((n : Int) < 100) := by omega
 go_enter Tryz.func165, Tryz.ntmps165
 go_wp2_with (go_at_call 207; refine hs.mono ?_)
 rintro e w1 ⟨rfl, hR⟩
 go_wp2
 go_ret
 exact ⟨rfl, hR⟩
theorem internal_FormatInt_spec (n : Nat) (hn : n < 100) (H : Heap) (K : Kt) (hK : K (.str (small n)) H) : ACalls Tryz.prog n_zq163 [.int .i64 n, .int .i64 10] H K := by
 intro B w G ⟨vs⟩ hH hv
 match vs, hv with
 | [v0, v1], ⟨h0, h1, _⟩ =>
  have h0 : v0 = .int .i64 n := h0
  have h1 : v1 = .int .i64 10 := h1
  subst h0 h1
  have hs := small_spec n hn H (fun r H' => r = .str (small n) ∧ H' = H) ⟨rfl, rfl⟩ B w G #[.int .i64 n] hH ⟨rfl, trivial⟩
  refine (internal_FormatInt_model n hn w (fun w' => ∃ G', Ext B w G w' G' ∧ HRel B w' G' H) ⟨(small n).toArray⟩ (hs.mono ?_)).mono ?_
  ·rintro e w1 ⟨v, r, H', G', rfl, hE, hH', hT, rfl, rfl⟩
   have hT : v = .string ⟨(small n).toArray⟩ := hT
   exact ⟨by rw [hT], G', hE, hH'⟩
  ·rintro e w1 ⟨rfl, G', hE, hH'⟩
   exact ⟨_, .str (small n), _, G', rfl, hE, hH', rfl, hK⟩
theorem FormatInt_spec (n : Nat) (hn : n < 100) (H : Heap) (K : Kt) (hK : K (.str (small n)) H) : ACalls Tryz.prog n_zq98 [.int .i64 n, .int .i64 10] H K :=
 zq98_ok fun hs => internal_FormatInt_spec n hn _ _ hK
end Go.Proofs.YtfpmdpldabopjaaGreatDoor
namespace Go.Proofs.YtfpmdpldabopjaaGreatDoor
open Go Go.Abs
set_option maxRecDepth 100000
end Go.Proofs.YtfpmdpldabopjaaGreatDoor
