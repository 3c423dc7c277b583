/- The shallow forms of functions of the program, printed by a program (absgen.py) off the translation, each tied to the model by the kernel. -/
import Derived.Test.YtfpmdpldabopjaaGreatDoorKNum
import Derived.Test.YtfpmdpldabopjaaGreatDoorProg
import Derived.KernelRfl
namespace Go.Proofs.YtfpmdpldabopjaaGreatDoor
open Go Go.Abs
set_option linter.unusedVariables false
set_option maxRecDepth 100000
def zq86_M (_ : Nat) : List Bool := []
noncomputable def zq86_c : Code := Tryz.f88.body.getD .skip
noncomputable def zq86_r : List ResultVar := Tryz.f88.results.toList
def zq86 (t0 t1 : AV) (H : Heap) (K : Kt) : Prop :=
 ACalls Tryz.prog n_zq154 [t0, t1] H fun t7 H =>
 aBin .geq false t7 (.int .i64 0) fun t8 =>
 K t8 H
theorem zq86_eq (t0 t1 : AV) (H : Heap) (K : Kt) : awp Tryz.prog zq86_M zq86_c (retQ Tryz.prog zq86_r K) (t0 :: t1 :: List.replicate 7 .unk) H = zq86 t0 t1 H K := by kernel_rfl
theorem zq86_ok {t0 t1 : AV} {H : Heap} {K : Kt} (h : HSc H → zq86 t0 t1 H K) : ACalls Tryz.prog n_zq86 [t0, t1] H K :=
 acalls_body (M := zq86_M) Tryz.func88 (c := zq86_c) (by kernel_rfl) (fun hs => (zq86_eq t0 t1 H K).mpr (h hs))
def zq154_M : Nat → List Bool
 | 2 => rl false [0,2,5,2,10]
 | _ => []
noncomputable def zq154_c : Code := Tryz.f156.body.getD .skip
noncomputable def zq154_r : List ResultVar := Tryz.f156.results.toList
def zq154_fr2 (t0 t1 t7 t8 : AV) : List AV := t0 :: t1 :: ux 5 (t7 :: t8 :: ux 10 [])
def zq154_m2 : List Bool := zq154_M 2
noncomputable def zq154_c2 : Code := codeAt [1, 0, 1, 0, 0] zq154_c
def zq154_Q2 (K : Kt) : AExit → List AV → Heap → Prop := contAt Tryz.prog zq154_M [1, 0, 1, 0] zq154_c (retQ Tryz.prog zq154_r K)
def zq154_l2 (t0 t1 t7 t8 : AV) (H : Heap) (K : Kt) : Prop := ALoop Tryz.prog zq154_c2 (zq154_Q2 K) (zq154_fr2 t0 t1 t7 t8) H
def zq154_b2 (t0 t1 t7 t8 : AV) (H : Heap) (K : Kt) (Kb2 : Lt) : Prop :=
 aBin .lss false t8 t7 fun t9 =>
 aTest t9
 (aIdxA 3 t0 t8 fun t14 =>
 aLoad true 3 t14 H fun t15 =>
 aCallV Tryz.prog t1 [t15] H fun t16 H =>
 aTest t16
 (K t8 H)
 (aBin .add false t8 (.int .i64 1) fun t18 =>
 Kb2 (zq154_fr2 t0 t1 t7 t18) H))
 (K (.int .i64 (-1)) H)
def zq154 (t0 t1 : AV) (H : Heap) (K : Kt) : Prop :=
 aLen 1 t0 fun t7 =>
 zq154_l2 t0 t1 t7 (.int .i64 0) H K
theorem zq154_b2_eq (t0 t1 t7 t8 : AV) (H : Heap) (K : Kt) (Kb2 : Lt) : awp Tryz.prog zq154_M zq154_c2 (roundQ zq154_m2 Kb2 (zq154_Q2 K)) (zq154_fr2 t0 t1 t7 t8) H = zq154_b2 t0 t1 t7 t8 H K Kb2 := by kernel_rfl
theorem zq154_loop2 {t0 t1 t7 t8 : AV} {H : Heap} {K : Kt} (Inv : Nat → AV → Heap → Prop) (n : Nat) (h0 : HSc H → Inv n t8 H)
   (round : ∀ n t8 H', Inv n t8 H' → HSc H' → H.length ≤ H'.length → (zq154_fr2 t0 t1 t7 t8).all (AV.sc H'.length) = true → ∀ Kb2 : Lt, (∀ F'' H'', (∃ n', n' < n ∧ Back H.length (fun F2 H2 => ∃ t8, F2 = zq154_fr2 t0 t1 t7 t8 ∧ Inv n' t8 H2) F'' H'') → Kb2 F'' H'') → zq154_b2 t0 t1 t7 t8 H' K Kb2) : zq154_l2 t0 t1 t7 t8 H K :=
 aloop (M := zq154_M) zq154_m2 (fun n F H => ∃ t8, F = zq154_fr2 t0 t1 t7 t8 ∧ Inv n t8 H) n (fun hs _ => ⟨t8, rfl, h0 hs⟩) (fun n F H' ⟨t8, hF, hI⟩ h1 h2 h3 => by subst hF; rw [zq154_b2_eq]; exact round n t8 H' hI h1 h2 h3 _ (fun _ _ h => h))
theorem zq154_eq (t0 t1 : AV) (H : Heap) (K : Kt) : awp Tryz.prog zq154_M zq154_c (retQ Tryz.prog zq154_r K) (t0 :: t1 :: List.replicate 17 .unk) H = zq154 t0 t1 H K := by kernel_rfl
theorem zq154_ok {t0 t1 : AV} {H : Heap} {K : Kt} (h : HSc H → zq154 t0 t1 H K) : ACalls Tryz.prog n_zq154 [t0, t1] H K :=
 acalls_body (M := zq154_M) Tryz.func156 (c := zq154_c) (by kernel_rfl) (fun hs => (zq154_eq t0 t1 H K).mpr (h hs))
def zq50_M (_ : Nat) : List Bool := []
noncomputable def zq50_c : Code := Tryz.f52.body.getD .skip
noncomputable def zq50_r : List ResultVar := Tryz.f52.results.toList
def zq50 (t0 t1 t2 : AV) (H : Heap) (K : Kt) : Prop :=
 aBox t0 H fun t3 H =>
 aBox t1 H fun t4 H =>
 aBox t2 H fun t5 H =>
 aFld 0 t5 fun t9 =>
 aLoad false 1 t9 H fun t10 =>
 aBin .eql false t10 (.int .i64 1) fun t12 =>
 aTest t12
 (aFld 0 t4 fun t13 =>
 aLoad false 1 t13 H fun t14 =>
 aBin .eql false t14 (.int .i64 3) fun t15 =>
 aGuardJ t15 true H (fun K' => aFld 1 t4 (K' · H)) fun t17 H =>
 aGuardJ t15 true H (fun K' => aLoad false 1 t17 H (K' · H)) fun t18 H =>
 aGuardJ t15 true H (fun K' => aBin .leq false (.int .i64 (-1099511627776)) t18 (K' · H)) fun t19 H =>
 aPick t15 t19 (.bool false) fun t20 =>
 aGuardJ t20 true H (fun K' => aFld 1 t4 (K' · H)) fun t22 H =>
 aGuardJ t20 true H (fun K' => aLoad false 1 t22 H (K' · H)) fun t23 H =>
 aGuardJ t20 true H (fun K' => aBin .leq false t23 (.int .i64 1099511627776) (K' · H)) fun t24 H =>
 aPick t20 t24 (.bool false) fun t25 =>
 aGuardJ t25 true H (fun K' => aFld 2 t4 (K' · H)) fun t27 H =>
 aGuardJ t25 true H (fun K' => aLoad false 1 t27 H (K' · H)) fun t28 H =>
 aGuardJ t25 true H (fun K' => aLen 1 t28 (K' · H)) fun t29 H =>
 aGuardJ t25 true H (fun K' => aBin .eql false t29 (.int .i64 0) (K' · H)) fun t30 H =>
 aPick t25 t30 (.bool false) fun t31 =>
 K t31 H)
 (aBin .eql false t10 (.int .i64 2) fun t33 =>
 aTest t33
 (aFld 0 t4 fun t34 =>
 aLoad false 1 t34 H fun t35 =>
 aBin .eql false t35 (.int .i64 2) fun t36 =>
 aGuardJ t36 true H (fun K' => aFld 1 t4 (K' · H)) fun t38 H =>
 aGuardJ t36 true H (fun K' => aLoad false 1 t38 H (K' · H)) fun t39 H =>
 aGuardJ t36 true H (fun K' => aBin .eql false t39 (.int .i64 0) (K' · H)) fun t40 H =>
 aGuardJ t36 true H (fun K' => K' t40 H) fun t41 H =>
 aGuardJ t41 false H (fun K' => aFld 1 t4 (K' · H)) fun t42 H =>
 aGuardJ t41 false H (fun K' => aLoad false 1 t42 H (K' · H)) fun t43 H =>
 aGuardJ t41 false H (fun K' => aBin .eql false t43 (.int .i64 1) (K' · H)) fun t44 H =>
 aGuardJ t36 true H (fun K' => aPick t41 (.bool true) t44 (K' · H)) fun t45 H =>
 aPick t36 t45 (.bool false) fun t46 =>
 aGuardJ t46 true H (fun K' => aFld 2 t4 (K' · H)) fun t48 H =>
 aGuardJ t46 true H (fun K' => aLoad false 1 t48 H (K' · H)) fun t49 H =>
 aGuardJ t46 true H (fun K' => aLen 1 t49 (K' · H)) fun t50 H =>
 aGuardJ t46 true H (fun K' => aBin .eql false t50 (.int .i64 0) (K' · H)) fun t51 H =>
 aPick t46 t51 (.bool false) fun t52 =>
 K t52 H)
 (aBin .eql false t10 (.int .i64 3) fun t54 =>
 aTest t54
 (aFld 0 t4 fun t55 =>
 aLoad false 1 t55 H fun t56 =>
 aBin .eql false t56 (.int .i64 1) fun t57 =>
 aGuardJ t57 true H (fun K' => aFld 1 t4 (K' · H)) fun t59 H =>
 aGuardJ t57 true H (fun K' => aLoad false 1 t59 H (K' · H)) fun t60 H =>
 aGuardJ t57 true H (fun K' => aBin .eql false t60 (.int .i64 0) (K' · H)) fun t61 H =>
 aPick t57 t61 (.bool false) fun t62 =>
 aGuardJ t62 true H (fun K' => aFld 2 t4 (K' · H)) fun t64 H =>
 aGuardJ t62 true H (fun K' => aLoad false 1 t64 H (K' · H)) fun t65 H =>
 aGuardJ t62 true H (fun K' => aLen 1 t65 (K' · H)) fun t66 H =>
 aGuardJ t62 true H (fun K' => aBin .eql false t66 (.int .i64 0) (K' · H)) fun t67 H =>
 aPick t62 t67 (.bool false) fun t68 =>
 K t68 H)
 (aBin .eql false t10 (.int .i64 6) fun t70 =>
 aTest t70
 (aFld 0 t4 fun t71 =>
 aLoad false 1 t71 H fun t72 =>
 aBin .eql false t72 (.int .i64 4) fun t73 =>
 aGuardJ t73 true H (fun K' => aFld 1 t4 (K' · H)) fun t75 H =>
 aGuardJ t73 true H (fun K' => aLoad false 1 t75 H (K' · H)) fun t76 H =>
 aGuardJ t73 true H (fun K' => aBin .eql false t76 (.int .i64 0) (K' · H)) fun t77 H =>
 aPick t73 t77 (.bool false) fun t78 =>
 aGuardJ t78 true H (fun K' => aLoad false 1 t3 H (K' · H)) fun t80 H =>
 aGuardJ t78 true H (fun K' => aFld 2 t4 (K' · H)) fun t81 H =>
 aGuardJ t78 true H (fun K' => aLoad false 1 t81 H (K' · H)) fun t82 H =>
 aGuardJ t78 true H (fun K' => aFld 2 t5 (K' · H)) fun t83 H =>
 aGuardJ t78 true H (fun K' => aLoad false 1 t83 H (K' · H)) fun t84 H =>
 aGuardJ t78 true H (fun K' => ACalls Tryz.prog n_zq88 [t80, t82, t84] H K') fun t85 H =>
 aPick t78 t85 (.bool false) fun t86 =>
 K t86 H)
 (aBin .eql false t10 (.int .i64 5) fun t88 =>
 aTest t88
 (aFld 0 t4 fun t89 =>
 aLoad false 1 t89 H fun t90 =>
 aBin .neq false t90 (.int .i64 5) fun t91 =>
 aGuardJ t91 false H (fun K' => aFld 1 t4 (K' · H)) fun t93 H =>
 aGuardJ t91 false H (fun K' => aLoad false 1 t93 H (K' · H)) fun t94 H =>
 aGuardJ t91 false H (fun K' => aBin .lss false t94 (.int .i64 0) (K' · H)) fun t95 H =>
 aPick t91 (.bool true) t95 fun t96 =>
 aGuardJ t96 false H (fun K' => aFld 1 t4 (K' · H)) fun t98 H =>
 aGuardJ t96 false H (fun K' => aLoad false 1 t98 H (K' · H)) fun t99 H =>
 aGuardJ t96 false H (fun K' => aBin .geq false t99 (.int .i64 8) (K' · H)) fun t100 H =>
 aPick t96 (.bool true) t100 fun t101 =>
 aTest t101
 (K (.bool false) H)
 (aLoad false 1 t3 H fun t103 =>
 aLoad true 3 t5 H fun t104 =>
 aFld 1 t4 fun t105 =>
 aLoad false 1 t105 H fun t106 =>
 ACalls Tryz.prog n_zq89 [t103, t104, t106] H fun t107 H =>
 aExt t107 0 fun t108 =>
 aExt t107 1 fun t109 =>
 aGuardJ t109 true H (fun K' => aLoad false 1 t3 H (K' · H)) fun t112 H =>
 aGuardJ t109 true H (fun K' => aFld 2 t4 (K' · H)) fun t113 H =>
 aGuardJ t109 true H (fun K' => aLoad false 1 t113 H (K' · H)) fun t114 H =>
 aGuardJ t109 true H (fun K' => K' t108 H) fun t115 H =>
 aGuardJ t109 true H (fun K' => ACalls Tryz.prog n_zq88 [t112, t114, t115] H K') fun t116 H =>
 aPick t109 t116 (.bool false) fun t117 =>
 K t117 H))
 (aBin .eql false t10 (.int .i64 7) fun t119 =>
 aTest t119
 (aFld 0 t4 fun t120 =>
 aLoad false 1 t120 H fun t121 =>
 aBin .eql false t121 (.int .i64 6) fun t122 =>
 aGuardJ t122 true H (fun K' => aFld 1 t4 (K' · H)) fun t124 H =>
 aGuardJ t122 true H (fun K' => aLoad false 1 t124 H (K' · H)) fun t125 H =>
 aGuardJ t122 true H (fun K' => aBin .eql false t125 (.int .i64 0) (K' · H)) fun t126 H =>
 aPick t122 t126 (.bool false) fun t127 =>
 aGuardJ t127 true H (fun K' => aFld 2 t4 (K' · H)) fun t129 H =>
 aGuardJ t127 true H (fun K' => aLoad false 1 t129 H (K' · H)) fun t130 H =>
 aGuardJ t127 true H (fun K' => aLen 1 t130 (K' · H)) fun t131 H =>
 aGuardJ t127 true H (fun K' => aBin .leq false t131 (.int .i64 4096) (K' · H)) fun t132 H =>
 aPick t127 t132 (.bool false) fun t133 =>
 aGuardJ t133 true H (fun K' => aFld 2 t4 (K' · H)) fun t135 H =>
 aGuardJ t133 true H (fun K' => aLoad false 1 t135 H (K' · H)) fun t136 H =>
 aGuardJ t133 true H (fun K' => aClos n_zq90 [t3, t5] (K' · H)) fun t137 H =>
 aGuardJ t133 true H (fun K' => ACalls Tryz.prog n_zq86 [t136, t137] H K') fun t138 H =>
 aGuardJ t133 true H (fun K' => aUn .not t138 (K' · H)) fun t139 H =>
 aPick t133 t139 (.bool false) fun t140 =>
 K t140 H)
 (aBin .eql false t10 (.int .i64 8) fun t142 =>
 aTest t142
 (aFld 0 t4 fun t143 =>
 aLoad false 1 t143 H fun t144 =>
 aBin .eql false t144 (.int .i64 7) fun t145 =>
 aGuardJ t145 true H (fun K' => aFld 1 t4 (K' · H)) fun t147 H =>
 aGuardJ t145 true H (fun K' => aLoad false 1 t147 H (K' · H)) fun t148 H =>
 aGuardJ t145 true H (fun K' => aBin .eql false t148 (.int .i64 0) (K' · H)) fun t149 H =>
 aPick t145 t149 (.bool false) fun t150 =>
 aGuardJ t150 true H (fun K' => aLoad false 1 t3 H (K' · H)) fun t152 H =>
 aGuardJ t150 true H (fun K' => aFld 2 t4 (K' · H)) fun t153 H =>
 aGuardJ t150 true H (fun K' => aLoad false 1 t153 H (K' · H)) fun t154 H =>
 aGuardJ t150 true H (fun K' => aFld 2 t5 (K' · H)) fun t155 H =>
 aGuardJ t150 true H (fun K' => aLoad false 1 t155 H (K' · H)) fun t156 H =>
 aGuardJ t150 true H (fun K' => ACalls Tryz.prog n_zq88 [t152, t154, t156] H K') fun t157 H =>
 aPick t150 t157 (.bool false) fun t158 =>
 K t158 H)
 (aBin .eql false t10 (.int .i64 9) fun t160 =>
 aTest t160
 (aFld 0 t4 fun t161 =>
 aLoad false 1 t161 H fun t162 =>
 aBin .eql false t162 (.int .i64 8) fun t163 =>
 aGuardJ t163 true H (fun K' => aFld 1 t4 (K' · H)) fun t165 H =>
 aGuardJ t163 true H (fun K' => aLoad false 1 t165 H (K' · H)) fun t166 H =>
 aGuardJ t163 true H (fun K' => aBin .leq false (.int .i64 0) t166 (K' · H)) fun t167 H =>
 aPick t163 t167 (.bool false) fun t168 =>
 aGuardJ t168 true H (fun K' => aFld 1 t4 (K' · H)) fun t170 H =>
 aGuardJ t168 true H (fun K' => aLoad false 1 t170 H (K' · H)) fun t171 H =>
 aGuardJ t168 true H (fun K' => aBin .lss false t171 (.int .i64 64) (K' · H)) fun t172 H =>
 aPick t168 t172 (.bool false) fun t173 =>
 aGuardJ t173 true H (fun K' => aFld 2 t4 (K' · H)) fun t175 H =>
 aGuardJ t173 true H (fun K' => aLoad false 1 t175 H (K' · H)) fun t176 H =>
 aGuardJ t173 true H (fun K' => aLen 1 t176 (K' · H)) fun t177 H =>
 aGuardJ t173 true H (fun K' => aBin .eql false t177 (.int .i64 0) (K' · H)) fun t178 H =>
 aPick t173 t178 (.bool false) fun t179 =>
 K t179 H)
 (K (.bool false) H))))))))
theorem zq50_eq (t0 t1 t2 : AV) (H : Heap) (K : Kt) : awp Tryz.prog zq50_M zq50_c (retQ Tryz.prog zq50_r K) (t0 :: t1 :: t2 :: List.replicate 177 .unk) H = zq50 t0 t1 t2 H K := by kernel_rfl
theorem zq50_ok {t0 t1 t2 : AV} {H : Heap} {K : Kt} (h : HSc H → zq50 t0 t1 t2 H K) : ACalls Tryz.prog n_zq50 [t0, t1, t2] H K :=
 acalls_body (M := zq50_M) Tryz.func52 (c := zq50_c) (by kernel_rfl) (fun hs => (zq50_eq t0 t1 t2 H K).mpr (h hs))
def zq88_M (_ : Nat) : List Bool := []
noncomputable def zq88_c : Code := Tryz.f90.body.getD .skip
noncomputable def zq88_r : List ResultVar := Tryz.f90.results.toList
def zq88 (t0 t1 t2 : AV) (H : Heap) (K : Kt) : Prop :=
 aBox t0 H fun t3 H =>
 aClos n_zq156 [t3] fun t9 =>
 ACalls Tryz.prog n_zq155 [t1, t2, t9] H fun t10 H =>
 K t10 H
theorem zq88_eq (t0 t1 t2 : AV) (H : Heap) (K : Kt) : awp Tryz.prog zq88_M zq88_c (retQ Tryz.prog zq88_r K) (t0 :: t1 :: t2 :: List.replicate 8 .unk) H = zq88 t0 t1 t2 H K := by kernel_rfl
theorem zq88_ok {t0 t1 t2 : AV} {H : Heap} {K : Kt} (h : HSc H → zq88 t0 t1 t2 H K) : ACalls Tryz.prog n_zq88 [t0, t1, t2] H K :=
 acalls_body (M := zq88_M) Tryz.func90 (c := zq88_c) (by kernel_rfl) (fun hs => (zq88_eq t0 t1 t2 H K).mpr (h hs))
def zq90_M (_ : Nat) : List Bool := []
noncomputable def zq90_c : Code := Tryz.f92.body.getD .skip
noncomputable def zq90_r : List ResultVar := Tryz.f92.results.toList
def zq90 (t0 t1 t2 : AV) (H : Heap) (K : Kt) : Prop :=
 aBox t0 H fun t3 H =>
 aPure H (fun K' => aLoadC false 1 t1 H (K' · H)) fun t5 =>
 aPure H (fun K' => aLoadC true 3 t3 H (K' · H)) fun t6 =>
 aPure H (fun K' => aFld 2 t2 (K' · H)) fun t7 =>
 aPure H (fun K' => aLoadC false 1 t7 H (K' · H)) fun t8 =>
 aPure H (fun K' => aIdxA 3 t8 (.int .i64 0) (K' · H)) fun t9 =>
 aPure H (fun K' => aLoadC true 3 t9 H (K' · H)) fun t10 =>
 aPureX H (fun H K' => ACalls Tryz.prog n_zq50 [t5, t6, t10] H K') fun t11 =>
 aPure H (fun K' => aUn .not t11 (K' · H)) fun t12 =>
 aPure H (fun K' => K' t12 H) fun t4 =>
 K t4 H
theorem zq90_eq (t0 t1 t2 : AV) (H : Heap) (K : Kt) : awp Tryz.prog zq90_M zq90_c (retQ Tryz.prog zq90_r K) (t0 :: t1 :: t2 :: List.replicate 10 .unk) H = zq90 t0 t1 t2 H K := by kernel_rfl
theorem zq90_ok {t0 t1 t2 : AV} {H : Heap} {K : Kt} (h : HSc H → zq90 t0 t1 t2 H K) : ACalls Tryz.prog n_zq90 [t0, t1, t2] H K :=
 acalls_body (M := zq90_M) Tryz.func92 (c := zq90_c) (by kernel_rfl) (fun hs => (zq90_eq t0 t1 t2 H K).mpr (h hs))
def zq155_M : Nat → List Bool
 | 4 => rl false [1,2,12,3,14]
 | _ => []
noncomputable def zq155_c : Code := Tryz.f157.body.getD .skip
noncomputable def zq155_r : List ResultVar := Tryz.f157.results.toList
def zq155_fr4 (t1 t2 t15 t16 t17 : AV) : List AV := ux 1 (t1 :: t2 :: ux 12 (t15 :: t16 :: t17 :: ux 14 []))
def zq155_m4 : List Bool := zq155_M 4
noncomputable def zq155_c4 : Code := codeAt [1, 1, 0, 1, 0, 0] zq155_c
def zq155_Q4 (K : Kt) : AExit → List AV → Heap → Prop := contAt Tryz.prog zq155_M [1, 1, 0, 1, 0] zq155_c (retQ Tryz.prog zq155_r K)
def zq155_l4 (t1 t2 t15 t16 t17 : AV) (H : Heap) (K : Kt) : Prop := ALoop Tryz.prog zq155_c4 (zq155_Q4 K) (zq155_fr4 t1 t2 t15 t16 t17) H
def zq155_b4 (t1 t2 t15 t16 t17 : AV) (H : Heap) (K : Kt) (Kb4 : Lt) : Prop :=
 aBin .lss false t17 t16 fun t18 =>
 aTest t18
 (aIdxA 3 t15 t17 fun t20 =>
 aLoad true 3 t20 H fun t21 =>
 aNew [(.int .i64 0), (.int .i64 0), .snil] H fun t8 H =>
 aStore 3 t8 t21 H fun H =>
 aIdxA 3 t1 t17 fun t24 =>
 aLoad true 3 t24 H fun t25 =>
 aNew [(.int .i64 0), (.int .i64 0), .snil] H fun t9 H =>
 aStore 3 t9 t25 H fun H =>
 aLoad true 3 t8 H fun t27 =>
 aLoad true 3 t9 H fun t28 =>
 aCallV Tryz.prog t2 [t27, t28] H fun t29 H =>
 aUn .not t29 fun t30 =>
 aTest t30
 (K (.bool false) H)
 (aBin .add false t17 (.int .i64 1) fun t31 =>
 Kb4 (zq155_fr4 t1 t2 t15 t16 t31) H))
 (K (.bool true) H)
def zq155 (t0 t1 t2 : AV) (H : Heap) (K : Kt) : Prop :=
 aLen 1 t0 fun t11 =>
 aLen 1 t1 fun t13 =>
 aBin .neq false t11 t13 fun t14 =>
 aTest t14
 (K (.bool false) H)
 (aLen 1 t0 fun t16 =>
 zq155_l4 t1 t2 t0 t16 (.int .i64 0) H K)
theorem zq155_b4_eq (t1 t2 t15 t16 t17 : AV) (H : Heap) (K : Kt) (Kb4 : Lt) : awp Tryz.prog zq155_M zq155_c4 (roundQ zq155_m4 Kb4 (zq155_Q4 K)) (zq155_fr4 t1 t2 t15 t16 t17) H = zq155_b4 t1 t2 t15 t16 t17 H K Kb4 := by kernel_rfl
theorem zq155_loop4 {t1 t2 t15 t16 t17 : AV} {H : Heap} {K : Kt} (Inv : Nat → AV → Heap → Prop) (n : Nat) (h0 : HSc H → Inv n t17 H)
   (round : ∀ n t17 H', Inv n t17 H' → HSc H' → H.length ≤ H'.length → (zq155_fr4 t1 t2 t15 t16 t17).all (AV.sc H'.length) = true → ∀ Kb4 : Lt, (∀ F'' H'', (∃ n', n' < n ∧ Back H.length (fun F2 H2 => ∃ t17, F2 = zq155_fr4 t1 t2 t15 t16 t17 ∧ Inv n' t17 H2) F'' H'') → Kb4 F'' H'') → zq155_b4 t1 t2 t15 t16 t17 H' K Kb4) : zq155_l4 t1 t2 t15 t16 t17 H K :=
 aloop (M := zq155_M) zq155_m4 (fun n F H => ∃ t17, F = zq155_fr4 t1 t2 t15 t16 t17 ∧ Inv n t17 H) n (fun hs _ => ⟨t17, rfl, h0 hs⟩) (fun n F H' ⟨t17, hF, hI⟩ h1 h2 h3 => by subst hF; rw [zq155_b4_eq]; exact round n t17 H' hI h1 h2 h3 _ (fun _ _ h => h))
theorem zq155_eq (t0 t1 t2 : AV) (H : Heap) (K : Kt) : awp Tryz.prog zq155_M zq155_c (retQ Tryz.prog zq155_r K) (t0 :: t1 :: t2 :: List.replicate 29 .unk) H = zq155 t0 t1 t2 H K := by kernel_rfl
theorem zq155_ok {t0 t1 t2 : AV} {H : Heap} {K : Kt} (h : HSc H → zq155 t0 t1 t2 H K) : ACalls Tryz.prog n_zq155 [t0, t1, t2] H K :=
 acalls_body (M := zq155_M) Tryz.func157 (c := zq155_c) (by kernel_rfl) (fun hs => (zq155_eq t0 t1 t2 H K).mpr (h hs))
end Go.Proofs.YtfpmdpldabopjaaGreatDoor
namespace Go.Proofs.YtfpmdpldabopjaaGreatDoor
open Go Go.Abs
set_option linter.unusedVariables false
set_option maxRecDepth 100000
def zq156_M (_ : Nat) : List Bool := []
noncomputable def zq156_c : Code := Tryz.f158.body.getD .skip
noncomputable def zq156_r : List ResultVar := Tryz.f158.results.toList
def zq156 (t0 t1 t2 : AV) (H : Heap) (K : Kt) : Prop :=
 aBox t0 H fun t3 H =>
 aBox t1 H fun t4 H =>
 aLoad false 1 t2 H fun t6 =>
 aLoad true 3 t3 H fun t7 =>
 aLoad true 3 t4 H fun t8 =>
 ACalls Tryz.prog n_zq50 [t6, t7, t8] H fun t9 H =>
 K t9 H
theorem zq156_eq (t0 t1 t2 : AV) (H : Heap) (K : Kt) : awp Tryz.prog zq156_M zq156_c (retQ Tryz.prog zq156_r K) (t0 :: t1 :: t2 :: List.replicate 7 .unk) H = zq156 t0 t1 t2 H K := by kernel_rfl
theorem zq156_ok {t0 t1 t2 : AV} {H : Heap} {K : Kt} (h : HSc H → zq156 t0 t1 t2 H K) : ACalls Tryz.prog n_zq156 [t0, t1, t2] H K :=
 acalls_body (M := zq156_M) Tryz.func158 (c := zq156_c) (by kernel_rfl) (fun hs => (zq156_eq t0 t1 t2 H K).mpr (h hs))
def zq54_M : Nat → List Bool
 | 21 => rl false [0,1,3,2,1,1,2,1,174]
 | _ => []
noncomputable def zq54_c : Code := Tryz.f56.body.getD .skip
noncomputable def zq54_r : List ResultVar := Tryz.f56.results.toList
def zq54_fr21 (t0 t4 t5 t7 t10 : AV) : List AV := t0 :: ux 3 (t4 :: t5 :: ux 1 (t7 :: ux 2 (t10 :: ux 174 [])))
def zq54_m21 : List Bool := zq54_M 21
noncomputable def zq54_c21 : Code := codeAt [1, 1, 0, 1, 0, 1, 1, 1, 1, 1, 1, 1, 1, 1, 1, 1, 0, 1, 0, 1, 0, 0] zq54_c
def zq54_Q21 (K : Kt) : AExit → List AV → Heap → Prop := contAt Tryz.prog zq54_M [1, 1, 0, 1, 0, 1, 1, 1, 1, 1, 1, 1, 1, 1, 1, 1, 0, 1, 0, 1, 0] zq54_c (retQ Tryz.prog zq54_r K)
def zq54_l21 (t0 t4 t5 t7 t10 : AV) (H : Heap) (K : Kt) : Prop := ALoop Tryz.prog zq54_c21 (zq54_Q21 K) (zq54_fr21 t0 t4 t5 t7 t10) H
def zq54_b21 (t0 t4 t5 t7 t10 : AV) (H : Heap) (K : Kt) (Kb21 : Lt) : Prop :=
 aBin .lss false t10 t7 fun t153 =>
 aTest t153
 (aPure H (fun K' => K' t0 H) fun t156 =>
 aPure H (fun K' => aFld 2 t4 (K' · H)) fun t157 =>
 aPure H (fun K' => aLoadC false 1 t157 H (K' · H)) fun t158 =>
 aPure H (fun K' => K' t10 H) fun t159 =>
 aPure H (fun K' => aIdxA 3 t158 t159 (K' · H)) fun t160 =>
 aPure H (fun K' => aLoadC true 3 t160 H (K' · H)) fun t161 =>
 aPure H (fun K' => aFld 2 t5 (K' · H)) fun t162 =>
 aPure H (fun K' => aLoadC false 1 t162 H (K' · H)) fun t163 =>
 aPure H (fun K' => aIdxA 3 t163 (.int .i64 0) (K' · H)) fun t164 =>
 aPure H (fun K' => aLoadC true 3 t164 H (K' · H)) fun t165 =>
 aPureX H (fun H K' => ACalls Tryz.prog n_zq54 [t156, t161, t165] H K') fun t166 =>
 aPure H (fun K' => aUn .not t166 (K' · H)) fun t167 =>
 aTest t167
 (K (.bool false) H)
 (aBin .add false t10 (.int .i64 1) fun t155 =>
 Kb21 (zq54_fr21 t0 t4 t5 t7 t155) H))
 (K (.bool true) H)
def zq54_j1 (t0 t4 t5 t7 t117 : AV) (H : Heap) (K : Kt) : Prop :=
 aTest t117
 (aFld 0 t5 fun t120 =>
 aLoad false 1 t120 H fun t121 =>
 aBin .eql false t121 (.int .i64 7) fun t122 =>
 aGuardJ t122 true H (fun K' => aFld 0 t4 (K' · H)) fun t124 H =>
 aGuardJ t122 true H (fun K' => aLoad false 1 t124 H (K' · H)) fun t125 H =>
 aGuardJ t122 true H (fun K' => aBin .neq false t125 (.int .i64 6) (K' · H)) fun t126 H =>
 aGuardJ t122 true H (fun K' => K' t126 H) fun t127 H =>
 aGuardJ t127 false H (fun K' => K' t7 H) fun t128 H =>
 aGuardJ t127 false H (fun K' => aBin .gtr false t128 (.int .i64 4096) (K' · H)) fun t129 H =>
 aGuardJ t122 true H (fun K' => aPick t127 (.bool true) t129 (K' · H)) fun t130 H =>
 aPick t122 t130 (.bool false) fun t131 =>
 aGuardJ t131 false H (fun K' => aFld 0 t5 (K' · H)) fun t133 H =>
 aGuardJ t131 false H (fun K' => aLoad false 1 t133 H (K' · H)) fun t134 H =>
 aGuardJ t131 false H (fun K' => aBin .eql false t134 (.int .i64 8) (K' · H)) fun t135 H =>
 aGuardJ t131 false H (fun K' => K' t135 H) fun t136 H =>
 aGuardJ t136 true H (fun K' => aFld 0 t4 (K' · H)) fun t137 H =>
 aGuardJ t136 true H (fun K' => aLoad false 1 t137 H (K' · H)) fun t138 H =>
 aGuardJ t136 true H (fun K' => aBin .neq false t138 (.int .i64 7) (K' · H)) fun t139 H =>
 aGuardJ t136 true H (fun K' => K' t139 H) fun t140 H =>
 aGuardJ t140 false H (fun K' => K' t7 H) fun t141 H =>
 aGuardJ t140 false H (fun K' => aBin .neq false t141 (.int .i64 1) (K' · H)) fun t142 H =>
 aGuardJ t136 true H (fun K' => aPick t140 (.bool true) t142 (K' · H)) fun t143 H =>
 aGuardJ t131 false H (fun K' => aPick t136 t143 (.bool false) (K' · H)) fun t144 H =>
 aPick t131 (.bool true) t144 fun t145 =>
 aGuardJ t145 false H (fun K' => aFld 1 t4 (K' · H)) fun t147 H =>
 aGuardJ t145 false H (fun K' => aLoad false 1 t147 H (K' · H)) fun t148 H =>
 aGuardJ t145 false H (fun K' => aBin .neq false t148 (.int .i64 0) (K' · H)) fun t149 H =>
 aPick t145 (.bool true) t149 fun t150 =>
 aTest t150
 (K (.bool false) H)
 (zq54_l21 t0 t4 t5 t7 (.int .i64 0) H K))
 (aFld 0 t4 fun t168 =>
 aLoad false 1 t168 H fun t169 =>
 aBin .eql false t169 (.int .i64 8) fun t170 =>
 aGuardJ t170 true H (fun K' => aFld 1 t4 (K' · H)) fun t172 H =>
 aGuardJ t170 true H (fun K' => aLoad false 1 t172 H (K' · H)) fun t173 H =>
 aGuardJ t170 true H (fun K' => aBin .geq false t173 (.int .i64 0) (K' · H)) fun t174 H =>
 aPick t170 t174 (.bool false) fun t175 =>
 aGuardJ t175 true H (fun K' => aFld 1 t4 (K' · H)) fun t177 H =>
 aGuardJ t175 true H (fun K' => aLoad false 1 t177 H (K' · H)) fun t178 H =>
 aGuardJ t175 true H (fun K' => aBin .lss false t178 (.int .i64 64) (K' · H)) fun t179 H =>
 aPick t175 t179 (.bool false) fun t180 =>
 aGuardJ t180 true H (fun K' => K' t7 H) fun t182 H =>
 aGuardJ t180 true H (fun K' => aBin .eql false t182 (.int .i64 0) (K' · H)) fun t183 H =>
 aPick t180 t183 (.bool false) fun t184 =>
 K t184 H)
def zq54 (t0 t1 t2 : AV) (H : Heap) (K : Kt) : Prop :=
 aBox t1 H fun t4 H =>
 aBox t2 H fun t5 H =>
 aFld 2 t4 fun t11 =>
 aLoad false 1 t11 H fun t12 =>
 aLen 1 t12 fun t13 =>
 aFld 0 t5 fun t14 =>
 aLoad false 1 t14 H fun t15 =>
 aBin .eql false t15 (.int .i64 3) fun t17 =>
 aTest t17
 (aFld 0 t4 fun t18 =>
 aLoad false 1 t18 H fun t19 =>
 aBin .eql false t19 (.int .i64 1) fun t20 =>
 aGuardJ t20 true H (fun K' => aFld 1 t4 (K' · H)) fun t22 H =>
 aGuardJ t20 true H (fun K' => aLoad false 1 t22 H (K' · H)) fun t23 H =>
 aGuardJ t20 true H (fun K' => aBin .eql false t23 (.int .i64 0) (K' · H)) fun t24 H =>
 aPick t20 t24 (.bool false) fun t25 =>
 aGuardJ t25 true H (fun K' => K' t13 H) fun t27 H =>
 aGuardJ t25 true H (fun K' => aBin .eql false t27 (.int .i64 0) (K' · H)) fun t28 H =>
 aPick t25 t28 (.bool false) fun t29 =>
 K t29 H)
 (aBin .eql false t15 (.int .i64 2) fun t31 =>
 aTest t31
 (aFld 0 t4 fun t32 =>
 aLoad false 1 t32 H fun t33 =>
 aBin .eql false t33 (.int .i64 2) fun t34 =>
 aGuardJ t34 true H (fun K' => aFld 1 t4 (K' · H)) fun t36 H =>
 aGuardJ t34 true H (fun K' => aLoad false 1 t36 H (K' · H)) fun t37 H =>
 aGuardJ t34 true H (fun K' => aBin .eql false t37 (.int .i64 0) (K' · H)) fun t38 H =>
 aGuardJ t34 true H (fun K' => K' t38 H) fun t39 H =>
 aGuardJ t39 false H (fun K' => aFld 1 t4 (K' · H)) fun t40 H =>
 aGuardJ t39 false H (fun K' => aLoad false 1 t40 H (K' · H)) fun t41 H =>
 aGuardJ t39 false H (fun K' => aBin .eql false t41 (.int .i64 1) (K' · H)) fun t42 H =>
 aGuardJ t34 true H (fun K' => aPick t39 (.bool true) t42 (K' · H)) fun t43 H =>
 aPick t34 t43 (.bool false) fun t44 =>
 aGuardJ t44 true H (fun K' => K' t13 H) fun t46 H =>
 aGuardJ t44 true H (fun K' => aBin .eql false t46 (.int .i64 0) (K' · H)) fun t47 H =>
 aPick t44 t47 (.bool false) fun t48 =>
 K t48 H)
 (aBin .eql false t15 (.int .i64 1) fun t50 =>
 aTest t50
 (aFld 0 t4 fun t51 =>
 aLoad false 1 t51 H fun t52 =>
 aBin .eql false t52 (.int .i64 3) fun t53 =>
 aGuardJ t53 true H (fun K' => aFld 1 t4 (K' · H)) fun t55 H =>
 aGuardJ t53 true H (fun K' => aLoad false 1 t55 H (K' · H)) fun t56 H =>
 aGuardJ t53 true H (fun K' => aBin .geq false t56 (.int .i64 (-1099511627776)) (K' · H)) fun t57 H =>
 aPick t53 t57 (.bool false) fun t58 =>
 aGuardJ t58 true H (fun K' => aFld 1 t4 (K' · H)) fun t60 H =>
 aGuardJ t58 true H (fun K' => aLoad false 1 t60 H (K' · H)) fun t61 H =>
 aGuardJ t58 true H (fun K' => aBin .leq false t61 (.int .i64 1099511627776) (K' · H)) fun t62 H =>
 aPick t58 t62 (.bool false) fun t63 =>
 aGuardJ t63 true H (fun K' => K' t13 H) fun t65 H =>
 aGuardJ t63 true H (fun K' => aBin .eql false t65 (.int .i64 0) (K' · H)) fun t66 H =>
 aPick t63 t66 (.bool false) fun t67 =>
 K t67 H)
 (aBin .eql false t15 (.int .i64 6) fun t69 =>
 aTest t69
 (aFld 0 t4 fun t70 =>
 aLoad false 1 t70 H fun t71 =>
 aBin .eql false t71 (.int .i64 4) fun t72 =>
 aGuardJ t72 true H (fun K' => aFld 1 t4 (K' · H)) fun t74 H =>
 aGuardJ t72 true H (fun K' => aLoad false 1 t74 H (K' · H)) fun t75 H =>
 aGuardJ t72 true H (fun K' => aBin .eql false t75 (.int .i64 0) (K' · H)) fun t76 H =>
 aPick t72 t76 (.bool false) fun t77 =>
 aGuardJ t77 true H (fun K' => K' t0 H) fun t79 H =>
 aGuardJ t77 true H (fun K' => aFld 2 t4 (K' · H)) fun t80 H =>
 aGuardJ t77 true H (fun K' => aLoad false 1 t80 H (K' · H)) fun t81 H =>
 aGuardJ t77 true H (fun K' => aFld 2 t5 (K' · H)) fun t82 H =>
 aGuardJ t77 true H (fun K' => aLoad false 1 t82 H (K' · H)) fun t83 H =>
 aGuardJ t77 true H (fun K' => ACalls Tryz.prog n_zq95 [t79, t81, t83] H K') fun t84 H =>
 aPick t77 t84 (.bool false) fun t85 =>
 K t85 H)
 (aBin .eql false t15 (.int .i64 5) fun t87 =>
 aTest t87
 (aFld 0 t4 fun t88 =>
 aLoad false 1 t88 H fun t89 =>
 aBin .neq false t89 (.int .i64 5) fun t90 =>
 aGuardJ t90 false H (fun K' => aFld 1 t4 (K' · H)) fun t92 H =>
 aGuardJ t90 false H (fun K' => aLoad false 1 t92 H (K' · H)) fun t93 H =>
 aGuardJ t90 false H (fun K' => aBin .lss false t93 (.int .i64 0) (K' · H)) fun t94 H =>
 aPick t90 (.bool true) t94 fun t95 =>
 aGuardJ t95 false H (fun K' => aFld 1 t4 (K' · H)) fun t97 H =>
 aGuardJ t95 false H (fun K' => aLoad false 1 t97 H (K' · H)) fun t98 H =>
 aGuardJ t95 false H (fun K' => aBin .geq false t98 (.int .i64 8) (K' · H)) fun t99 H =>
 aPick t95 (.bool true) t99 fun t100 =>
 aTest t100
 (K (.bool false) H)
 (aLoad true 3 t5 H fun t103 =>
 aFld 1 t4 fun t104 =>
 aLoad false 1 t104 H fun t105 =>
 ACalls Tryz.prog n_zq96 [t0, t103, t105] H fun t106 H =>
 aExt t106 0 fun t107 =>
 aExt t106 1 fun t108 =>
 aGuardJ t108 true H (fun K' => K' t0 H) fun t111 H =>
 aGuardJ t108 true H (fun K' => aFld 2 t4 (K' · H)) fun t112 H =>
 aGuardJ t108 true H (fun K' => aLoad false 1 t112 H (K' · H)) fun t113 H =>
 aGuardJ t108 true H (fun K' => K' t107 H) fun t114 H =>
 aGuardJ t108 true H (fun K' => ACalls Tryz.prog n_zq95 [t111, t113, t114] H K') fun t115 H =>
 aPick t108 t115 (.bool false) fun t116 =>
 K t116 H))
 (aBin .eql false t15 (.int .i64 7) fun t118 =>
 aTest t118
 (zq54_j1 t0 t4 t5 t13 t118 H K)
 (aBin .eql false t15 (.int .i64 8) fun t119 =>
 zq54_j1 t0 t4 t5 t13 t119 H K))))))
theorem zq54_b21_eq (t0 t4 t5 t7 t10 : AV) (H : Heap) (K : Kt) (Kb21 : Lt) : awp Tryz.prog zq54_M zq54_c21 (roundQ zq54_m21 Kb21 (zq54_Q21 K)) (zq54_fr21 t0 t4 t5 t7 t10) H = zq54_b21 t0 t4 t5 t7 t10 H K Kb21 := by kernel_rfl
theorem zq54_loop21 {t0 t4 t5 t7 t10 : AV} {H : Heap} {K : Kt} (Inv : Nat → AV → Heap → Prop) (n : Nat) (h0 : HSc H → Inv n t10 H)
   (round : ∀ n t10 H', Inv n t10 H' → HSc H' → H.length ≤ H'.length → (zq54_fr21 t0 t4 t5 t7 t10).all (AV.sc H'.length) = true → ∀ Kb21 : Lt, (∀ F'' H'', (∃ n', n' < n ∧ Back H.length (fun F2 H2 => ∃ t10, F2 = zq54_fr21 t0 t4 t5 t7 t10 ∧ Inv n' t10 H2) F'' H'') → Kb21 F'' H'') → zq54_b21 t0 t4 t5 t7 t10 H' K Kb21) : zq54_l21 t0 t4 t5 t7 t10 H K :=
 aloop (M := zq54_M) zq54_m21 (fun n F H => ∃ t10, F = zq54_fr21 t0 t4 t5 t7 t10 ∧ Inv n t10 H) n (fun hs _ => ⟨t10, rfl, h0 hs⟩) (fun n F H' ⟨t10, hF, hI⟩ h1 h2 h3 => by subst hF; rw [zq54_b21_eq]; exact round n t10 H' hI h1 h2 h3 _ (fun _ _ h => h))
theorem zq54_eq (t0 t1 t2 : AV) (H : Heap) (K : Kt) : awp Tryz.prog zq54_M zq54_c (retQ Tryz.prog zq54_r K) (t0 :: t1 :: t2 :: List.replicate 182 .unk) H = zq54 t0 t1 t2 H K := by kernel_rfl
theorem zq54_ok {t0 t1 t2 : AV} {H : Heap} {K : Kt} (h : HSc H → zq54 t0 t1 t2 H K) : ACalls Tryz.prog n_zq54 [t0, t1, t2] H K :=
 acalls_body (M := zq54_M) Tryz.func56 (c := zq54_c) (by kernel_rfl) (fun hs => (zq54_eq t0 t1 t2 H K).mpr (h hs))
def zq95_M : Nat → List Bool
 | 4 => rl false [0,3,4,1,22]
 | _ => []
noncomputable def zq95_c : Code := Tryz.f97.body.getD .skip
noncomputable def zq95_r : List ResultVar := Tryz.f97.results.toList
def zq95_fr4 (t0 t1 t2 t7 : AV) : List AV := t0 :: t1 :: t2 :: ux 4 (t7 :: ux 22 [])
def zq95_m4 : List Bool := zq95_M 4
noncomputable def zq95_c4 : Code := codeAt [1, 1, 0, 1, 0, 0] zq95_c
def zq95_Q4 (K : Kt) : AExit → List AV → Heap → Prop := contAt Tryz.prog zq95_M [1, 1, 0, 1, 0] zq95_c (retQ Tryz.prog zq95_r K)
def zq95_l4 (t0 t1 t2 t7 : AV) (H : Heap) (K : Kt) : Prop := ALoop Tryz.prog zq95_c4 (zq95_Q4 K) (zq95_fr4 t0 t1 t2 t7) H
def zq95_b4 (t0 t1 t2 t7 : AV) (H : Heap) (K : Kt) (Kb4 : Lt) : Prop :=
 aLen 1 t1 fun t15 =>
 aBin .lss false t7 t15 fun t16 =>
 aTest t16
 (aPure H (fun K' => K' t0 H) fun t19 =>
 aPure H (fun K' => K' t1 H) fun t20 =>
 aPure H (fun K' => K' t7 H) fun t21 =>
 aPure H (fun K' => aIdxA 3 t20 t21 (K' · H)) fun t22 =>
 aPure H (fun K' => aLoadC true 3 t22 H (K' · H)) fun t23 =>
 aPure H (fun K' => K' t2 H) fun t24 =>
 aPure H (fun K' => K' t7 H) fun t25 =>
 aPure H (fun K' => aIdxA 3 t24 t25 (K' · H)) fun t26 =>
 aPure H (fun K' => aLoadC true 3 t26 H (K' · H)) fun t27 =>
 aPureX H (fun H K' => ACalls Tryz.prog n_zq54 [t19, t23, t27] H K') fun t28 =>
 aPure H (fun K' => aUn .not t28 (K' · H)) fun t29 =>
 aTest t29
 (K (.bool false) H)
 (aBin .add false t7 (.int .i64 1) fun t18 =>
 Kb4 (zq95_fr4 t0 t1 t2 t18) H))
 (K (.bool true) H)
def zq95 (t0 t1 t2 : AV) (H : Heap) (K : Kt) : Prop :=
 aLen 1 t1 fun t9 =>
 aLen 1 t2 fun t11 =>
 aBin .neq false t9 t11 fun t12 =>
 aTest t12
 (K (.bool false) H)
 (zq95_l4 t0 t1 t2 (.int .i64 0) H K)
theorem zq95_b4_eq (t0 t1 t2 t7 : AV) (H : Heap) (K : Kt) (Kb4 : Lt) : awp Tryz.prog zq95_M zq95_c4 (roundQ zq95_m4 Kb4 (zq95_Q4 K)) (zq95_fr4 t0 t1 t2 t7) H = zq95_b4 t0 t1 t2 t7 H K Kb4 := by kernel_rfl
theorem zq95_loop4 {t0 t1 t2 t7 : AV} {H : Heap} {K : Kt} (Inv : Nat → AV → Heap → Prop) (n : Nat) (h0 : HSc H → Inv n t7 H)
   (round : ∀ n t7 H', Inv n t7 H' → HSc H' → H.length ≤ H'.length → (zq95_fr4 t0 t1 t2 t7).all (AV.sc H'.length) = true → ∀ Kb4 : Lt, (∀ F'' H'', (∃ n', n' < n ∧ Back H.length (fun F2 H2 => ∃ t7, F2 = zq95_fr4 t0 t1 t2 t7 ∧ Inv n' t7 H2) F'' H'') → Kb4 F'' H'') → zq95_b4 t0 t1 t2 t7 H' K Kb4) : zq95_l4 t0 t1 t2 t7 H K :=
 aloop (M := zq95_M) zq95_m4 (fun n F H => ∃ t7, F = zq95_fr4 t0 t1 t2 t7 ∧ Inv n t7 H) n (fun hs _ => ⟨t7, rfl, h0 hs⟩) (fun n F H' ⟨t7, hF, hI⟩ h1 h2 h3 => by subst hF; rw [zq95_b4_eq]; exact round n t7 H' hI h1 h2 h3 _ (fun _ _ h => h))
theorem zq95_eq (t0 t1 t2 : AV) (H : Heap) (K : Kt) : awp Tryz.prog zq95_M zq95_c (retQ Tryz.prog zq95_r K) (t0 :: t1 :: t2 :: List.replicate 27 .unk) H = zq95 t0 t1 t2 H K := by kernel_rfl
theorem zq95_ok {t0 t1 t2 : AV} {H : Heap} {K : Kt} (h : HSc H → zq95 t0 t1 t2 H K) : ACalls Tryz.prog n_zq95 [t0, t1, t2] H K :=
 acalls_body (M := zq95_M) Tryz.func97 (c := zq95_c) (by kernel_rfl) (fun hs => (zq95_eq t0 t1 t2 H K).mpr (h hs))
end Go.Proofs.YtfpmdpldabopjaaGreatDoor
