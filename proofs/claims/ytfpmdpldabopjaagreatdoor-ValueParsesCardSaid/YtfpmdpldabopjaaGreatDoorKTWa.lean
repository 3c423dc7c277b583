import Derived.Test.YtfpmdpldabopjaaGreatDoorKNum
import Derived.Test.YtfpmdpldabopjaaGreatDoorProg
import Derived.KernelRfl
import Derived.Test.YtfpmdpldabopjaaGreatDoorA3
set_option linter.unusedSimpArgs false
set_option linter.unusedVariables false
namespace Go.Proofs.YtfpmdpldabopjaaGreatDoor
open Go Go.Abs
set_option maxRecDepth 100000
def zq221_M : Nat → List Bool
 | 5 => rl false [0,1,4,2,54]
 | 9 => rl false [0,1,4,2,54]
 | _ => []
noncomputable def zq221_c : Code := Tryz.f224.body.getD .skip
noncomputable def zq221_r : List ResultVar := Tryz.f224.results.toList
def zq221_fr5 (t0 t5 t6 : AV) : List AV := t0 :: ux 4 (t5 :: t6 :: ux 54 [])
def zq221_m5 : List Bool := zq221_M 5
noncomputable def zq221_c5 : Code := codeAt [1, 0, 1, 1, 1, 1, 0, 0, 0] zq221_c
def zq221_Q5 (K : Kt) : AExit → List AV → Heap → Prop := contAt Tryz.prog zq221_M [1, 0, 1, 1, 1, 1, 0, 0] zq221_c (retQ Tryz.prog zq221_r K)
def zq221_l5 (t0 t5 t6 : AV) (H : Heap) (K : Kt) : Prop := ALoop Tryz.prog zq221_c5 (zq221_Q5 K) (zq221_fr5 t0 t5 t6) H
def zq221_j1 (t0 t5 t6 : AV) (H : Heap) (K : Kt) (Kb5 : Lt) : Prop :=
 Kb5 (zq221_fr5 t0 t5 t6) H
def zq221_fr9 (t0 t5 t6 : AV) : List AV := t0 :: ux 4 (t5 :: t6 :: ux 54 [])
def zq221_m9 : List Bool := zq221_M 9
noncomputable def zq221_c9 : Code := codeAt [1, 0, 1, 0, 1, 0, 0, 0, 0] zq221_c5
def zq221_Q9 (K : Kt) (Kb5 : Lt) : AExit → List AV → Heap → Prop := contAt Tryz.prog zq221_M [1, 0, 1, 0, 1, 0, 0, 0] zq221_c5 (roundQ zq221_m5 Kb5 (zq221_Q5 K))
def zq221_l9 (t0 t5 t6 : AV) (H : Heap) (K : Kt) (Kb5 : Lt) : Prop := ALoop Tryz.prog zq221_c9 (zq221_Q9 K Kb5) (zq221_fr9 t0 t5 t6) H
def zq221_j3 (t0 t5 : AV) (H : Heap) (K : Kt) : Prop :=
 aLen 0 t0 fun t57 =>
 aBuild [(.int .i64 0), (.str []), (.int .i64 0)] [(0, 1), (1, 1), (2, 1)] [(0, (.int .i64 6)), (2, t57)] fun t58 =>
 aBuildS 3 [(.int .i64 0), (.str []), (.int .i64 0)] 1 [(0, t58)] fun t59 =>
 aAppend e_token_Token 3 32 t5 t59 H fun t60 H =>
 aRet [t60, (.int .i64 0), (.int .i64 0)] (K · H)
def zq221_j2 (t0 t5 : AV) (H : Heap) (K : Kt) : Prop :=
 zq221_j3 t0 t5 H K
def zq221_b9 (t0 t5 t6 : AV) (H : Heap) (K : Kt) (Kb5 : Lt) (Kb9 : Lt) : Prop :=
 aLen 0 t0 fun t28 =>
 aBin .lss false t6 t28 fun t29 =>
 aTest t29
 (aIdxS t0 t6 fun t34 =>
 aBin .eql false t34 (.int .u8 10) fun t35 =>
 aTest t35
 (zq221_j1 t0 t5 t6 H K Kb5)
 (aBin .add false t6 (.int .i64 1) fun t31 =>
 Kb9 (zq221_fr9 t0 t5 t31) H))
 (zq221_j2 t0 t5 H K)
def zq221_b5 (t0 t5 t6 : AV) (H : Heap) (K : Kt) (Kb5 : Lt) : Prop :=
 aLen 0 t0 fun t14 =>
 aBin .lss false t6 t14 fun t15 =>
 aTest t15
 (aIdxS t0 t6 fun t18 =>
 ACalls Tryz.prog n_zq245 [t18] H fun t19 H =>
 aTest t19
 (aBin .add false t6 (.int .i64 1) fun t21 =>
 zq221_j1 t0 t5 t21 H K Kb5)
 (aIdxS t0 t6 fun t24 =>
 aBin .eql false t24 (.int .u8 35) fun t25 =>
 aTest t25
 (zq221_l9 t0 t5 t6 H K Kb5)
 (ACalls Tryz.prog n_zq246 [t0, t6] H fun t39 H =>
 aExt t39 0 fun t40 =>
 aExt t39 1 fun t41 =>
 aNew [(.int .i64 0), (.str []), (.int .i64 0)] H fun t7 H =>
 aStore 3 t7 t40 H fun H =>
 aBin .neq false t41 (.int .i64 0) fun t43 =>
 aTest t43
 (aRet [.snil, t6, t41] (K · H))
 (aLoad true 3 t7 H fun t47 =>
 aBuildS 3 [(.int .i64 0), (.str []), (.int .i64 0)] 1 [(0, t47)] fun t48 =>
 aAppend e_token_Token 3 32 t5 t48 H fun t49 H =>
 aFld 1 t7 fun t51 =>
 aLoad false 1 t51 H fun t52 =>
 aLen 0 t52 fun t53 =>
 aBin .add false t6 t53 fun t54 =>
 zq221_j1 t0 t49 t54 H K Kb5))))
 (zq221_j2 t0 t5 H K)
def zq221 (t0 : AV) (H : Heap) (K : Kt) : Prop :=
 aLen 0 t0 fun t10 =>
 aBin .gtr false t10 (.int .i64 16384) fun t11 =>
 aTest t11
 (aRet [.snil, (.int .i64 0), (.int .i64 9)] (K · H))
 (zq221_l5 t0 .snil (.int .i64 0) H K)
theorem zq221_b9_eq (t0 t5 t6 : AV) (H : Heap) (K : Kt) (Kb5 : Lt) (Kb9 : Lt) : awp Tryz.prog zq221_M zq221_c9 (roundQ zq221_m9 Kb9 (zq221_Q9 K Kb5)) (zq221_fr9 t0 t5 t6) H = zq221_b9 t0 t5 t6 H K Kb5 Kb9 := by kernel_rfl
theorem zq221_loop9 {t0 t5 t6 : AV} {H : Heap} {K : Kt} {Kb5 : Lt} (Inv : Nat → AV → Heap → Prop) (n : Nat) (h0 : HSc H → Inv n t6 H)
  (round : ∀ n t6 H', Inv n t6 H' → HSc H' → H.length ≤ H'.length → (zq221_fr9 t0 t5 t6).all (AV.sc H'.length) = true → ∀ Kb9 : Lt, (∀ F'' H'', (∃ n', n' < n ∧ Back H.length (fun F2 H2 => ∃ t6, F2 = zq221_fr9 t0 t5 t6 ∧ Inv n' t6 H2) F'' H'') → Kb9 F'' H'') → zq221_b9 t0 t5 t6 H' K Kb5 Kb9) : zq221_l9 t0 t5 t6 H K Kb5 :=
 aloop (M := zq221_M) zq221_m9 (fun n F H => ∃ t6, F = zq221_fr9 t0 t5 t6 ∧ Inv n t6 H) n (fun hs _ => ⟨t6, rfl, h0 hs⟩) (fun n F H' ⟨t6, hF, hI⟩ h1 h2 h3 => by subst hF; rw [zq221_b9_eq]; exact round n t6 H' hI h1 h2 h3 _ (fun _ _ h => h))
theorem zq221_b5_eq (t0 t5 t6 : AV) (H : Heap) (K : Kt) (Kb5 : Lt) : awp Tryz.prog zq221_M zq221_c5 (roundQ zq221_m5 Kb5 (zq221_Q5 K)) (zq221_fr5 t0 t5 t6) H = zq221_b5 t0 t5 t6 H K Kb5 := by kernel_rfl
theorem zq221_loop5 {t0 t5 t6 : AV} {H : Heap} {K : Kt} (Inv : Nat → AV → AV → Heap → Prop) (n : Nat) (h0 : HSc H → Inv n t5 t6 H)
  (round : ∀ n t5 t6 H', Inv n t5 t6 H' → HSc H' → H.length ≤ H'.length → (zq221_fr5 t0 t5 t6).all (AV.sc H'.length) = true → ∀ Kb5 : Lt, (∀ F'' H'', (∃ n', n' < n ∧ Back H.length (fun F2 H2 => ∃ t5 t6, F2 = zq221_fr5 t0 t5 t6 ∧ Inv n' t5 t6 H2) F'' H'') → Kb5 F'' H'') → zq221_b5 t0 t5 t6 H' K Kb5) : zq221_l5 t0 t5 t6 H K :=
 aloop (M := zq221_M) zq221_m5 (fun n F H => ∃ t5 t6, F = zq221_fr5 t0 t5 t6 ∧ Inv n t5 t6 H) n (fun hs _ => ⟨t5, t6, rfl, h0 hs⟩) (fun n F H' ⟨t5, t6, hF, hI⟩ h1 h2 h3 => by subst hF; rw [zq221_b5_eq]; exact round n t5 t6 H' hI h1 h2 h3 _ (fun _ _ h => h))
theorem zq221_eq (t0 : AV) (H : Heap) (K : Kt) : awp Tryz.prog zq221_M zq221_c (retQ Tryz.prog zq221_r K) (t0 :: List.replicate 60 .unk) H = zq221 t0 H K := by kernel_rfl
theorem zq221_ok {t0 : AV} {H : Heap} {K : Kt} (h : HSc H → zq221 t0 H K) : ACalls Tryz.prog n_zq221 [t0] H K :=
 acalls_body (M := zq221_M) Tryz.func224 (c := zq221_c) (by kernel_rfl) (fun hs => (zq221_eq t0 H K).mpr (h hs))
def zq160_M : Nat → List Bool
 | 5 => rl false [0,1,4,2,193]
 | 10 => rl false [0,1,4,2,193]
 | 18 => rl false [0,1,4,4,191]
 | 29 => rl false [0,1,4,4,191]
 | _ => []
noncomputable def zq160_c : Code := Tryz.f162.body.getD .skip
noncomputable def zq160_r : List ResultVar := Tryz.f162.results.toList
def zq160_fr5 (t0 t5 t6 : AV) : List AV := t0 :: ux 4 (t5 :: t6 :: ux 193 [])
def zq160_m5 : List Bool := zq160_M 5
noncomputable def zq160_c5 : Code := codeAt [1, 1, 1, 0, 1, 0, 0] zq160_c
def zq160_Q5 (K : Kt) : AExit → List AV → Heap → Prop := contAt Tryz.prog zq160_M [1, 1, 1, 0, 1, 0] zq160_c (retQ Tryz.prog zq160_r K)
def zq160_l5 (t0 t5 t6 : AV) (H : Heap) (K : Kt) : Prop := ALoop Tryz.prog zq160_c5 (zq160_Q5 K) (zq160_fr5 t0 t5 t6) H
def zq160_j1 (t0 t5 t6 : AV) (H : Heap) (K : Kt) (Kb5 : Lt) : Prop :=
 Kb5 (zq160_fr5 t0 t5 t6) H
def zq160_fr10 (t0 t5 t6 : AV) : List AV := t0 :: ux 4 (t5 :: t6 :: ux 193 [])
def zq160_m10 : List Bool := zq160_M 10
noncomputable def zq160_c10 : Code := codeAt [1, 0, 1, 1, 0, 1, 0, 0, 0, 0] zq160_c5
def zq160_Q10 (K : Kt) (Kb5 : Lt) : AExit → List AV → Heap → Prop := contAt Tryz.prog zq160_M [1, 0, 1, 1, 0, 1, 0, 0, 0] zq160_c5 (roundQ zq160_m5 Kb5 (zq160_Q5 K))
def zq160_l10 (t0 t5 t6 : AV) (H : Heap) (K : Kt) (Kb5 : Lt) : Prop := ALoop Tryz.prog zq160_c10 (zq160_Q10 K Kb5) (zq160_fr10 t0 t5 t6) H
def zq160_b10 (t0 t5 t6 : AV) (H : Heap) (K : Kt) (Kb5 : Lt) (Kb10 : Lt) : Prop :=
 aLen 0 t0 fun t42 =>
 aBin .lss false t6 t42 fun t43 =>
 aGuardJ t43 true H (fun K' => K' t0 H) fun t45 H =>
 aGuardJ t43 true H (fun K' => K' t6 H) fun t46 H =>
 aGuardJ t43 true H (fun K' => aIdxS t45 t46 (K' · H)) fun t47 H =>
 aGuardJ t43 true H (fun K' => aBin .neq false t47 (.int .u8 10) (K' · H)) fun t48 H =>
 aPick t43 t48 (.bool false) fun t49 =>
 aTest t49
 (aBin .add false t6 (.int .i64 1) fun t51 =>
 Kb10 (zq160_fr10 t0 t5 t51) H)
 (zq160_j1 t0 t5 t6 H K Kb5)
def zq160_fr18 (t0 t5 t6 t7 t8 : AV) : List AV := t0 :: ux 4 (t5 :: t6 :: t7 :: t8 :: ux 191 [])
def zq160_m18 : List Bool := zq160_M 18
noncomputable def zq160_c18 : Code := codeAt [1, 0, 1, 1, 1, 1, 0, 0, 1, 0, 0, 0, 0] zq160_c5
def zq160_Q18 (K : Kt) (Kb5 : Lt) : AExit → List AV → Heap → Prop := contAt Tryz.prog zq160_M [1, 0, 1, 1, 1, 1, 0, 0, 1, 0, 0, 0] zq160_c5 (roundQ zq160_m5 Kb5 (zq160_Q5 K))
def zq160_l18 (t0 t5 t6 t7 t8 : AV) (H : Heap) (K : Kt) (Kb5 : Lt) : Prop := ALoop Tryz.prog zq160_c18 (zq160_Q18 K Kb5) (zq160_fr18 t0 t5 t6 t7 t8) H
def zq160_j4 (t0 t5 t6 t8 : AV) (H : Heap) (K : Kt) (Kb5 : Lt) : Prop :=
 aBin .add false t6 t8 fun t193 =>
 zq160_j1 t0 t5 t193 H K Kb5
def zq160_j3 (t0 t5 t6 t8 : AV) (H : Heap) (K : Kt) (Kb5 : Lt) : Prop :=
 zq160_j4 t0 t5 t6 t8 H K Kb5
def zq160_j2 (t0 t5 t6 t8 t9 : AV) (H : Heap) (K : Kt) (Kb5 : Lt) : Prop :=
 aBin .add false t6 t8 fun t135 =>
 aSlice 0 0 t0 (some t6) (some t135) fun t136 =>
 aBuild [(.int .i64 0), (.str []), (.int .i64 0)] [(0, 1), (1, 1), (2, 1)] [(0, t9), (1, t136), (2, t6)] fun t138 =>
 aBuildS 3 [(.int .i64 0), (.str []), (.int .i64 0)] 1 [(0, t138)] fun t139 =>
 aAppend e_ref3_Token 3 32 t5 t139 H fun t140 H =>
 zq160_j3 t0 t140 t6 t8 H K Kb5
def zq160_b18 (t0 t5 t6 t7 t8 : AV) (H : Heap) (K : Kt) (Kb5 : Lt) (Kb18 : Lt) : Prop :=
 aBin .add false t6 t8 fun t79 =>
 aLen 0 t0 fun t81 =>
 aBin .lss false t79 t81 fun t82 =>
 aGuardJ t82 true H (fun K' => K' t0 H) fun t84 H =>
 aGuardJ t82 true H (fun K' => K' t6 H) fun t85 H =>
 aGuardJ t82 true H (fun K' => K' t8 H) fun t86 H =>
 aGuardJ t82 true H (fun K' => aBin .add false t85 t86 (K' · H)) fun t87 H =>
 aGuardJ t82 true H (fun K' => aIdxS t84 t87 (K' · H)) fun t88 H =>
 aGuardJ t82 true H (fun K' => ACalls Tryz.prog n_zq197 [t88] H K') fun t89 H =>
 aGuardJ t82 true H (fun K' => K' t89 H) fun t90 H =>
 aGuardJ t90 false H (fun K' => K' t0 H) fun t91 H =>
 aGuardJ t90 false H (fun K' => K' t6 H) fun t92 H =>
 aGuardJ t90 false H (fun K' => K' t8 H) fun t93 H =>
 aGuardJ t90 false H (fun K' => aBin .add false t92 t93 (K' · H)) fun t94 H =>
 aGuardJ t90 false H (fun K' => aIdxS t91 t94 (K' · H)) fun t95 H =>
 aGuardJ t90 false H (fun K' => ACalls Tryz.prog n_zq198 [t95] H K') fun t96 H =>
 aGuardJ t82 true H (fun K' => aPick t90 (.bool true) t96 (K' · H)) fun t97 H =>
 aGuardJ t82 true H (fun K' => K' t97 H) fun t98 H =>
 aGuardJ t98 false H (fun K' => K' t0 H) fun t99 H =>
 aGuardJ t98 false H (fun K' => K' t6 H) fun t100 H =>
 aGuardJ t98 false H (fun K' => K' t8 H) fun t101 H =>
 aGuardJ t98 false H (fun K' => aBin .add false t100 t101 (K' · H)) fun t102 H =>
 aGuardJ t98 false H (fun K' => aIdxS t99 t102 (K' · H)) fun t103 H =>
 aGuardJ t98 false H (fun K' => ACalls Tryz.prog n_zq199 [t103] H K') fun t104 H =>
 aGuardJ t82 true H (fun K' => aPick t98 (.bool true) t104 (K' · H)) fun t105 H =>
 aGuardJ t82 true H (fun K' => K' t105 H) fun t106 H =>
 aGuardJ t106 false H (fun K' => K' t0 H) fun t107 H =>
 aGuardJ t106 false H (fun K' => K' t6 H) fun t108 H =>
 aGuardJ t106 false H (fun K' => K' t8 H) fun t109 H =>
 aGuardJ t106 false H (fun K' => aBin .add false t108 t109 (K' · H)) fun t110 H =>
 aGuardJ t106 false H (fun K' => aIdxS t107 t110 (K' · H)) fun t111 H =>
 aGuardJ t106 false H (fun K' => aBin .eql false t111 (.int .u8 95) (K' · H)) fun t112 H =>
 aGuardJ t82 true H (fun K' => aPick t106 (.bool true) t112 (K' · H)) fun t113 H =>
 aPick t82 t113 (.bool false) fun t114 =>
 aTest t114
 (aBin .add false t8 (.int .i64 1) fun t116 =>
 Kb18 (zq160_fr18 t0 t5 t6 t7 t116) H)
 (aBin .gtr false t8 (.int .i64 24) fun t118 =>
 aTest t118
 (aRet [.snil, t6, (.int .i64 9)] (K · H))
 (ACalls Tryz.prog n_zq198 [t7] H fun t121 H =>
 aTest t121
 (zq160_j2 t0 t5 t6 t8 (.int .i64 2) H K Kb5)
 (aBin .add false t6 t8 fun t126 =>
 aSlice 0 0 t0 (some t6) (some t126) fun t127 =>
 ACalls Tryz.prog n_zq200 [t127] H fun t128 H =>
 aTest t128
 (zq160_j2 t0 t5 t6 t8 (.int .i64 4) H K Kb5)
 (zq160_j2 t0 t5 t6 t8 (.int .i64 1) H K Kb5))))
def zq160_fr29 (t0 t5 t6 t7 t8 : AV) : List AV := t0 :: ux 4 (t5 :: t6 :: t7 :: t8 :: ux 191 [])
def zq160_m29 : List Bool := zq160_M 29
noncomputable def zq160_c29 : Code := codeAt [1, 0, 1, 1, 1, 1, 0, 0, 1, 1, 1, 0, 0, 0, 0] zq160_c5
def zq160_Q29 (K : Kt) (Kb5 : Lt) : AExit → List AV → Heap → Prop := contAt Tryz.prog zq160_M [1, 0, 1, 1, 1, 1, 0, 0, 1, 1, 1, 0, 0, 0] zq160_c5 (roundQ zq160_m5 Kb5 (zq160_Q5 K))
def zq160_l29 (t0 t5 t6 t7 t8 : AV) (H : Heap) (K : Kt) (Kb5 : Lt) : Prop := ALoop Tryz.prog zq160_c29 (zq160_Q29 K Kb5) (zq160_fr29 t0 t5 t6 t7 t8) H
def zq160_b29 (t0 t5 t6 t7 t8 : AV) (H : Heap) (K : Kt) (Kb5 : Lt) (Kb29 : Lt) : Prop :=
 aBin .add false t6 t8 fun t146 =>
 aLen 0 t0 fun t148 =>
 aBin .lss false t146 t148 fun t149 =>
 aGuardJ t149 true H (fun K' => K' t0 H) fun t151 H =>
 aGuardJ t149 true H (fun K' => K' t6 H) fun t152 H =>
 aGuardJ t149 true H (fun K' => K' t8 H) fun t153 H =>
 aGuardJ t149 true H (fun K' => aBin .add false t152 t153 (K' · H)) fun t154 H =>
 aGuardJ t149 true H (fun K' => aIdxS t151 t154 (K' · H)) fun t155 H =>
 aGuardJ t149 true H (fun K' => ACalls Tryz.prog n_zq199 [t155] H K') fun t156 H =>
 aPick t149 t156 (.bool false) fun t157 =>
 aTest t157
 (aBin .add false t8 (.int .i64 1) fun t159 =>
 Kb29 (zq160_fr29 t0 t5 t6 t7 t159) H)
 (aBin .gtr false t8 (.int .i64 1) fun t161 =>
 aGuardJ t161 true H (fun K' => K' t7 H) fun t163 H =>
 aGuardJ t161 true H (fun K' => aBin .eql false t163 (.int .u8 48) (K' · H)) fun t164 H =>
 aPick t161 t164 (.bool false) fun t165 =>
 aTest t165
 (aRet [.snil, t6, (.int .i64 2)] (K · H))
 (aBin .add false t6 t8 fun t172 =>
 aSlice 0 0 t0 (some t6) (some t172) fun t173 =>
 ACalls Tryz.prog n_zq201 [t173] H fun t174 H =>
 aExt t174 0 fun t175 =>
 aExt t174 1 fun t176 =>
 aUn .not t176 fun t178 =>
 aTest t178
 (aRet [.snil, t6, (.int .i64 9)] (K · H))
 (aBin .add false t6 t8 fun t185 =>
 aSlice 0 0 t0 (some t6) (some t185) fun t186 =>
 aBuild [(.int .i64 0), (.str []), (.int .i64 0)] [(0, 1), (1, 1), (2, 1)] [(0, (.int .i64 3)), (1, t186), (2, t6)] fun t188 =>
 aBuildS 3 [(.int .i64 0), (.str []), (.int .i64 0)] 1 [(0, t188)] fun t189 =>
 aAppend e_ref3_Token 3 32 t5 t189 H fun t190 H =>
 zq160_j3 t0 t190 t6 t8 H K Kb5)))
def zq160_b5 (t0 t5 t6 : AV) (H : Heap) (K : Kt) (Kb5 : Lt) : Prop :=
 aLen 0 t0 fun t17 =>
 aBin .lss false t6 t17 fun t18 =>
 aTest t18
 (aIdxS t0 t6 fun t21 =>
 aBin .eql false t21 (.int .u8 9) fun t23 =>
 aGuardJ t23 false H (fun K' => K' t21 H) fun t25 H =>
 aGuardJ t23 false H (fun K' => aBin .eql false t25 (.int .u8 10) (K' · H)) fun t26 H =>
 aPick t23 (.bool true) t26 fun t27 =>
 aGuardJ t27 false H (fun K' => K' t21 H) fun t29 H =>
 aGuardJ t27 false H (fun K' => aBin .eql false t29 (.int .u8 13) (K' · H)) fun t30 H =>
 aPick t27 (.bool true) t30 fun t31 =>
 aGuardJ t31 false H (fun K' => K' t21 H) fun t33 H =>
 aGuardJ t31 false H (fun K' => aBin .eql false t33 (.int .u8 32) (K' · H)) fun t34 H =>
 aPick t31 (.bool true) t34 fun t35 =>
 aTest t35
 (aBin .add false t6 (.int .i64 1) fun t37 =>
 zq160_j1 t0 t5 t37 H K Kb5)
 (aBin .eql false t21 (.int .u8 35) fun t39 =>
 aTest t39
 (zq160_l10 t0 t5 t6 H K Kb5)
 (ACalls Tryz.prog n_zq197 [t21] H fun t72 H =>
 aGuardJ t72 false H (fun K' => K' t21 H) fun t74 H =>
 aGuardJ t72 false H (fun K' => ACalls Tryz.prog n_zq198 [t74] H K') fun t75 H =>
 aPick t72 (.bool true) t75 fun t76 =>
 aTest t76
 (zq160_l18 t0 t5 t6 t21 (.int .i64 1) H K Kb5)
 (ACalls Tryz.prog n_zq199 [t21] H fun t143 H =>
 aTest t143
 (zq160_l29 t0 t5 t6 t21 (.int .i64 1) H K Kb5)
 (aSlice 0 0 t0 (some t6) none fun t54 =>
 ACalls Tryz.prog n_zq202 [t54] H fun t55 H =>
 aBin .eql false t55 (.int .i64 0) fun t57 =>
 aTest t57
 (aRet [.snil, t6, (.int .i64 2)] (K · H))
 (aBin .add false t6 t55 fun t64 =>
 aSlice 0 0 t0 (some t6) (some t64) fun t65 =>
 aBuild [(.int .i64 0), (.str []), (.int .i64 0)] [(0, 1), (1, 1), (2, 1)] [(0, (.int .i64 5)), (1, t65), (2, t6)] fun t67 =>
 aBuildS 3 [(.int .i64 0), (.str []), (.int .i64 0)] 1 [(0, t67)] fun t68 =>
 aAppend e_ref3_Token 3 32 t5 t68 H fun t69 H =>
 zq160_j3 t0 t69 t6 t55 H K Kb5))))))
 (aLen 0 t0 fun t196 =>
 aBuild [(.int .i64 0), (.str []), (.int .i64 0)] [(0, 1), (1, 1), (2, 1)] [(0, (.int .i64 6)), (1, (.str [])), (2, t196)] fun t197 =>
 aBuildS 3 [(.int .i64 0), (.str []), (.int .i64 0)] 1 [(0, t197)] fun t198 =>
 aAppend e_ref3_Token 3 32 t5 t198 H fun t199 H =>
 aRet [t199, (.int .i64 0), (.int .i64 0)] (K · H))
def zq160 (t0 : AV) (H : Heap) (K : Kt) : Prop :=
 aLen 0 t0 fun t13 =>
 aBin .gtr false t13 (.int .i64 16384) fun t14 =>
 aTest t14
 (aRet [.snil, (.int .i64 0), (.int .i64 9)] (K · H))
 (zq160_l5 t0 .snil (.int .i64 0) H K)
theorem zq160_b10_eq (t0 t5 t6 : AV) (H : Heap) (K : Kt) (Kb5 : Lt) (Kb10 : Lt) : awp Tryz.prog zq160_M zq160_c10 (roundQ zq160_m10 Kb10 (zq160_Q10 K Kb5)) (zq160_fr10 t0 t5 t6) H = zq160_b10 t0 t5 t6 H K Kb5 Kb10 := by kernel_rfl
theorem zq160_loop10 {t0 t5 t6 : AV} {H : Heap} {K : Kt} {Kb5 : Lt} (Inv : Nat → AV → Heap → Prop) (n : Nat) (h0 : HSc H → Inv n t6 H)
  (round : ∀ n t6 H', Inv n t6 H' → HSc H' → H.length ≤ H'.length → (zq160_fr10 t0 t5 t6).all (AV.sc H'.length) = true → ∀ Kb10 : Lt, (∀ F'' H'', (∃ n', n' < n ∧ Back H.length (fun F2 H2 => ∃ t6, F2 = zq160_fr10 t0 t5 t6 ∧ Inv n' t6 H2) F'' H'') → Kb10 F'' H'') → zq160_b10 t0 t5 t6 H' K Kb5 Kb10) : zq160_l10 t0 t5 t6 H K Kb5 :=
 aloop (M := zq160_M) zq160_m10 (fun n F H => ∃ t6, F = zq160_fr10 t0 t5 t6 ∧ Inv n t6 H) n (fun hs _ => ⟨t6, rfl, h0 hs⟩) (fun n F H' ⟨t6, hF, hI⟩ h1 h2 h3 => by subst hF; rw [zq160_b10_eq]; exact round n t6 H' hI h1 h2 h3 _ (fun _ _ h => h))
theorem zq160_b18_eq (t0 t5 t6 t7 t8 : AV) (H : Heap) (K : Kt) (Kb5 : Lt) (Kb18 : Lt) : awp Tryz.prog zq160_M zq160_c18 (roundQ zq160_m18 Kb18 (zq160_Q18 K Kb5)) (zq160_fr18 t0 t5 t6 t7 t8) H = zq160_b18 t0 t5 t6 t7 t8 H K Kb5 Kb18 := by kernel_rfl
theorem zq160_loop18 {t0 t5 t6 t7 t8 : AV} {H : Heap} {K : Kt} {Kb5 : Lt} (Inv : Nat → AV → Heap → Prop) (n : Nat) (h0 : HSc H → Inv n t8 H)
  (round : ∀ n t8 H', Inv n t8 H' → HSc H' → H.length ≤ H'.length → (zq160_fr18 t0 t5 t6 t7 t8).all (AV.sc H'.length) = true → ∀ Kb18 : Lt, (∀ F'' H'', (∃ n', n' < n ∧ Back H.length (fun F2 H2 => ∃ t8, F2 = zq160_fr18 t0 t5 t6 t7 t8 ∧ Inv n' t8 H2) F'' H'') → Kb18 F'' H'') → zq160_b18 t0 t5 t6 t7 t8 H' K Kb5 Kb18) : zq160_l18 t0 t5 t6 t7 t8 H K Kb5 :=
 aloop (M := zq160_M) zq160_m18 (fun n F H => ∃ t8, F = zq160_fr18 t0 t5 t6 t7 t8 ∧ Inv n t8 H) n (fun hs _ => ⟨t8, rfl, h0 hs⟩) (fun n F H' ⟨t8, hF, hI⟩ h1 h2 h3 => by subst hF; rw [zq160_b18_eq]; exact round n t8 H' hI h1 h2 h3 _ (fun _ _ h => h))
theorem zq160_b29_eq (t0 t5 t6 t7 t8 : AV) (H : Heap) (K : Kt) (Kb5 : Lt) (Kb29 : Lt) : awp Tryz.prog zq160_M zq160_c29 (roundQ zq160_m29 Kb29 (zq160_Q29 K Kb5)) (zq160_fr29 t0 t5 t6 t7 t8) H = zq160_b29 t0 t5 t6 t7 t8 H K Kb5 Kb29 := by kernel_rfl
theorem zq160_loop29 {t0 t5 t6 t7 t8 : AV} {H : Heap} {K : Kt} {Kb5 : Lt} (Inv : Nat → AV → Heap → Prop) (n : Nat) (h0 : HSc H → Inv n t8 H)
  (round : ∀ n t8 H', Inv n t8 H' → HSc H' → H.length ≤ H'.length → (zq160_fr29 t0 t5 t6 t7 t8).all (AV.sc H'.length) = true → ∀ Kb29 : Lt, (∀ F'' H'', (∃ n', n' < n ∧ Back H.length (fun F2 H2 => ∃ t8, F2 = zq160_fr29 t0 t5 t6 t7 t8 ∧ Inv n' t8 H2) F'' H'') → Kb29 F'' H'') → zq160_b29 t0 t5 t6 t7 t8 H' K Kb5 Kb29) : zq160_l29 t0 t5 t6 t7 t8 H K Kb5 :=
 aloop (M := zq160_M) zq160_m29 (fun n F H => ∃ t8, F = zq160_fr29 t0 t5 t6 t7 t8 ∧ Inv n t8 H) n (fun hs _ => ⟨t8, rfl, h0 hs⟩) (fun n F H' ⟨t8, hF, hI⟩ h1 h2 h3 => by subst hF; rw [zq160_b29_eq]; exact round n t8 H' hI h1 h2 h3 _ (fun _ _ h => h))
theorem zq160_b5_eq (t0 t5 t6 : AV) (H : Heap) (K : Kt) (Kb5 : Lt) : awp Tryz.prog zq160_M zq160_c5 (roundQ zq160_m5 Kb5 (zq160_Q5 K)) (zq160_fr5 t0 t5 t6) H = zq160_b5 t0 t5 t6 H K Kb5 := by kernel_rfl
theorem zq160_loop5 {t0 t5 t6 : AV} {H : Heap} {K : Kt} (Inv : Nat → AV → AV → Heap → Prop) (n : Nat) (h0 : HSc H → Inv n t5 t6 H)
  (round : ∀ n t5 t6 H', Inv n t5 t6 H' → HSc H' → H.length ≤ H'.length → (zq160_fr5 t0 t5 t6).all (AV.sc H'.length) = true → ∀ Kb5 : Lt, (∀ F'' H'', (∃ n', n' < n ∧ Back H.length (fun F2 H2 => ∃ t5 t6, F2 = zq160_fr5 t0 t5 t6 ∧ Inv n' t5 t6 H2) F'' H'') → Kb5 F'' H'') → zq160_b5 t0 t5 t6 H' K Kb5) : zq160_l5 t0 t5 t6 H K :=
 aloop (M := zq160_M) zq160_m5 (fun n F H => ∃ t5 t6, F = zq160_fr5 t0 t5 t6 ∧ Inv n t5 t6 H) n (fun hs _ => ⟨t5, t6, rfl, h0 hs⟩) (fun n F H' ⟨t5, t6, hF, hI⟩ h1 h2 h3 => by subst hF; rw [zq160_b5_eq]; exact round n t5 t6 H' hI h1 h2 h3 _ (fun _ _ h => h))
theorem zq160_eq (t0 : AV) (H : Heap) (K : Kt) : awp Tryz.prog zq160_M zq160_c (retQ Tryz.prog zq160_r K) (t0 :: List.replicate 199 .unk) H = zq160 t0 H K := by kernel_rfl
theorem zq160_ok {t0 : AV} {H : Heap} {K : Kt} (h : HSc H → zq160 t0 H K) : ACalls Tryz.prog n_zq160 [t0] H K :=
 acalls_body (M := zq160_M) Tryz.func162 (c := zq160_c) (by kernel_rfl) (fun hs => (zq160_eq t0 H K).mpr (h hs))
def zq245_M (_ : Nat) : List Bool := []
noncomputable def zq245_c : Code := Tryz.f249.body.getD .skip
noncomputable def zq245_r : List ResultVar := Tryz.f249.results.toList
def zq245 (t0 : AV) (H : Heap) (K : Kt) : Prop :=
 aBin .eql false t0 (.int .u8 9) fun t4 =>
 aGuardJ t4 false H (fun K' => K' t0 H) fun t6 H =>
 aGuardJ t4 false H (fun K' => aBin .eql false t6 (.int .u8 10) (K' · H)) fun t7 H =>
 aPick t4 (.bool true) t7 fun t8 =>
 aGuardJ t8 false H (fun K' => K' t0 H) fun t10 H =>
 aGuardJ t8 false H (fun K' => aBin .eql false t10 (.int .u8 13) (K' · H)) fun t11 H =>
 aPick t8 (.bool true) t11 fun t12 =>
 aGuardJ t12 false H (fun K' => K' t0 H) fun t14 H =>
 aGuardJ t12 false H (fun K' => aBin .eql false t14 (.int .u8 32) (K' · H)) fun t15 H =>
 aPick t12 (.bool true) t15 fun t16 =>
 K t16 H
theorem zq245_eq (t0 : AV) (H : Heap) (K : Kt) : awp Tryz.prog zq245_M zq245_c (retQ Tryz.prog zq245_r K) (t0 :: List.replicate 16 .unk) H = zq245 t0 H K := by kernel_rfl
theorem zq245_ok {t0 : AV} {H : Heap} {K : Kt} (h : HSc H → zq245 t0 H K) : ACalls Tryz.prog n_zq245 [t0] H K :=
 acalls_body (M := zq245_M) Tryz.func249 (c := zq245_c) (by kernel_rfl) (fun hs => (zq245_eq t0 H K).mpr (h hs))
def zq246_M (_ : Nat) : List Bool := []
noncomputable def zq246_c : Code := Tryz.f250.body.getD .skip
noncomputable def zq246_r : List ResultVar := Tryz.f250.results.toList
def zq246_j3 (t4 t6 : AV) (H : Heap) (K : Kt) : Prop :=
 aLoad true 3 t6 H fun t74 =>
 aStore 3 t4 t74 H fun H =>
 aLoad true 3 t4 H fun r0 =>
 aRet [r0, (.int .i64 0)] (K · H)
def zq246_j2 (t4 t6 : AV) (H : Heap) (K : Kt) : Prop :=
 zq246_j3 t4 t6 H K
def zq246_j1 (t4 t6 : AV) (H : Heap) (K : Kt) : Prop :=
 zq246_j2 t4 t6 H K
def zq246 (t0 t1 : AV) (H : Heap) (K : Kt) : Prop :=
 aNew [(.int .i64 0), (.str []), (.int .i64 0)] H fun t4 H =>
 aBuild [(.int .i64 0), (.str []), (.int .i64 0)] [(0, 1), (1, 1), (2, 1)] [(2, t1)] fun t9 =>
 aNew [(.int .i64 0), (.str []), (.int .i64 0)] H fun t6 H =>
 aStore 3 t6 t9 H fun H =>
 aIdxS t0 t1 fun t12 =>
 ACalls Tryz.prog n_zq256 [t12] H fun t25 H =>
 aGuardJ t25 false H (fun K' => K' t12 H) fun t27 H =>
 aGuardJ t25 false H (fun K' => ACalls Tryz.prog n_zq257 [t27] H K') fun t28 H =>
 aPick t25 (.bool true) t28 fun t29 =>
 aTest t29
 (aSlice 0 0 t0 (some t1) none fun t32 =>
 ACalls Tryz.prog n_zq258 [t32, (.fn n_zq259 [])] H fun t33 H =>
 aFld 1 t6 fun t34 =>
 aStore 1 t34 t33 H fun H =>
 aFld 1 t6 fun t37 =>
 aLoad false 1 t37 H fun t38 =>
 aLen 0 t38 fun t39 =>
 aBin .gtr false t39 (.int .i64 24) fun t40 =>
 aTest t40
 (aBuild [(.int .i64 0), (.str []), (.int .i64 0)] [(0, 1), (1, 1), (2, 1)] [] fun t41 =>
 aStore 3 t4 t41 H fun H =>
 aLoad true 3 t4 H fun r0 =>
 aRet [r0, (.int .i64 9)] (K · H))
 (ACalls Tryz.prog n_zq257 [t12] H fun t44 H =>
 aTest t44
 (aFld 0 t6 fun t45 =>
 aStore 1 t45 (.int .i64 2) H fun H =>
 zq246_j1 t4 t6 H K)
 (aFld 1 t6 fun t47 =>
 aLoad false 1 t47 H fun t48 =>
 ACalls Tryz.prog n_zq260 [t48] H fun t49 H =>
 aTest t49
 (aFld 0 t6 fun t50 =>
 aStore 1 t50 (.int .i64 4) H fun H =>
 zq246_j1 t4 t6 H K)
 (aFld 0 t6 fun t35 =>
 aStore 1 t35 (.int .i64 1) H fun H =>
 zq246_j1 t4 t6 H K))))
 (ACalls Tryz.prog n_zq261 [t12] H fun t53 H =>
 aTest t53
 (aFld 0 t6 fun t54 =>
 aStore 1 t54 (.int .i64 3) H fun H =>
 aSlice 0 0 t0 (some t1) none fun t57 =>
 ACalls Tryz.prog n_zq258 [t57, (.fn n_zq261 [])] H fun t58 H =>
 aFld 1 t6 fun t59 =>
 aStore 1 t59 t58 H fun H =>
 aBin .eql false t12 (.int .u8 48) fun t61 =>
 aGuardJ t61 true H (fun K' => aFld 1 t6 (K' · H)) fun t63 H =>
 aGuardJ t61 true H (fun K' => aLoad false 1 t63 H (K' · H)) fun t64 H =>
 aGuardJ t61 true H (fun K' => aLen 0 t64 (K' · H)) fun t65 H =>
 aGuardJ t61 true H (fun K' => aBin .gtr false t65 (.int .i64 1) (K' · H)) fun t66 H =>
 aPick t61 t66 (.bool false) fun t67 =>
 aTest t67
 (aBuild [(.int .i64 0), (.str []), (.int .i64 0)] [(0, 1), (1, 1), (2, 1)] [] fun t68 =>
 aStore 3 t4 t68 H fun H =>
 aLoad true 3 t4 H fun r0 =>
 aRet [r0, (.int .i64 2)] (K · H))
 (aFld 1 t6 fun t69 =>
 aLoad false 1 t69 H fun t70 =>
 ACalls Tryz.prog n_zq262 [t70] H fun t71 H =>
 aUn .not t71 fun t72 =>
 aTest t72
 (aBuild [(.int .i64 0), (.str []), (.int .i64 0)] [(0, 1), (1, 1), (2, 1)] [] fun t73 =>
 aStore 3 t4 t73 H fun H =>
 aLoad true 3 t4 H fun r0 =>
 aRet [r0, (.int .i64 9)] (K · H))
 (zq246_j2 t4 t6 H K)))
 (aFld 0 t6 fun t13 =>
 aStore 1 t13 (.int .i64 5) H fun H =>
 aSlice 0 0 t0 (some t1) none fun t16 =>
 ACalls Tryz.prog n_zq263 [t16] H fun t17 H =>
 aFld 1 t6 fun t18 =>
 aStore 1 t18 t17 H fun H =>
 aFld 1 t6 fun t19 =>
 aLoad false 1 t19 H fun t20 =>
 aBin .eql false t20 (.str []) fun t21 =>
 aTest t21
 (aBuild [(.int .i64 0), (.str []), (.int .i64 0)] [(0, 1), (1, 1), (2, 1)] [] fun t22 =>
 aStore 3 t4 t22 H fun H =>
 aLoad true 3 t4 H fun r0 =>
 aRet [r0, (.int .i64 2)] (K · H))
 (zq246_j2 t4 t6 H K)))
theorem zq246_eq (t0 t1 : AV) (H : Heap) (K : Kt) : awp Tryz.prog zq246_M zq246_c (retQ Tryz.prog zq246_r K) (t0 :: t1 :: List.replicate 73 .unk) H = zq246 t0 t1 H K := by kernel_rfl
theorem zq246_ok {t0 t1 : AV} {H : Heap} {K : Kt} (h : HSc H → zq246 t0 t1 H K) : ACalls Tryz.prog n_zq246 [t0, t1] H K :=
 acalls_body (M := zq246_M) Tryz.func250 (c := zq246_c) (by kernel_rfl) (fun hs => (zq246_eq t0 t1 H K).mpr (h hs))
def zq197_M (_ : Nat) : List Bool := []
noncomputable def zq197_c : Code := Tryz.f199.body.getD .skip
noncomputable def zq197_r : List ResultVar := Tryz.f199.results.toList
def zq197 (t0 : AV) (H : Heap) (K : Kt) : Prop :=
 aBin .geq false t0 (.int .u8 97) fun t4 =>
 aGuardJ t4 true H (fun K' => K' t0 H) fun t6 H =>
 aGuardJ t4 true H (fun K' => aBin .leq false t6 (.int .u8 122) (K' · H)) fun t7 H =>
 aPick t4 t7 (.bool false) fun t8 =>
 K t8 H
theorem zq197_eq (t0 : AV) (H : Heap) (K : Kt) : awp Tryz.prog zq197_M zq197_c (retQ Tryz.prog zq197_r K) (t0 :: List.replicate 8 .unk) H = zq197 t0 H K := by kernel_rfl
theorem zq197_ok {t0 : AV} {H : Heap} {K : Kt} (h : HSc H → zq197 t0 H K) : ACalls Tryz.prog n_zq197 [t0] H K :=
 acalls_body (M := zq197_M) Tryz.func199 (c := zq197_c) (by kernel_rfl) (fun hs => (zq197_eq t0 H K).mpr (h hs))
def zq198_M (_ : Nat) : List Bool := []
noncomputable def zq198_c : Code := Tryz.f200.body.getD .skip
noncomputable def zq198_r : List ResultVar := Tryz.f200.results.toList
def zq198 (t0 : AV) (H : Heap) (K : Kt) : Prop :=
 aBin .geq false t0 (.int .u8 65) fun t4 =>
 aGuardJ t4 true H (fun K' => K' t0 H) fun t6 H =>
 aGuardJ t4 true H (fun K' => aBin .leq false t6 (.int .u8 90) (K' · H)) fun t7 H =>
 aPick t4 t7 (.bool false) fun t8 =>
 K t8 H
theorem zq198_eq (t0 : AV) (H : Heap) (K : Kt) : awp Tryz.prog zq198_M zq198_c (retQ Tryz.prog zq198_r K) (t0 :: List.replicate 8 .unk) H = zq198 t0 H K := by kernel_rfl
theorem zq198_ok {t0 : AV} {H : Heap} {K : Kt} (h : HSc H → zq198 t0 H K) : ACalls Tryz.prog n_zq198 [t0] H K :=
 acalls_body (M := zq198_M) Tryz.func200 (c := zq198_c) (by kernel_rfl) (fun hs => (zq198_eq t0 H K).mpr (h hs))
def zq199_M (_ : Nat) : List Bool := []
noncomputable def zq199_c : Code := Tryz.f201.body.getD .skip
noncomputable def zq199_r : List ResultVar := Tryz.f201.results.toList
def zq199 (t0 : AV) (H : Heap) (K : Kt) : Prop :=
 aBin .geq false t0 (.int .u8 48) fun t4 =>
 aGuardJ t4 true H (fun K' => K' t0 H) fun t6 H =>
 aGuardJ t4 true H (fun K' => aBin .leq false t6 (.int .u8 57) (K' · H)) fun t7 H =>
 aPick t4 t7 (.bool false) fun t8 =>
 K t8 H
theorem zq199_eq (t0 : AV) (H : Heap) (K : Kt) : awp Tryz.prog zq199_M zq199_c (retQ Tryz.prog zq199_r K) (t0 :: List.replicate 8 .unk) H = zq199 t0 H K := by kernel_rfl
theorem zq199_ok {t0 : AV} {H : Heap} {K : Kt} (h : HSc H → zq199 t0 H K) : ACalls Tryz.prog n_zq199 [t0] H K :=
 acalls_body (M := zq199_M) Tryz.func201 (c := zq199_c) (by kernel_rfl) (fun hs => (zq199_eq t0 H K).mpr (h hs))
def zq200_M : Nat → List Bool
 | 3 => rl false [0,1,2,2,13]
 | _ => []
noncomputable def zq200_c : Code := Tryz.f202.body.getD .skip
noncomputable def zq200_r : List ResultVar := Tryz.f202.results.toList
def zq200_fr3 (t0 t3 t4 : AV) : List AV := t0 :: ux 2 (t3 :: t4 :: ux 13 [])
def zq200_m3 : List Bool := zq200_M 3
noncomputable def zq200_c3 : Code := codeAt [1, 1, 0, 1, 0, 0] zq200_c
def zq200_Q3 (K : Kt) : AExit → List AV → Heap → Prop := contAt Tryz.prog zq200_M [1, 1, 0, 1, 0] zq200_c (retQ Tryz.prog zq200_r K)
def zq200_l3 (t0 t3 t4 : AV) (H : Heap) (K : Kt) : Prop := ALoop Tryz.prog zq200_c3 (zq200_Q3 K) (zq200_fr3 t0 t3 t4) H
def zq200_b3 (t0 t3 t4 : AV) (H : Heap) (K : Kt) (Kb3 : Lt) : Prop :=
 aLen 1 t3 fun t8 =>
 aBin .lss false t4 t8 fun t9 =>
 aTest t9
 (aIdxA 1 t3 t4 fun t14 =>
 aLoad false 1 t14 H fun t15 =>
 aBin .eql false t15 t0 fun t17 =>
 aTest t17
 (K (.bool true) H)
 (aBin .add false t4 (.int .i64 1) fun t11 =>
 Kb3 (zq200_fr3 t0 t3 t11) H))
 (K (.bool false) H)
def zq200 (t0 : AV) (H : Heap) (K : Kt) : Prop :=
 aBuildS 1 [(.str [])] 28 [(0, (.str [97, 114, 114, 97, 121])), (1, (.str [98, 111, 111, 108])), (2, (.str [99, 97, 116, 99, 104])), (3, (.str [100, 97, 116, 97])), (4, (.str [101, 108, 115, 101])), (5, (.str [101, 110, 100])), (6, (.str [102, 97, 108, 115, 101])), (7, (.str [102, 110])), (8, (.str [102, 117, 110])), (9, (.str [103, 101, 116])), (10, (.str [105, 102])), (11, (.str [105, 110])), (12, (.str [105, 110, 116])), (13, (.str [108, 101, 110])), (14, (.str [108, 101, 116])), (15, (.str [109, 97, 116, 99, 104])), (16, (.str [110, 101, 119])), (17, (.str [114, 97, 105, 115, 101])), (18, (.str [114, 101, 97, 100])), (19, (.str [114, 101, 102])), (20, (.str [115, 101, 116])), (21, (.str [116, 104, 101, 110])), (22, (.str [116, 105, 99, 107])), (23, (.str [116, 114, 117, 101])), (24, (.str [116, 114, 121])), (25, (.str [117, 110, 105, 116])), (26, (.str [119, 105, 116, 104])), (27, (.str [119, 114, 105, 116, 101]))] fun t5 =>
 zq200_l3 t0 t5 (.int .i64 0) H K
theorem zq200_b3_eq (t0 t3 t4 : AV) (H : Heap) (K : Kt) (Kb3 : Lt) : awp Tryz.prog zq200_M zq200_c3 (roundQ zq200_m3 Kb3 (zq200_Q3 K)) (zq200_fr3 t0 t3 t4) H = zq200_b3 t0 t3 t4 H K Kb3 := by kernel_rfl
theorem zq200_loop3 {t0 t3 t4 : AV} {H : Heap} {K : Kt} (Inv : Nat → AV → Heap → Prop) (n : Nat) (h0 : HSc H → Inv n t4 H)
  (round : ∀ n t4 H', Inv n t4 H' → HSc H' → H.length ≤ H'.length → (zq200_fr3 t0 t3 t4).all (AV.sc H'.length) = true → ∀ Kb3 : Lt, (∀ F'' H'', (∃ n', n' < n ∧ Back H.length (fun F2 H2 => ∃ t4, F2 = zq200_fr3 t0 t3 t4 ∧ Inv n' t4 H2) F'' H'') → Kb3 F'' H'') → zq200_b3 t0 t3 t4 H' K Kb3) : zq200_l3 t0 t3 t4 H K :=
 aloop (M := zq200_M) zq200_m3 (fun n F H => ∃ t4, F = zq200_fr3 t0 t3 t4 ∧ Inv n t4 H) n (fun hs _ => ⟨t4, rfl, h0 hs⟩) (fun n F H' ⟨t4, hF, hI⟩ h1 h2 h3 => by subst hF; rw [zq200_b3_eq]; exact round n t4 H' hI h1 h2 h3 _ (fun _ _ h => h))
theorem zq200_eq (t0 : AV) (H : Heap) (K : Kt) : awp Tryz.prog zq200_M zq200_c (retQ Tryz.prog zq200_r K) (t0 :: List.replicate 17 .unk) H = zq200 t0 H K := by kernel_rfl
theorem zq200_ok {t0 : AV} {H : Heap} {K : Kt} (h : HSc H → zq200 t0 H K) : ACalls Tryz.prog n_zq200 [t0] H K :=
 acalls_body (M := zq200_M) Tryz.func202 (c := zq200_c) (by kernel_rfl) (fun hs => (zq200_eq t0 H K).mpr (h hs))
def zq201_M : Nat → List Bool
 | 3 => rl false [0,1,3,2,17]
 | _ => []
noncomputable def zq201_c : Code := Tryz.f203.body.getD .skip
noncomputable def zq201_r : List ResultVar := Tryz.f203.results.toList
def zq201_fr3 (t0 t4 t5 : AV) : List AV := t0 :: ux 3 (t4 :: t5 :: ux 17 [])
def zq201_m3 : List Bool := zq201_M 3
noncomputable def zq201_c3 : Code := codeAt [1, 1, 0, 1, 0, 0] zq201_c
def zq201_Q3 (K : Kt) : AExit → List AV → Heap → Prop := contAt Tryz.prog zq201_M [1, 1, 0, 1, 0] zq201_c (retQ Tryz.prog zq201_r K)
def zq201_l3 (t0 t4 t5 : AV) (H : Heap) (K : Kt) : Prop := ALoop Tryz.prog zq201_c3 (zq201_Q3 K) (zq201_fr3 t0 t4 t5) H
def zq201_b3 (t0 t4 t5 : AV) (H : Heap) (K : Kt) (Kb3 : Lt) : Prop :=
 aLen 0 t0 fun t8 =>
 aBin .lss false t5 t8 fun t9 =>
 aTest t9
 (aBin .mul false t4 (.int .i64 10) fun t13 =>
 aIdxS t0 t5 fun t16 =>
 aBin .sub false t16 (.int .u8 48) fun t17 =>
 aConv .i64 t17 fun t18 =>
 aBin .add false t13 t18 fun t19 =>
 aBin .gtr false t19 (.int .i64 1000000) fun t21 =>
 aTest t21
 (aRet [(.int .i64 0), (.bool false)] (K · H))
 (aBin .add false t5 (.int .i64 1) fun t11 =>
 Kb3 (zq201_fr3 t0 t19 t11) H))
 (aRet [t4, (.bool true)] (K · H))
def zq201 (t0 : AV) (H : Heap) (K : Kt) : Prop :=
 zq201_l3 t0 (.int .i64 0) (.int .i64 0) H K
theorem zq201_b3_eq (t0 t4 t5 : AV) (H : Heap) (K : Kt) (Kb3 : Lt) : awp Tryz.prog zq201_M zq201_c3 (roundQ zq201_m3 Kb3 (zq201_Q3 K)) (zq201_fr3 t0 t4 t5) H = zq201_b3 t0 t4 t5 H K Kb3 := by kernel_rfl
theorem zq201_loop3 {t0 t4 t5 : AV} {H : Heap} {K : Kt} (Inv : Nat → AV → AV → Heap → Prop) (n : Nat) (h0 : HSc H → Inv n t4 t5 H)
  (round : ∀ n t4 t5 H', Inv n t4 t5 H' → HSc H' → H.length ≤ H'.length → (zq201_fr3 t0 t4 t5).all (AV.sc H'.length) = true → ∀ Kb3 : Lt, (∀ F'' H'', (∃ n', n' < n ∧ Back H.length (fun F2 H2 => ∃ t4 t5, F2 = zq201_fr3 t0 t4 t5 ∧ Inv n' t4 t5 H2) F'' H'') → Kb3 F'' H'') → zq201_b3 t0 t4 t5 H' K Kb3) : zq201_l3 t0 t4 t5 H K :=
 aloop (M := zq201_M) zq201_m3 (fun n F H => ∃ t4 t5, F = zq201_fr3 t0 t4 t5 ∧ Inv n t4 t5 H) n (fun hs _ => ⟨t4, t5, rfl, h0 hs⟩) (fun n F H' ⟨t4, t5, hF, hI⟩ h1 h2 h3 => by subst hF; rw [zq201_b3_eq]; exact round n t4 t5 H' hI h1 h2 h3 _ (fun _ _ h => h))
theorem zq201_eq (t0 : AV) (H : Heap) (K : Kt) : awp Tryz.prog zq201_M zq201_c (retQ Tryz.prog zq201_r K) (t0 :: List.replicate 22 .unk) H = zq201 t0 H K := by kernel_rfl
theorem zq201_ok {t0 : AV} {H : Heap} {K : Kt} (h : HSc H → zq201 t0 H K) : ACalls Tryz.prog n_zq201 [t0] H K :=
 acalls_body (M := zq201_M) Tryz.func203 (c := zq201_c) (by kernel_rfl) (fun hs => (zq201_eq t0 H K).mpr (h hs))
def zq202_M : Nat → List Bool
 | 5 => rl false [0,1,2,2,30]
 | _ => []
noncomputable def zq202_c : Code := Tryz.f204.body.getD .skip
noncomputable def zq202_r : List ResultVar := Tryz.f204.results.toList
def zq202_fr5 (t0 t3 t4 : AV) : List AV := t0 :: ux 2 (t3 :: t4 :: ux 30 [])
def zq202_m5 : List Bool := zq202_M 5
noncomputable def zq202_c5 : Code := codeAt [1, 1, 1, 0, 1, 0, 0] zq202_c
def zq202_Q5 (K : Kt) : AExit → List AV → Heap → Prop := contAt Tryz.prog zq202_M [1, 1, 1, 0, 1, 0] zq202_c (retQ Tryz.prog zq202_r K)
def zq202_l5 (t0 t3 t4 : AV) (H : Heap) (K : Kt) : Prop := ALoop Tryz.prog zq202_c5 (zq202_Q5 K) (zq202_fr5 t0 t3 t4) H
def zq202_b5 (t0 t3 t4 : AV) (H : Heap) (K : Kt) (Kb5 : Lt) : Prop :=
 aLen 0 t3 fun t25 =>
 aBin .lss false t4 t25 fun t26 =>
 aTest t26
 (aPure H (fun K' => K' t0 H) fun t29 =>
 aPure H (fun K' => aIdxS t29 (.int .i64 0) (K' · H)) fun t30 =>
 aPure H (fun K' => K' t3 H) fun t31 =>
 aPure H (fun K' => K' t4 H) fun t32 =>
 aPure H (fun K' => aIdxS t31 t32 (K' · H)) fun t33 =>
 aPure H (fun K' => aBin .eql false t30 t33 (K' · H)) fun t34 =>
 aTest t34
 (K (.int .i64 1) H)
 (aBin .add false t4 (.int .i64 1) fun t28 =>
 Kb5 (zq202_fr5 t0 t3 t28) H))
 (K (.int .i64 0) H)
def zq202 (t0 : AV) (H : Heap) (K : Kt) : Prop :=
 aLen 0 t0 fun t6 =>
 aBin .geq false t6 (.int .i64 2) fun t7 =>
 aGuardJ t7 true H (fun K' => K' t0 H) fun t9 H =>
 aGuardJ t7 true H (fun K' => aSlice 0 0 t9 none (some (.int .i64 2)) (K' · H)) fun t10 H =>
 aGuardJ t7 true H (fun K' => aBin .eql false t10 (.str [45, 62]) (K' · H)) fun t11 H =>
 aGuardJ t7 true H (fun K' => K' t11 H) fun t12 H =>
 aGuardJ t12 false H (fun K' => K' t0 H) fun t13 H =>
 aGuardJ t12 false H (fun K' => aSlice 0 0 t13 none (some (.int .i64 2)) (K' · H)) fun t14 H =>
 aGuardJ t12 false H (fun K' => aBin .eql false t14 (.str [60, 61]) (K' · H)) fun t15 H =>
 aGuardJ t7 true H (fun K' => aPick t12 (.bool true) t15 (K' · H)) fun t16 H =>
 aGuardJ t7 true H (fun K' => K' t16 H) fun t17 H =>
 aGuardJ t17 false H (fun K' => K' t0 H) fun t18 H =>
 aGuardJ t17 false H (fun K' => aSlice 0 0 t18 none (some (.int .i64 2)) (K' · H)) fun t19 H =>
 aGuardJ t17 false H (fun K' => aBin .eql false t19 (.str [61, 61]) (K' · H)) fun t20 H =>
 aGuardJ t7 true H (fun K' => aPick t17 (.bool true) t20 (K' · H)) fun t21 H =>
 aPick t7 t21 (.bool false) fun t22 =>
 aTest t22
 (K (.int .i64 2) H)
 (zq202_l5 t0 (.str [40, 41, 44, 61, 124, 43, 45, 42, 47, 37, 60, 59, 95]) (.int .i64 0) H K)
theorem zq202_b5_eq (t0 t3 t4 : AV) (H : Heap) (K : Kt) (Kb5 : Lt) : awp Tryz.prog zq202_M zq202_c5 (roundQ zq202_m5 Kb5 (zq202_Q5 K)) (zq202_fr5 t0 t3 t4) H = zq202_b5 t0 t3 t4 H K Kb5 := by kernel_rfl
theorem zq202_loop5 {t0 t3 t4 : AV} {H : Heap} {K : Kt} (Inv : Nat → AV → Heap → Prop) (n : Nat) (h0 : HSc H → Inv n t4 H)
  (round : ∀ n t4 H', Inv n t4 H' → HSc H' → H.length ≤ H'.length → (zq202_fr5 t0 t3 t4).all (AV.sc H'.length) = true → ∀ Kb5 : Lt, (∀ F'' H'', (∃ n', n' < n ∧ Back H.length (fun F2 H2 => ∃ t4, F2 = zq202_fr5 t0 t3 t4 ∧ Inv n' t4 H2) F'' H'') → Kb5 F'' H'') → zq202_b5 t0 t3 t4 H' K Kb5) : zq202_l5 t0 t3 t4 H K :=
 aloop (M := zq202_M) zq202_m5 (fun n F H => ∃ t4, F = zq202_fr5 t0 t3 t4 ∧ Inv n t4 H) n (fun hs _ => ⟨t4, rfl, h0 hs⟩) (fun n F H' ⟨t4, hF, hI⟩ h1 h2 h3 => by subst hF; rw [zq202_b5_eq]; exact round n t4 H' hI h1 h2 h3 _ (fun _ _ h => h))
theorem zq202_eq (t0 : AV) (H : Heap) (K : Kt) : awp Tryz.prog zq202_M zq202_c (retQ Tryz.prog zq202_r K) (t0 :: List.replicate 34 .unk) H = zq202 t0 H K := by kernel_rfl
theorem zq202_ok {t0 : AV} {H : Heap} {K : Kt} (h : HSc H → zq202 t0 H K) : ACalls Tryz.prog n_zq202 [t0] H K :=
 acalls_body (M := zq202_M) Tryz.func204 (c := zq202_c) (by kernel_rfl) (fun hs => (zq202_eq t0 H K).mpr (h hs))
def zq256_M (_ : Nat) : List Bool := []
noncomputable def zq256_c : Code := Tryz.f260.body.getD .skip
noncomputable def zq256_r : List ResultVar := Tryz.f260.results.toList
def zq256 (t0 : AV) (H : Heap) (K : Kt) : Prop :=
 aBin .geq false t0 (.int .u8 97) fun t4 =>
 aGuardJ t4 true H (fun K' => K' t0 H) fun t6 H =>
 aGuardJ t4 true H (fun K' => aBin .leq false t6 (.int .u8 122) (K' · H)) fun t7 H =>
 aPick t4 t7 (.bool false) fun t8 =>
 K t8 H
theorem zq256_eq (t0 : AV) (H : Heap) (K : Kt) : awp Tryz.prog zq256_M zq256_c (retQ Tryz.prog zq256_r K) (t0 :: List.replicate 8 .unk) H = zq256 t0 H K := by kernel_rfl
theorem zq256_ok {t0 : AV} {H : Heap} {K : Kt} (h : HSc H → zq256 t0 H K) : ACalls Tryz.prog n_zq256 [t0] H K :=
 acalls_body (M := zq256_M) Tryz.func260 (c := zq256_c) (by kernel_rfl) (fun hs => (zq256_eq t0 H K).mpr (h hs))
def zq257_M (_ : Nat) : List Bool := []
noncomputable def zq257_c : Code := Tryz.f261.body.getD .skip
noncomputable def zq257_r : List ResultVar := Tryz.f261.results.toList
def zq257 (t0 : AV) (H : Heap) (K : Kt) : Prop :=
 aBin .geq false t0 (.int .u8 65) fun t4 =>
 aGuardJ t4 true H (fun K' => K' t0 H) fun t6 H =>
 aGuardJ t4 true H (fun K' => aBin .leq false t6 (.int .u8 90) (K' · H)) fun t7 H =>
 aPick t4 t7 (.bool false) fun t8 =>
 K t8 H
theorem zq257_eq (t0 : AV) (H : Heap) (K : Kt) : awp Tryz.prog zq257_M zq257_c (retQ Tryz.prog zq257_r K) (t0 :: List.replicate 8 .unk) H = zq257 t0 H K := by kernel_rfl
theorem zq257_ok {t0 : AV} {H : Heap} {K : Kt} (h : HSc H → zq257 t0 H K) : ACalls Tryz.prog n_zq257 [t0] H K :=
 acalls_body (M := zq257_M) Tryz.func261 (c := zq257_c) (by kernel_rfl) (fun hs => (zq257_eq t0 H K).mpr (h hs))
def zq258_M : Nat → List Bool
 | 2 => rl false [0,2,3,1,16]
 | _ => []
noncomputable def zq258_c : Code := Tryz.f262.body.getD .skip
noncomputable def zq258_r : List ResultVar := Tryz.f262.results.toList
def zq258_fr2 (t0 t1 t5 : AV) : List AV := t0 :: t1 :: ux 3 (t5 :: ux 16 [])
def zq258_m2 : List Bool := zq258_M 2
noncomputable def zq258_c2 : Code := codeAt [1, 1, 0, 0, 0] zq258_c
def zq258_Q2 (K : Kt) : AExit → List AV → Heap → Prop := contAt Tryz.prog zq258_M [1, 1, 0, 0] zq258_c (retQ Tryz.prog zq258_r K)
def zq258_l2 (t0 t1 t5 : AV) (H : Heap) (K : Kt) : Prop := ALoop Tryz.prog zq258_c2 (zq258_Q2 K) (zq258_fr2 t0 t1 t5) H
def zq258_b2 (t0 t1 t5 : AV) (H : Heap) (K : Kt) (Kb2 : Lt) : Prop :=
 aLen 0 t0 fun t8 =>
 aBin .lss false t5 t8 fun t9 =>
 aGuardJ t9 true H (fun K' => K' t1 H) fun t11 H =>
 aGuardJ t9 true H (fun K' => K' t0 H) fun t12 H =>
 aGuardJ t9 true H (fun K' => K' t5 H) fun t13 H =>
 aGuardJ t9 true H (fun K' => aIdxS t12 t13 (K' · H)) fun t14 H =>
 aGuardJ t9 true H (fun K' => aCallV Tryz.prog t11 [t14] H K') fun t15 H =>
 aPick t9 t15 (.bool false) fun t16 =>
 aTest t16
 (aBin .add false t5 (.int .i64 1) fun t18 =>
 Kb2 (zq258_fr2 t0 t1 t18) H)
 (aSlice 0 0 t0 none (some t5) fun t21 =>
 K t21 H)
def zq258 (t0 t1 : AV) (H : Heap) (K : Kt) : Prop :=
 zq258_l2 t0 t1 (.int .i64 0) H K
theorem zq258_b2_eq (t0 t1 t5 : AV) (H : Heap) (K : Kt) (Kb2 : Lt) : awp Tryz.prog zq258_M zq258_c2 (roundQ zq258_m2 Kb2 (zq258_Q2 K)) (zq258_fr2 t0 t1 t5) H = zq258_b2 t0 t1 t5 H K Kb2 := by kernel_rfl
theorem zq258_loop2 {t0 t1 t5 : AV} {H : Heap} {K : Kt} (Inv : Nat → AV → Heap → Prop) (n : Nat) (h0 : HSc H → Inv n t5 H)
  (round : ∀ n t5 H', Inv n t5 H' → HSc H' → H.length ≤ H'.length → (zq258_fr2 t0 t1 t5).all (AV.sc H'.length) = true → ∀ Kb2 : Lt, (∀ F'' H'', (∃ n', n' < n ∧ Back H.length (fun F2 H2 => ∃ t5, F2 = zq258_fr2 t0 t1 t5 ∧ Inv n' t5 H2) F'' H'') → Kb2 F'' H'') → zq258_b2 t0 t1 t5 H' K Kb2) : zq258_l2 t0 t1 t5 H K :=
 aloop (M := zq258_M) zq258_m2 (fun n F H => ∃ t5, F = zq258_fr2 t0 t1 t5 ∧ Inv n t5 H) n (fun hs _ => ⟨t5, rfl, h0 hs⟩) (fun n F H' ⟨t5, hF, hI⟩ h1 h2 h3 => by subst hF; rw [zq258_b2_eq]; exact round n t5 H' hI h1 h2 h3 _ (fun _ _ h => h))
theorem zq258_eq (t0 t1 : AV) (H : Heap) (K : Kt) : awp Tryz.prog zq258_M zq258_c (retQ Tryz.prog zq258_r K) (t0 :: t1 :: List.replicate 20 .unk) H = zq258 t0 t1 H K := by kernel_rfl
theorem zq258_ok {t0 t1 : AV} {H : Heap} {K : Kt} (h : HSc H → zq258 t0 t1 H K) : ACalls Tryz.prog n_zq258 [t0, t1] H K :=
 acalls_body (M := zq258_M) Tryz.func262 (c := zq258_c) (by kernel_rfl) (fun hs => (zq258_eq t0 t1 H K).mpr (h hs))
def zq259_M (_ : Nat) : List Bool := []
noncomputable def zq259_c : Code := Tryz.f263.body.getD .skip
noncomputable def zq259_r : List ResultVar := Tryz.f263.results.toList
def zq259 (t0 : AV) (H : Heap) (K : Kt) : Prop :=
 ACalls Tryz.prog n_zq256 [t0] H fun t4 H =>
 aGuardJ t4 false H (fun K' => K' t0 H) fun t6 H =>
 aGuardJ t4 false H (fun K' => ACalls Tryz.prog n_zq257 [t6] H K') fun t7 H =>
 aPick t4 (.bool true) t7 fun t8 =>
 aGuardJ t8 false H (fun K' => K' t0 H) fun t10 H =>
 aGuardJ t8 false H (fun K' => ACalls Tryz.prog n_zq261 [t10] H K') fun t11 H =>
 aPick t8 (.bool true) t11 fun t12 =>
 aGuardJ t12 false H (fun K' => K' t0 H) fun t14 H =>
 aGuardJ t12 false H (fun K' => aBin .eql false t14 (.int .u8 95) (K' · H)) fun t15 H =>
 aPick t12 (.bool true) t15 fun t16 =>
 K t16 H
theorem zq259_eq (t0 : AV) (H : Heap) (K : Kt) : awp Tryz.prog zq259_M zq259_c (retQ Tryz.prog zq259_r K) (t0 :: List.replicate 16 .unk) H = zq259 t0 H K := by kernel_rfl
theorem zq259_ok {t0 : AV} {H : Heap} {K : Kt} (h : HSc H → zq259 t0 H K) : ACalls Tryz.prog n_zq259 [t0] H K :=
 acalls_body (M := zq259_M) Tryz.func263 (c := zq259_c) (by kernel_rfl) (fun hs => (zq259_eq t0 H K).mpr (h hs))
def zq260_M (_ : Nat) : List Bool := []
noncomputable def zq260_c : Code := Tryz.f264.body.getD .skip
noncomputable def zq260_r : List ResultVar := Tryz.f264.results.toList
def zq260_j1 (t4 : AV) (H : Heap) (K : Kt) : Prop :=
 aTest t4
 (K (.bool true) H)
 (K (.bool false) H)
def zq260 (t0 : AV) (H : Heap) (K : Kt) : Prop :=
 aBin .eql false t0 (.str [97, 114, 114, 97, 121]) fun t5 =>
 aTest t5
 (zq260_j1 t5 H K)
 (aBin .eql false t0 (.str [98, 111, 111, 108]) fun t6 =>
 aTest t6
 (zq260_j1 t6 H K)
 (aBin .eql false t0 (.str [99, 97, 116, 99, 104]) fun t7 =>
 aTest t7
 (zq260_j1 t7 H K)
 (aBin .eql false t0 (.str [100, 97, 116, 97]) fun t8 =>
 aTest t8
 (zq260_j1 t8 H K)
 (aBin .eql false t0 (.str [101, 108, 115, 101]) fun t9 =>
 aTest t9
 (zq260_j1 t9 H K)
 (aBin .eql false t0 (.str [101, 110, 100]) fun t10 =>
 aTest t10
 (zq260_j1 t10 H K)
 (aBin .eql false t0 (.str [102, 97, 108, 115, 101]) fun t11 =>
 aTest t11
 (zq260_j1 t11 H K)
 (aBin .eql false t0 (.str [102, 110]) fun t12 =>
 aTest t12
 (zq260_j1 t12 H K)
 (aBin .eql false t0 (.str [102, 117, 110]) fun t13 =>
 aTest t13
 (zq260_j1 t13 H K)
 (aBin .eql false t0 (.str [103, 101, 116]) fun t14 =>
 aTest t14
 (zq260_j1 t14 H K)
 (aBin .eql false t0 (.str [105, 102]) fun t15 =>
 aTest t15
 (zq260_j1 t15 H K)
 (aBin .eql false t0 (.str [105, 110]) fun t16 =>
 aTest t16
 (zq260_j1 t16 H K)
 (aBin .eql false t0 (.str [105, 110, 116]) fun t17 =>
 aTest t17
 (zq260_j1 t17 H K)
 (aBin .eql false t0 (.str [108, 101, 110]) fun t18 =>
 aTest t18
 (zq260_j1 t18 H K)
 (aBin .eql false t0 (.str [108, 101, 116]) fun t19 =>
 aTest t19
 (zq260_j1 t19 H K)
 (aBin .eql false t0 (.str [109, 97, 116, 99, 104]) fun t20 =>
 aTest t20
 (zq260_j1 t20 H K)
 (aBin .eql false t0 (.str [110, 101, 119]) fun t21 =>
 aTest t21
 (zq260_j1 t21 H K)
 (aBin .eql false t0 (.str [114, 97, 105, 115, 101]) fun t22 =>
 aTest t22
 (zq260_j1 t22 H K)
 (aBin .eql false t0 (.str [114, 101, 97, 100]) fun t23 =>
 aTest t23
 (zq260_j1 t23 H K)
 (aBin .eql false t0 (.str [114, 101, 102]) fun t24 =>
 aTest t24
 (zq260_j1 t24 H K)
 (aBin .eql false t0 (.str [115, 101, 116]) fun t25 =>
 aTest t25
 (zq260_j1 t25 H K)
 (aBin .eql false t0 (.str [116, 104, 101, 110]) fun t26 =>
 aTest t26
 (zq260_j1 t26 H K)
 (aBin .eql false t0 (.str [116, 105, 99, 107]) fun t27 =>
 aTest t27
 (zq260_j1 t27 H K)
 (aBin .eql false t0 (.str [116, 114, 117, 101]) fun t28 =>
 aTest t28
 (zq260_j1 t28 H K)
 (aBin .eql false t0 (.str [116, 114, 121]) fun t29 =>
 aTest t29
 (zq260_j1 t29 H K)
 (aBin .eql false t0 (.str [117, 110, 105, 116]) fun t30 =>
 aTest t30
 (zq260_j1 t30 H K)
 (aBin .eql false t0 (.str [119, 105, 116, 104]) fun t31 =>
 aTest t31
 (zq260_j1 t31 H K)
 (aBin .eql false t0 (.str [119, 114, 105, 116, 101]) fun t32 =>
 zq260_j1 t32 H K)))))))))))))))))))))))))))
theorem zq260_eq (t0 : AV) (H : Heap) (K : Kt) : awp Tryz.prog zq260_M zq260_c (retQ Tryz.prog zq260_r K) (t0 :: List.replicate 32 .unk) H = zq260 t0 H K := by kernel_rfl
theorem zq260_ok {t0 : AV} {H : Heap} {K : Kt} (h : HSc H → zq260 t0 H K) : ACalls Tryz.prog n_zq260 [t0] H K :=
 acalls_body (M := zq260_M) Tryz.func264 (c := zq260_c) (by kernel_rfl) (fun hs => (zq260_eq t0 H K).mpr (h hs))
def zq261_M (_ : Nat) : List Bool := []
noncomputable def zq261_c : Code := Tryz.f265.body.getD .skip
noncomputable def zq261_r : List ResultVar := Tryz.f265.results.toList
def zq261 (t0 : AV) (H : Heap) (K : Kt) : Prop :=
 aBin .geq false t0 (.int .u8 48) fun t4 =>
 aGuardJ t4 true H (fun K' => K' t0 H) fun t6 H =>
 aGuardJ t4 true H (fun K' => aBin .leq false t6 (.int .u8 57) (K' · H)) fun t7 H =>
 aPick t4 t7 (.bool false) fun t8 =>
 K t8 H
theorem zq261_eq (t0 : AV) (H : Heap) (K : Kt) : awp Tryz.prog zq261_M zq261_c (retQ Tryz.prog zq261_r K) (t0 :: List.replicate 8 .unk) H = zq261 t0 H K := by kernel_rfl
theorem zq261_ok {t0 : AV} {H : Heap} {K : Kt} (h : HSc H → zq261 t0 H K) : ACalls Tryz.prog n_zq261 [t0] H K :=
 acalls_body (M := zq261_M) Tryz.func265 (c := zq261_c) (by kernel_rfl) (fun hs => (zq261_eq t0 H K).mpr (h hs))
def zq262_M : Nat → List Bool
 | 3 => rl false [0,1,2,1,2,2,13]
 | _ => []
noncomputable def zq262_c : Code := Tryz.f266.body.getD .skip
noncomputable def zq262_r : List ResultVar := Tryz.f266.results.toList
def zq262_fr3 (t0 t3 t6 t7 : AV) : List AV := t0 :: ux 2 (t3 :: ux 2 (t6 :: t7 :: ux 13 []))
def zq262_m3 : List Bool := zq262_M 3
noncomputable def zq262_c3 : Code := codeAt [1, 1, 0, 1, 0, 0] zq262_c
def zq262_Q3 (K : Kt) : AExit → List AV → Heap → Prop := contAt Tryz.prog zq262_M [1, 1, 0, 1, 0] zq262_c (retQ Tryz.prog zq262_r K)
def zq262_l3 (t0 t3 t6 t7 : AV) (H : Heap) (K : Kt) : Prop := ALoop Tryz.prog zq262_c3 (zq262_Q3 K) (zq262_fr3 t0 t3 t6 t7) H
def zq262_b3 (t0 t3 t6 t7 : AV) (H : Heap) (K : Kt) (Kb3 : Lt) : Prop :=
 aBin .lss false t7 t6 fun t8 =>
 aTest t8
 (aBin .mul false t3 (.int .i64 10) fun t11 =>
 aIdxS t0 t7 fun t14 =>
 aBin .sub false t14 (.int .u8 48) fun t15 =>
 aConv .i64 t15 fun t16 =>
 aBin .add false t11 t16 fun t17 =>
 aBin .gtr false t17 (.int .i64 1000000) fun t19 =>
 aTest t19
 (K (.bool false) H)
 (aBin .add false t7 (.int .i64 1) fun t20 =>
 Kb3 (zq262_fr3 t0 t17 t6 t20) H))
 (K (.bool true) H)
def zq262 (t0 : AV) (H : Heap) (K : Kt) : Prop :=
 aLen 0 t0 fun t6 =>
 zq262_l3 t0 (.int .i64 0) t6 (.int .i64 0) H K
theorem zq262_b3_eq (t0 t3 t6 t7 : AV) (H : Heap) (K : Kt) (Kb3 : Lt) : awp Tryz.prog zq262_M zq262_c3 (roundQ zq262_m3 Kb3 (zq262_Q3 K)) (zq262_fr3 t0 t3 t6 t7) H = zq262_b3 t0 t3 t6 t7 H K Kb3 := by kernel_rfl
theorem zq262_loop3 {t0 t3 t6 t7 : AV} {H : Heap} {K : Kt} (Inv : Nat → AV → AV → Heap → Prop) (n : Nat) (h0 : HSc H → Inv n t3 t7 H)
  (round : ∀ n t3 t7 H', Inv n t3 t7 H' → HSc H' → H.length ≤ H'.length → (zq262_fr3 t0 t3 t6 t7).all (AV.sc H'.length) = true → ∀ Kb3 : Lt, (∀ F'' H'', (∃ n', n' < n ∧ Back H.length (fun F2 H2 => ∃ t3 t7, F2 = zq262_fr3 t0 t3 t6 t7 ∧ Inv n' t3 t7 H2) F'' H'') → Kb3 F'' H'') → zq262_b3 t0 t3 t6 t7 H' K Kb3) : zq262_l3 t0 t3 t6 t7 H K :=
 aloop (M := zq262_M) zq262_m3 (fun n F H => ∃ t3 t7, F = zq262_fr3 t0 t3 t6 t7 ∧ Inv n t3 t7 H) n (fun hs _ => ⟨t3, t7, rfl, h0 hs⟩) (fun n F H' ⟨t3, t7, hF, hI⟩ h1 h2 h3 => by subst hF; rw [zq262_b3_eq]; exact round n t3 t7 H' hI h1 h2 h3 _ (fun _ _ h => h))
theorem zq262_eq (t0 : AV) (H : Heap) (K : Kt) : awp Tryz.prog zq262_M zq262_c (retQ Tryz.prog zq262_r K) (t0 :: List.replicate 20 .unk) H = zq262 t0 H K := by kernel_rfl
theorem zq262_ok {t0 : AV} {H : Heap} {K : Kt} (h : HSc H → zq262 t0 H K) : ACalls Tryz.prog n_zq262 [t0] H K :=
 acalls_body (M := zq262_M) Tryz.func266 (c := zq262_c) (by kernel_rfl) (fun hs => (zq262_eq t0 H K).mpr (h hs))
def zq263_M (_ : Nat) : List Bool := []
noncomputable def zq263_c : Code := Tryz.f267.body.getD .skip
noncomputable def zq263_r : List ResultVar := Tryz.f267.results.toList
def zq263_j3 (t0 t16 : AV) (H : Heap) (K : Kt) : Prop :=
 aTest t16
 (aSlice 0 0 t0 none (some (.int .i64 1)) fun t31 =>
 K t31 H)
 (K (.str []) H)
def zq263_j2 (t0 : AV) (H : Heap) (K : Kt) : Prop :=
 aSlice 0 0 t0 none (some (.int .i64 1)) fun t15 =>
 aBin .eql false t15 (.str [40]) fun t17 =>
 aTest t17
 (zq263_j3 t0 t17 H K)
 (aBin .eql false t15 (.str [41]) fun t18 =>
 aTest t18
 (zq263_j3 t0 t18 H K)
 (aBin .eql false t15 (.str [44]) fun t19 =>
 aTest t19
 (zq263_j3 t0 t19 H K)
 (aBin .eql false t15 (.str [61]) fun t20 =>
 aTest t20
 (zq263_j3 t0 t20 H K)
 (aBin .eql false t15 (.str [124]) fun t21 =>
 aTest t21
 (zq263_j3 t0 t21 H K)
 (aBin .eql false t15 (.str [43]) fun t22 =>
 aTest t22
 (zq263_j3 t0 t22 H K)
 (aBin .eql false t15 (.str [45]) fun t23 =>
 aTest t23
 (zq263_j3 t0 t23 H K)
 (aBin .eql false t15 (.str [42]) fun t24 =>
 aTest t24
 (zq263_j3 t0 t24 H K)
 (aBin .eql false t15 (.str [47]) fun t25 =>
 aTest t25
 (zq263_j3 t0 t25 H K)
 (aBin .eql false t15 (.str [37]) fun t26 =>
 aTest t26
 (zq263_j3 t0 t26 H K)
 (aBin .eql false t15 (.str [60]) fun t27 =>
 aTest t27
 (zq263_j3 t0 t27 H K)
 (aBin .eql false t15 (.str [59]) fun t28 =>
 aTest t28
 (zq263_j3 t0 t28 H K)
 (aBin .eql false t15 (.str [95]) fun t29 =>
 zq263_j3 t0 t29 H K))))))))))))
def zq263_j1 (t0 t8 : AV) (H : Heap) (K : Kt) : Prop :=
 aTest t8
 (aSlice 0 0 t0 none (some (.int .i64 2)) fun t13 =>
 K t13 H)
 (zq263_j2 t0 H K)
def zq263 (t0 : AV) (H : Heap) (K : Kt) : Prop :=
 aLen 0 t0 fun t4 =>
 aBin .geq false t4 (.int .i64 2) fun t5 =>
 aTest t5
 (aSlice 0 0 t0 none (some (.int .i64 2)) fun t7 =>
 aBin .eql false t7 (.str [45, 62]) fun t9 =>
 aTest t9
 (zq263_j1 t0 t9 H K)
 (aBin .eql false t7 (.str [60, 61]) fun t10 =>
 aTest t10
 (zq263_j1 t0 t10 H K)
 (aBin .eql false t7 (.str [61, 61]) fun t11 =>
 zq263_j1 t0 t11 H K)))
 (zq263_j2 t0 H K)
theorem zq263_eq (t0 : AV) (H : Heap) (K : Kt) : awp Tryz.prog zq263_M zq263_c (retQ Tryz.prog zq263_r K) (t0 :: List.replicate 31 .unk) H = zq263 t0 H K := by kernel_rfl
theorem zq263_ok {t0 : AV} {H : Heap} {K : Kt} (h : HSc H → zq263 t0 H K) : ACalls Tryz.prog n_zq263 [t0] H K :=
 acalls_body (M := zq263_M) Tryz.func267 (c := zq263_c) (by kernel_rfl) (fun hs => (zq263_eq t0 H K).mpr (h hs))
def zq187_M (_ : Nat) : List Bool := []
noncomputable def zq187_c : Code := Tryz.f189.body.getD .skip
noncomputable def zq187_r : List ResultVar := Tryz.f189.results.toList
def zq187 (t0 : AV) (H : Heap) (K : Kt) : Prop :=
 ACalls Tryz.prog n_zq221 [t0] H fun t8 H =>
 aExt t8 0 fun t9 =>
 aExt t8 1 fun t10 =>
 aExt t8 2 fun t11 =>
 aBin .eql false t11 (.int .i64 0) fun t13 =>
 aGuardJ t13 true H (fun K' => K' t9 H) fun t15 H =>
 aGuardJ t13 true H (fun K' => aLen 1 t15 (K' · H)) fun t16 H =>
 aGuardJ t13 true H (fun K' => aBin .eql false t16 (.int .i64 2) (K' · H)) fun t17 H =>
 aPick t13 t17 (.bool false) fun t18 =>
 aGuardJ t18 true H (fun K' => K' t9 H) fun t20 H =>
 aGuardJ t18 true H (fun K' => aIdxA 3 t20 (.int .i64 0) (K' · H)) fun t21 H =>
 aGuardJ t18 true H (fun K' => aFld 0 t21 (K' · H)) fun t22 H =>
 aGuardJ t18 true H (fun K' => aLoad false 1 t22 H (K' · H)) fun t23 H =>
 aGuardJ t18 true H (fun K' => aBin .eql false t23 (.int .i64 2) (K' · H)) fun t24 H =>
 aPick t18 t24 (.bool false) fun t25 =>
 aGuardJ t25 true H (fun K' => K' t9 H) fun t27 H =>
 aGuardJ t25 true H (fun K' => aIdxA 3 t27 (.int .i64 0) (K' · H)) fun t28 H =>
 aGuardJ t25 true H (fun K' => aFld 1 t28 (K' · H)) fun t29 H =>
 aGuardJ t25 true H (fun K' => aLoad false 1 t29 H (K' · H)) fun t30 H =>
 aGuardJ t25 true H (fun K' => K' t0 H) fun t31 H =>
 aGuardJ t25 true H (fun K' => aBin .eql false t30 t31 (K' · H)) fun t32 H =>
 aPick t25 t32 (.bool false) fun t33 =>
 K t33 H
theorem zq187_eq (t0 : AV) (H : Heap) (K : Kt) : awp Tryz.prog zq187_M zq187_c (retQ Tryz.prog zq187_r K) (t0 :: List.replicate 33 .unk) H = zq187 t0 H K := by kernel_rfl
theorem zq187_ok {t0 : AV} {H : Heap} {K : Kt} (h : HSc H → zq187 t0 H K) : ACalls Tryz.prog n_zq187 [t0] H K :=
 acalls_body (M := zq187_M) Tryz.func189 (c := zq187_c) (by kernel_rfl) (fun hs => (zq187_eq t0 H K).mpr (h hs))
def zq91_M (_ : Nat) : List Bool := []
noncomputable def zq91_c : Code := Tryz.f93.body.getD .skip
noncomputable def zq91_r : List ResultVar := Tryz.f93.results.toList
def zq91 (t0 : AV) (H : Heap) (K : Kt) : Prop :=
 ACalls Tryz.prog n_zq160 [t0] H fun t8 H =>
 aExt t8 0 fun t9 =>
 aExt t8 1 fun t10 =>
 aExt t8 2 fun t11 =>
 aBin .eql false t11 (.int .i64 0) fun t13 =>
 aGuardJ t13 true H (fun K' => K' t9 H) fun t15 H =>
 aGuardJ t13 true H (fun K' => aLen 1 t15 (K' · H)) fun t16 H =>
 aGuardJ t13 true H (fun K' => aBin .eql false t16 (.int .i64 2) (K' · H)) fun t17 H =>
 aPick t13 t17 (.bool false) fun t18 =>
 aGuardJ t18 true H (fun K' => K' t9 H) fun t20 H =>
 aGuardJ t18 true H (fun K' => aIdxA 3 t20 (.int .i64 0) (K' · H)) fun t21 H =>
 aGuardJ t18 true H (fun K' => aFld 0 t21 (K' · H)) fun t22 H =>
 aGuardJ t18 true H (fun K' => aLoad false 1 t22 H (K' · H)) fun t23 H =>
 aGuardJ t18 true H (fun K' => aBin .eql false t23 (.int .i64 2) (K' · H)) fun t24 H =>
 aPick t18 t24 (.bool false) fun t25 =>
 aGuardJ t25 true H (fun K' => K' t9 H) fun t27 H =>
 aGuardJ t25 true H (fun K' => aIdxA 3 t27 (.int .i64 0) (K' · H)) fun t28 H =>
 aGuardJ t25 true H (fun K' => aFld 1 t28 (K' · H)) fun t29 H =>
 aGuardJ t25 true H (fun K' => aLoad false 1 t29 H (K' · H)) fun t30 H =>
 aGuardJ t25 true H (fun K' => K' t0 H) fun t31 H =>
 aGuardJ t25 true H (fun K' => aBin .eql false t30 t31 (K' · H)) fun t32 H =>
 aPick t25 t32 (.bool false) fun t33 =>
 K t33 H
theorem zq91_eq (t0 : AV) (H : Heap) (K : Kt) : awp Tryz.prog zq91_M zq91_c (retQ Tryz.prog zq91_r K) (t0 :: List.replicate 33 .unk) H = zq91 t0 H K := by kernel_rfl
theorem zq91_ok {t0 : AV} {H : Heap} {K : Kt} (h : HSc H → zq91 t0 H K) : ACalls Tryz.prog n_zq91 [t0] H K :=
 acalls_body (M := zq91_M) Tryz.func93 (c := zq91_c) (by kernel_rfl) (fun hs => (zq91_eq t0 H K).mpr (h hs))
end Go.Proofs.YtfpmdpldabopjaaGreatDoor
namespace Go.Proofs.YtfpmdpldabopjaaGreatDoor
open Go Go.Abs
def kwds : List (List UInt8) := [[97, 114, 114, 97, 121], [98, 111, 111, 108], [99, 97, 116, 99, 104], [100, 97, 116, 97], [101, 108, 115, 101], [101, 110, 100], [102, 97, 108, 115, 101], [102, 110], [102, 117, 110], [103, 101, 116], [105, 102], [105, 110], [105, 110, 116], [108, 101, 110], [108, 101, 116], [109, 97, 116, 99, 104], [110, 101, 119], [114, 97, 105, 115, 101], [114, 101, 97, 100], [114, 101, 102], [115, 101, 116], [116, 104, 101, 110], [116, 105, 99, 107], [116, 114, 117, 101], [116, 114, 121], [117, 110, 105, 116], [119, 105, 116, 104], [119, 114, 105, 116, 101]]
def kwF (ws : List (List UInt8)) (s : List UInt8) : Bool := ws.any (s == ·)
theorem outHere {H : Heap} {K : AV → Heap → Prop} {r : AV} (hsc : HSc H) (hv : r.isV = true) (hr : r.scV H.length = true) (h : K r H) : Out H.length K r H := by
 have := Out.same (J := []) rfl hsc hv hr h
 simpa using this
theorem u8_eq (b c : UInt8) : ((b.toNat : Int) == (c.toNat : Int)) = (b == c) := by
 rw [Bool.eq_iff_iff]
 simp only [beq_iff_eq]
 constructor
 ·intro h; exact UInt8.toNat_inj.mp (by omega)
 ·rintro rfl; rfl
theorem low43 (b : UInt8) (H : Heap) (K : AV → Heap → Prop) (hK : K (.bool (bLow b)) H) : ACalls Tryz.prog n_zq197 [.int .u8 b.toNat] H K := by
 refine ACalls.out (zq197_ok fun hs => ?_)
 have hO := outHere (K := K) (H := H) (r := .bool (bLow b)) hs rfl rfl hK
 unfold bLow at hO
 cases h1 : decide (97 ≤ (b.toNat : Int)) <;> simp [zq197, h1] <;> simpa [h1] using hO
theorem up44 (b : UInt8) (H : Heap) (K : AV → Heap → Prop) (hK : K (.bool (bUp b)) H) : ACalls Tryz.prog n_zq198 [.int .u8 b.toNat] H K := by
 refine ACalls.out (zq198_ok fun hs => ?_)
 have hO := outHere (K := K) (H := H) (r := .bool (bUp b)) hs rfl rfl hK
 unfold bUp at hO
 cases h1 : decide (65 ≤ (b.toNat : Int)) <;> simp [zq198, h1] <;> simpa [h1] using hO
theorem dig45 (b : UInt8) (H : Heap) (K : AV → Heap → Prop) (hK : K (.bool (bDig b)) H) : ACalls Tryz.prog n_zq199 [.int .u8 b.toNat] H K := by
 refine ACalls.out (zq199_ok fun hs => ?_)
 have hO := outHere (K := K) (H := H) (r := .bool (bDig b)) hs rfl rfl hK
 unfold bDig at hO
 cases h1 : decide (48 ≤ (b.toNat : Int)) <;> simp [zq199, h1] <;> simpa [h1] using hO
theorem low50 (b : UInt8) (H : Heap) (K : AV → Heap → Prop) (hK : K (.bool (bLow b)) H) : ACalls Tryz.prog n_zq256 [.int .u8 b.toNat] H K := by
 refine ACalls.out (zq256_ok fun hs => ?_)
 have hO := outHere (K := K) (H := H) (r := .bool (bLow b)) hs rfl rfl hK
 unfold bLow at hO
 cases h1 : decide (97 ≤ (b.toNat : Int)) <;> simp [zq256, h1] <;> simpa [h1] using hO
theorem up51 (b : UInt8) (H : Heap) (K : AV → Heap → Prop) (hK : K (.bool (bUp b)) H) : ACalls Tryz.prog n_zq257 [.int .u8 b.toNat] H K := by
 refine ACalls.out (zq257_ok fun hs => ?_)
 have hO := outHere (K := K) (H := H) (r := .bool (bUp b)) hs rfl rfl hK
 unfold bUp at hO
 cases h1 : decide (65 ≤ (b.toNat : Int)) <;> simp [zq257, h1] <;> simpa [h1] using hO
theorem dig54 (b : UInt8) (H : Heap) (K : AV → Heap → Prop) (hK : K (.bool (bDig b)) H) : ACalls Tryz.prog n_zq261 [.int .u8 b.toNat] H K := by
 refine ACalls.out (zq261_ok fun hs => ?_)
 have hO := outHere (K := K) (H := H) (r := .bool (bDig b)) hs rfl rfl hK
 unfold bDig at hO
 cases h1 : decide (48 ≤ (b.toNat : Int)) <;> simp [zq261, h1] <;> simpa [h1] using hO
theorem blank41 (b : UInt8) (H : Heap) (K : AV → Heap → Prop) (hK : K (.bool (bBlank b)) H) : ACalls Tryz.prog n_zq245 [.int .u8 b.toNat] H K := by
 refine ACalls.out (zq245_ok fun hs => ?_)
 have hO := outHere (K := K) (H := H) (r := .bool (bBlank b)) hs rfl rfl hK
 unfold bBlank at hO
 have e1 : ((b.toNat : Int) == 9) = (b == 9) := u8_eq b 9
 have e2 : ((b.toNat : Int) == 10) = (b == 10) := u8_eq b 10
 have e3 : ((b.toNat : Int) == 13) = (b == 13) := u8_eq b 13
 have e4 : ((b.toNat : Int) == 32) = (b == 32) := u8_eq b 32
 cases h1 : (b == 9) <;> cases h2 : (b == 10) <;> cases h3 : (b == 13) <;> simp [zq245, e1, e2, e3, e4, h1, h2, h3] <;> simpa [h1, h2, h3] using hO
theorem within53 (b : UInt8) (H : Heap) (K : AV → Heap → Prop) (hK : K (.bool (bIn b)) H) : ACalls Tryz.prog n_zq259 [.int .u8 b.toNat] H K := by
 refine ACalls.out (zq259_ok fun hs => ?_)
 have hO := outHere (K := K) (H := H) (r := .bool (bIn b)) hs rfl rfl hK
 unfold bIn at hO
 have e1 : ((b.toNat : Int) == 95) = (b == 95) := u8_eq b 95
 unfold zq259
 refine low50 b _ _ ?_
 cases h1 : bLow b with
 | true => simp; simpa [h1] using hO
 | false =>
  simp
  refine up51 b _ _ ?_
  cases h2 : bUp b with
  | true => simp; simpa [h1, h2] using hO
  | false =>
   simp
   refine dig54 b _ _ ?_
   cases h3 : bDig b with
   | true => simp; simpa [h1, h2, h3] using hO
   | false => simp [e1]; simpa [h1, h2, h3] using hO
theorem kw11 (s : List UInt8) (H : Heap) (K : AV → Heap → Prop) (hK : K (.bool (kwF kwds s)) H) : ACalls Tryz.prog n_zq260 [.str s] H K := by
 refine ACalls.out (zq260_ok fun hs => ?_)
 have hO := outHere (K := K) (H := H) (r := .bool (kwF kwds s)) hs rfl rfl hK
 have step : ∀ (w : List UInt8) (ws : List (List UInt8)) (rest : Prop), (Out H.length K (.bool (kwF ws s)) H → rest) → Out H.length K (.bool (kwF (w :: ws) s)) H →
   aBin .eql false (.str s) (.str w) fun t => aTest t (zq260_j1 t H (Out H.length K)) rest := by
  intro w ws rest h h'
  simp only [kwF, List.any_cons] at h h'
  cases e : (s == w) with
  | true => simpa [zq260_j1, e] using h'
  | false => rw [e, Bool.false_or] at h'; simpa [zq260_j1, e] using h h'
 unfold zq260
 revert hO
 unfold kwds
 iterate 27 refine step _ _ _ ?_
 intro h'
 simp only [kwF, List.any_cons, List.any_nil, Bool.or_false] at h'
 cases e : (s == [119, 114, 105, 116, 101]) <;> rw [e] at h' <;> simpa [zq260_j1, e] using h'
theorem kw12 (s : List UInt8) (H : Heap) (K : AV → Heap → Prop) (hK : K (.bool (kwF kwds s)) H) : ACalls Tryz.prog n_zq200 [.str s] H K := by
 refine ACalls.out (zq200_ok fun hs => ?_)
 have hO := outHere (K := K) (H := H) (r := .bool (kwF kwds s)) hs rfl rfl hK
 have e : zq200 (.str s) H (Out H.length K) = zq200_l3 (.str s) (.sl (kwds.map fun w => [.str w]) .full) (.int .i64 0) H (Out H.length K) := rfl
 rw [e]
 have hlen : kwds.length = 28 := rfl
 generalize kwds = ws at *
 refine zq200_loop3 (Inv := fun q t4 H' => ∃ i : Nat, i ≤ ws.length ∧ q = ws.length - i ∧ t4 = .int .i64 i ∧ kwF (ws.drop i) s = kwF ws s ∧ H' = H) ws.length ?_ ?_
 ·intro _; exact ⟨0, by omega, by omega, rfl, by simp, rfl⟩
 ·rintro q t8 H' ⟨i, hi, rfl, rfl, ho, rfl⟩ hsc _ hsF Kb hKb
  by_cases hlt : i < ws.length
  ·rw [List.drop_eq_getElem_cons hlt] at ho
   simp only [kwF, List.any_cons] at ho
   cases hz : (ws[i] == s) with
   | true =>
    have hz' : (s == ws[i]) = true := by rw [beq_iff_eq] at hz ⊢; exact hz.symm
    rw [hz', Bool.true_or] at ho
    simp [zq200_b3, hlt, hz]
    unfold kwF at hO
    rw [← ho] at hO
    exact hO
   | false =>
    have hz' : (s == ws[i]) = false := by rw [beq_eq_false_iff_ne] at hz ⊢; exact fun h => hz h.symm
    rw [hz', Bool.false_or] at ho
    simp [zq200_b3, hlt, hz]
    rw [wrap_in (by omega) (by omega)]
    refine hKb _ _ ⟨ws.length - (i + 1), by omega, Back.here (Nat.le_refl _) hs ?_ ⟨_, rfl, i + 1, by omega, rfl, by simp, ho, rfl⟩⟩
    simp [zq200_fr3, AV.sc, AV.scV, AV.scA, AV.scB]
  ·simp [zq200_b3, hlt]
   obtain rfl : i = ws.length := by omega
   rw [List.drop_length] at ho
   rw [← ho] at hO
   exact hO
theorem bDig_rng {b : UInt8} (h : bDig b = true) : 48 ≤ (b.toNat : Int) ∧ (b.toNat : Int) ≤ 57 := by simpa [bDig] using h
theorem small55 (s : List UInt8) (hd : ∀ b ∈ s, bDig b = true) (hl : s.length ≤ 1000000) (H : Heap) (K : AV → Heap → Prop) (hK : K (.bool (smallF s 0)) H) : ACalls Tryz.prog n_zq262 [.str s] H K := by
 refine ACalls.out (zq262_ok fun hs => ?_)
 have hO := outHere (K := K) (H := H) (r := .bool (smallF s 0)) hs rfl rfl hK
 simp [zq262]
 refine zq262_loop3 (Inv := fun q t3 t7 H' => ∃ (i : Nat) (n : Int), i ≤ s.length ∧ q = s.length - i ∧ t7 = .int .i64 i ∧ t3 = .int .i64 n ∧ 0 ≤ n ∧ n ≤ 1000000 ∧ smallF (s.drop i) n = smallF s 0 ∧ H' = H) s.length ?_ ?_
 ·intro _; exact ⟨0, 0, by omega, by omega, rfl, rfl, by omega, by omega, by simp, rfl⟩
 ·rintro q t3 t7 H' ⟨i, n, hi, rfl, rfl, rfl, hn0, hn1, ho, rfl⟩ hsc _ hsF Kb hKb
  by_cases hlt : i < s.length
  ·have hb := bDig_rng (hd s[i] (List.getElem_mem hlt))
   rw [List.drop_eq_getElem_cons hlt, smallF] at ho
   simp [zq262_b3, hlt]
   rw [IntWalk.u8_in _ (by omega), wrap_in (n := n * 10) (by omega) (by omega), wrap_in (n := (s[i].toNat : Int) - 48) (by omega) (by omega), wrap_in (by omega) (by omega), wrap_in (by omega) (by omega)]
   by_cases hg : 1000000 < n * 10 + ((s[i].toNat : Int) - 48)
   ·rw [if_pos hg] at ho
    have hg' : decide (1000000 < n * 10 + ((s[i].toNat : Int) - 48)) = true := by simpa using hg
    rw [← ho] at hO
    rw [hg']
    simpa using hO
   ·rw [if_neg hg] at ho
    have hg' : decide (1000000 < n * 10 + ((s[i].toNat : Int) - 48)) = false := by simpa using hg
    rw [hg']
    simp only [aTest_bool, Bool.false_eq_true, if_false]
    refine hKb _ _ ⟨s.length - (i + 1), by omega, Back.here (Nat.le_refl _) hs ?_ ⟨_, _, rfl, i + 1, _, by omega, rfl, by simp, rfl, by omega, by omega, ho, rfl⟩⟩
    simp [zq262_fr3, AV.sc, AV.scV, AV.scA, AV.scB]
  ·simp [zq262_b3, hlt]
   obtain rfl : i = s.length := by omega
   rw [List.drop_length, smallF] at ho
   rw [← ho] at hO
   exact hO
theorem prefix52 (cl : UInt8 → Bool) (f : FuncId) (hcl : callable Tryz.prog f = true) (hf : ∀ (b : UInt8) (H : Heap) (K : AV → Heap → Prop), K (.bool (cl b)) H → ACalls Tryz.prog f [.int .u8 b.toNat] H K)
  (s : List UInt8) (hl : s.length ≤ 1000000) (H : Heap) (K : AV → Heap → Prop) (hK : K (.str (s.takeWhile cl)) H) : ACalls Tryz.prog n_zq258 [.str s, .fn f []] H K := by
 refine ACalls.out (zq258_ok fun hs => ?_)
 have hO := outHere (K := K) (H := H) (r := .str (s.takeWhile cl)) hs rfl rfl hK
 simp [zq258]
 refine zq258_loop2 (Inv := fun q t5 H' => ∃ i : Nat, i ≤ s.length ∧ q = s.length - i ∧ t5 = .int .i64 i ∧ s.take i ++ (s.drop i).takeWhile cl = s.takeWhile cl ∧ H' = H) s.length ?_ ?_
 ·intro _; exact ⟨0, by omega, by omega, rfl, by simp, rfl⟩
 ·rintro q t5 H' ⟨i, hi, rfl, rfl, ho, rfl⟩ hsc _ hsF Kb hKb
  by_cases hlt : i < s.length
  ·rw [List.drop_eq_getElem_cons hlt, List.takeWhile_cons] at ho
   simp [zq258_b2, hlt]
   simp only [aCallV, hcl, List.append_nil]
   refine hf _ _ _ ?_
   cases hc : cl s[i] with
   | true =>
    rw [hc, if_pos rfl, List.append_cons, ← List.take_succ_eq_append_getElem hlt] at ho
    simp
    rw [wrap_in (by omega) (by omega)]
    refine hKb _ _ ⟨s.length - (i + 1), by omega, Back.here (Nat.le_refl _) hs ?_ ⟨_, rfl, i + 1, by omega, rfl, by simp, ho, rfl⟩⟩
    simp [zq258_fr2, AV.sc, AV.scV, AV.scA, AV.scB]
   | false =>
    rw [hc, if_neg (by simp), List.append_nil] at ho
    rw [← ho] at hO
    simp [hi]
    exact hO
  ·simp [zq258_b2, hlt]
   obtain rfl : i = s.length := by omega
   rw [List.drop_length, List.takeWhile_nil, List.append_nil, List.take_length] at ho
   rw [← ho] at hO
   simpa using hO
theorem value46 (s : List UInt8) (hd : ∀ b ∈ s, bDig b = true) (hl : s.length ≤ 1000000) (H : Heap) (K : AV → Heap → Prop) (hK : ∀ n, K (.tup [.int .i64 n, .bool (smallF s 0)]) H) : ACalls Tryz.prog n_zq201 [.str s] H K := by
 refine ACalls.out (zq201_ok fun hs => ?_)
 have hO : ∀ n, Out H.length K (.tup [.int .i64 n, .bool (smallF s 0)]) H := fun n => Out.tup0 hs (hK n) ⟨keepV rfl rfl, keepV rfl rfl, trivial⟩
 simp only [zq201]
 refine zq201_loop3 (Inv := fun q t3 t7 H' => ∃ (i : Nat) (n : Int), i ≤ s.length ∧ q = s.length - i ∧ t7 = .int .i64 i ∧ t3 = .int .i64 n ∧ 0 ≤ n ∧ n ≤ 1000000 ∧ smallF (s.drop i) n = smallF s 0 ∧ H' = H) s.length ?_ ?_
 ·intro _; exact ⟨0, 0, by omega, by omega, rfl, rfl, by omega, by omega, by simp, rfl⟩
 ·rintro q t3 t7 H' ⟨i, n, hi, rfl, rfl, rfl, hn0, hn1, ho, rfl⟩ hsc _ hsF Kb hKb
  by_cases hlt : i < s.length
  ·have hb := bDig_rng (hd s[i] (List.getElem_mem hlt))
   rw [List.drop_eq_getElem_cons hlt, smallF] at ho
   simp [zq201_b3, hlt]
   rw [IntWalk.u8_in _ (by omega), wrap_in (n := n * 10) (by omega) (by omega), wrap_in (n := (s[i].toNat : Int) - 48) (by omega) (by omega), wrap_in (by omega) (by omega), wrap_in (by omega) (by omega)]
   by_cases hg : 1000000 < n * 10 + ((s[i].toNat : Int) - 48)
   ·rw [if_pos hg] at ho
    have hg' : decide (1000000 < n * 10 + ((s[i].toNat : Int) - 48)) = true := by simpa using hg
    rw [← ho] at hO
    rw [hg']
    simpa [AV.isV] using hO 0
   ·rw [if_neg hg] at ho
    have hg' : decide (1000000 < n * 10 + ((s[i].toNat : Int) - 48)) = false := by simpa using hg
    rw [hg']
    simp only [aTest_bool, Bool.false_eq_true, if_false]
    refine hKb _ _ ⟨s.length - (i + 1), by omega, Back.here (Nat.le_refl _) hs ?_ ⟨_, _, rfl, i + 1, _, by omega, rfl, by simp, rfl, by omega, by omega, ho, rfl⟩⟩
    simp [zq201_fr3, AV.sc, AV.scV, AV.scA, AV.scB]
  ·simp [zq201_b3, hlt, AV.isV]
   obtain rfl : i = s.length := by omega
   rw [List.drop_length, smallF] at ho
   rw [← ho] at hO
   exact hO n
theorem take1 (b : UInt8) (r : List UInt8) : (b :: r).take 1 = [b] := by simp
theorem sgn2_short {s : List UInt8} (h : ¬ 2 ≤ s.length) : sgn2 s = false := by
 match s, h with
 | [], _ => rfl
 | [b], _ => simp [sgn2]
 | _ :: _ :: _, h => simp at h
theorem sgn_cons (b : UInt8) (r : List UInt8) (h : sgn2 (b :: r) = false) : sgn (b :: r) = if sgns.contains b = true then 1 else 0 := by simp [sgn, h]
theorem sign56 (b : UInt8) (r : List UInt8) (H : Heap) (K : AV → Heap → Prop) (hK : K (.str ((b :: r).take (sgn (b :: r)))) H) : ACalls Tryz.prog n_zq263 [.str (b :: r)] H K := by
 refine ACalls.out (zq263_ok fun hs => ?_)
 have hO := outHere (K := K) (H := H) (r := .str ((b :: r).take (sgn (b :: r)))) hs rfl rfl hK
 have one : sgn2 (b :: r) = false → zq263_j2 (.str (b :: r)) H (Out H.length K) := by
  intro h2
  rw [sgn_cons b r h2] at hO
  have hO : Out H.length K (.str (if sgns.contains b = true then [b] else [])) H := by
   cases hc : sgns.contains b <;> rw [hc] at hO <;> simpa using hO
  have step : ∀ (c : UInt8) (cs : List UInt8) (rest : Prop), (Out H.length K (.str (if cs.contains b = true then [b] else [])) H → rest) → Out H.length K (.str (if (c :: cs).contains b = true then [b] else [])) H →
    aBin .eql false (.str [b]) (.str [c]) fun t => aTest t (zq263_j3 (.str (b :: r)) t H (Out H.length K)) rest := by
   intro c cs rest h h'
   rw [List.contains_cons] at h'
   cases e : (b == c) with
   | true => rw [e] at h'; simpa [zq263_j3, e] using h'
   | false =>
    rw [e, Bool.false_or] at h'
    simpa [zq263_j3, e] using h h'
  unfold zq263_j2
  simp only [aSlice_str, aBound_none, aBound_int, Int.toNat_one, take1, List.drop_zero]
  refine ⟨by decide, ⟨by omega, by simp⟩, ?_⟩
  revert hO
  unfold sgns
  iterate 12 refine step _ _ _ ?_
  intro h'
  rw [List.contains_cons] at h'
  cases e : (b == 95) <;> rw [e] at h' <;> simpa [zq263_j3, e] using h'
 by_cases hl : 2 ≤ (b :: r).length
 ·have hl' : (2 : Int) ≤ r.length + 1 := by simp only [List.length_cons] at hl; omega
  have hl2 : 1 ≤ r.length := by simp only [List.length_cons] at hl; omega
  cases h2 : sgn2 (b :: r) with
  | true =>
   have h3 : sgn (b :: r) = 2 := by simp [sgn, h2]
   rw [h3] at hO
   unfold sgn2 at h2
   simp only [List.take_succ_cons] at h2 hO
   cases e1 : (b :: List.take 1 r == [45, 62]) with
   | true => simpa [zq263, hl', hl2, zq263_j1, e1] using hO
   | false =>
    cases e2 : (b :: List.take 1 r == [60, 61]) with
    | true => simpa [zq263, hl', hl2, zq263_j1, e1, e2] using hO
    | false =>
     rw [e1, e2] at h2
     simp only [Bool.false_or] at h2
     simpa [zq263, hl', hl2, zq263_j1, e1, e2, h2] using hO
  | false =>
   have ho := one h2
   unfold sgn2 at h2
   simp only [List.take_succ_cons] at h2
   rw [Bool.or_eq_false_iff, Bool.or_eq_false_iff] at h2
   simpa [zq263, hl', hl2, zq263_j1, h2.1.1, h2.1.2, h2.2] using ho
 ·have ho := one (sgn2_short hl)
  have : ¬ ((2 : Int) ≤ r.length + 1) := by simp only [List.length_cons] at hl; omega
  simpa [zq263, this] using ho
end Go.Proofs.YtfpmdpldabopjaaGreatDoor
namespace Go.Proofs.YtfpmdpldabopjaaGreatDoor
open Go Go.Abs
set_option maxRecDepth 4000
theorem sign47 (b : UInt8) (r : List UInt8) (H : Heap) (K : AV → Heap → Prop) (hK : K (.int .i64 (sgn (b :: r))) H) : ACalls Tryz.prog n_zq202 [.str (b :: r)] H K := by
 refine ACalls.out (zq202_ok fun hs => ?_)
 have hO := outHere (K := K) (H := H) (r := .int .i64 (sgn (b :: r))) hs rfl rfl hK
 have one : sgn2 (b :: r) = false → zq202_l5 (.str (b :: r)) (.str sgns) (.int .i64 0) H (Out H.length K) := by
  intro h2
  rw [sgn_cons b r h2] at hO
  have hlen : sgns.length = 13 := rfl
  generalize sgns = ws at *
  refine zq202_loop5 (Inv := fun q t4 H' => ∃ i : Nat, i ≤ ws.length ∧ q = ws.length - i ∧ t4 = .int .i64 i ∧ (ws.drop i).contains b = ws.contains b ∧ H' = H) ws.length ?_ ?_
  ·intro _; exact ⟨0, by omega, by omega, rfl, by simp, rfl⟩
  ·rintro q t8 H' ⟨i, hi, rfl, rfl, ho, rfl⟩ hsc _ hsF Kb hKb
   by_cases hlt : i < ws.length
   ·rw [List.drop_eq_getElem_cons hlt, List.contains_cons] at ho
    have e1 := u8_eq b ws[i]
    cases hz : (b == ws[i]) with
    | true =>
     rw [hz, Bool.true_or] at ho
     rw [← ho] at hO
     simpa [zq202_b5, hlt, e1, hz] using hO
    | false =>
     rw [hz, Bool.false_or] at ho
     simp [zq202_b5, hlt, e1, hz]
     rw [wrap_in (by omega) (by omega)]
     refine hKb _ _ ⟨ws.length - (i + 1), by omega, Back.here (Nat.le_refl _) hs ?_ ⟨_, rfl, i + 1, by omega, rfl, by simp, ho, rfl⟩⟩
     simp [zq202_fr5, AV.sc, AV.scV, AV.scA, AV.scB]
   ·obtain rfl : i = ws.length := by omega
    rw [List.drop_length] at ho
    rw [← ho] at hO
    simpa [zq202_b5, hlt] using hO
 by_cases hl : 2 ≤ (b :: r).length
 ·have hl' : (2 : Int) ≤ r.length + 1 := by simp only [List.length_cons] at hl; omega
  have hl2 : 1 ≤ r.length := by simp only [List.length_cons] at hl; omega
  cases h2 : sgn2 (b :: r) with
  | true =>
   have h3 : sgn (b :: r) = 2 := by simp [sgn, h2]
   rw [h3] at hO
   unfold sgn2 at h2
   simp only [List.take_succ_cons] at h2 hO
   cases e1 : (b :: List.take 1 r == [45, 62]) with
   | true => simpa [zq202, hl', hl2, e1] using hO
   | false =>
    cases e2 : (b :: List.take 1 r == [60, 61]) with
    | true => simpa [zq202, hl', hl2, e1, e2] using hO
    | false =>
     rw [e1, e2] at h2
     simp only [Bool.false_or] at h2
     simpa [zq202, hl', hl2, e1, e2, h2] using hO
  | false =>
   have ho := one h2
   unfold sgns at ho
   unfold sgn2 at h2
   simp only [List.take_succ_cons] at h2
   rw [Bool.or_eq_false_iff, Bool.or_eq_false_iff] at h2
   simpa [zq202, hl', hl2, h2.1.1, h2.1.2, h2.2] using ho
 ·have ho := one (sgn2_short hl)
  unfold sgns at ho
  have : ¬ ((2 : Int) ≤ r.length + 1) := by simp only [List.length_cons] at hl; omega
  simpa [zq202, this] using ho

def Tk.cs (t : Tk) : List AV := [.int .i64 t.kind, .str t.text, .int .i64 t.pos]
def scanR (kw : List UInt8 → Bool) (b : UInt8) (r : List UInt8) (i : Nat) : AV :=
 match tok kw b r with
 | .error e => .tup [.agg [.int .i64 0, .str [], .int .i64 0], .int .i64 e]
 | .ok (k, n) => .tup [.agg (Tk.cs ⟨k, (b :: r).take n, i⟩), .int .i64 0]
theorem take_takeWhile {p : UInt8 → Bool} (b : UInt8) (r : List UInt8) : (b :: r).take ((r.takeWhile p).length + 1) = b :: r.takeWhile p := by
 rw [List.take_succ_cons]
 congr 1
 induction r with
 | nil => simp
 | cons c r ih => by_cases h : p c = true <;> simp [h, ih]
theorem kw53 : callable Tryz.prog n_zq259 = true := by kernel_rfl
theorem kw54 : callable Tryz.prog n_zq261 = true := by kernel_rfl
theorem outScan {H J : Heap} {K : AV → Heap → Prop} {k p e : Int} {t : List UInt8} (hs : HSc H) (h : K (.tup [.agg [.int .i64 k, .str t, .int .i64 p], .int .i64 e]) H) :
  Out H.length K (.tup [.agg [.int .i64 k, .str t, .int .i64 p], .int .i64 e]) (H ++ J) := Out.tup hs h ⟨keepV rfl rfl, keepV rfl rfl, trivial⟩
def zq246_d (t4 t6 : AV) (H : Heap) (K : AV → Heap → Prop) : Prop :=
 aFld 1 t6 fun t69 =>
 aLoad false 1 t69 H fun t70 =>
 ACalls Tryz.prog n_zq262 [t70] H fun t71 H =>
 aUn .not t71 fun t72 =>
 aTest t72
 (aBuild [(.int .i64 0), (.str []), (.int .i64 0)] [(0, 1), (1, 1), (2, 1)] [] fun t73 =>
 aStore 3 t4 t73 H fun H =>
 aLoad true 3 t4 H fun r0 =>
 aRet [r0, (.int .i64 9)] (K · H))
 (zq246_j2 t4 t6 H K)
theorem scan42 (s : List UInt8) (hl : s.length ≤ 1000000) (i : Nat) (hi : i < s.length) (H : Heap) (K : AV → Heap → Prop) (hK : K (scanR (kwF kwds) s[i] (s.drop (i + 1)) i) H) : ACalls Tryz.prog n_zq246 [.str s, .int .i64 i] H K := by
 refine ACalls.out (zq246_ok fun hs => ?_)
 have hdr := List.drop_eq_getElem_cons hi
 have hrl : (s.drop i).length ≤ 1000000 := by simp; omega
 generalize hb : s[i] = b at *
 generalize hr : s.drop (i + 1) = r at *
 have hb' : s[i]?.getD 0 = b := by simp [hi, hb]
 have post : ∀ (k : Int) (n : Nat), tok (kwF kwds) b r = .ok (k, n) → ∀ t, (b :: r).take n = t → zq246_j2 (.ptr H.length 0) (.ptr (H.length + 1) 0) (H ++ [.cells [.int .i64 0, .str [], .int .i64 0], .cells [.int .i64 k, .str t, .int .i64 i]]) (Out H.length K) := by
  intro k n ht t hte
  subst hte
  simp [scanR, ht, Tk.cs] at hK
  simp [zq246_j2, zq246_j3, AV.known, AV.isV]
  exact outScan hs hK
 have bad : ∀ e : Int, tok (kwF kwds) b r = .error e → ∀ J, Out H.length K (.tup [.agg [.int .i64 0, .str [], .int .i64 0], .int .i64 e]) (H ++ J) := by
  intro e ht J
  simp [scanR, ht] at hK
  exact outScan hs hK
 have hi' := Nat.le_of_lt hi
 by_cases hLU : (bLow b || bUp b) = true
 ·have hin : bIn b = true := by simp [bIn, hLU]
  simp [zq246, hi, hb, hi', aBuild, fillA, AV.known]
  refine low50 b _ _ ?_
  have hc : bLow b = true ∨ (bLow b = false ∧ bUp b = true) := by cases hL : bLow b <;> simp [hL] at hLU ⊢; exact hLU
  have hpost := fun k => post k ((r.takeWhile bIn).length + 1)
  simp only [tok, hLU, if_true, take_takeWhile] at hpost
  rcases hc with hL | ⟨hL, hU⟩
  case' inl => simp [hL]
  case' inr => simp [hL]; refine up51 b _ _ ?_; simp [hU]
  all_goals
   rw [hdr]
   refine prefix52 bIn n_zq259 kw53 within53 (b :: r) (by rw [← hdr]; exact hrl) _ _ ?_
   simp [hin, AV.known]
   by_cases hn : (r.takeWhile bIn).length + 1 > 24
   ·have hn' : (24 : Int) < (r.takeWhile bIn).length + 1 := by omega
    have := bad 9 (by simp only [tok, hLU, if_true]; rw [if_pos hn])
    simp [hn', AV.known, AV.isV]
    exact this _
   ·have hn' : ¬ (24 : Int) < (r.takeWhile bIn).length + 1 := by omega
    simp [hn']
    refine up51 b _ _ ?_
    rw [if_neg hn] at hpost
    cases hU : bUp b with
    | true =>
     simp [AV.known, zq246_j1]
     exact hpost 2 (by simp [hU]) _ rfl
    | false =>
     simp [AV.known]
     refine kw11 _ _ _ ?_
     cases hkw : kwF kwds (b :: r.takeWhile bIn) with
     | true =>
      simp [AV.known, zq246_j1]
      exact hpost 4 (by simp [hU, hkw]) _ rfl
     | false =>
      simp [AV.known, zq246_j1]
      exact hpost 1 (by simp [hU, hkw]) _ rfl
 ·have hL : bLow b = false := by simp at hLU; exact hLU.1
  have hU : bUp b = false := by simp at hLU; exact hLU.2
  simp [zq246, hi, hb, aBuild, fillA, AV.known]
  refine low50 b _ _ ?_
  simp [hL]
  refine up51 b _ _ ?_
  simp [hU]
  refine dig54 b _ _ ?_
  cases hD : bDig b with
  | true =>
   simp [hi', AV.known]
   rw [hdr]
   refine prefix52 bDig n_zq261 kw54 dig54 (b :: r) (by rw [← hdr]; exact hrl) _ _ ?_
   have e1 : ((b.toNat : Int) == 48) = (b == 48) := u8_eq b 48
   have htk : tok (kwF kwds) b r = if (b == 48 && decide ((r.takeWhile bDig).length + 1 > 1)) = true then .error 2 else if smallF (b :: r.takeWhile bDig) 0 = true then .ok (3, (r.takeWhile bDig).length + 1) else .error 9 := by
    simp only [tok, hLU, hD, if_true, take_takeWhile]
    rfl
   have hsm : ∀ J, ACalls Tryz.prog n_zq262 [.str (b :: r.takeWhile bDig)] (H ++ J) fun t H' => t = .bool (smallF (b :: r.takeWhile bDig) 0) ∧ H' = H ++ J := by
    intro J
    refine small55 _ ?_ ?_ _ _ ⟨rfl, rfl⟩
    ·intro c hc
     rcases List.mem_cons.1 hc with rfl | hc
     ·exact hD
     ·exact List.all_eq_true.1 (List.all_takeWhile) c hc
    ·have h1 : (r.takeWhile bDig).length ≤ r.length := (List.takeWhile_sublist _).length_le
     rw [hdr] at hrl
     simp at hrl ⊢
     omega
   simp [hD, AV.known, e1]
   have hpost := post 3 ((r.takeWhile bDig).length + 1)
   rw [take_takeWhile] at hpost
   rw [htk] at hpost bad
   have last : ∀ J, (¬ (b == 48 && decide ((r.takeWhile bDig).length + 1 > 1)) = true) → J = [.cells [.int .i64 0, .str [], .int .i64 0], .cells [.int .i64 3, .str (b :: r.takeWhile bDig), .int .i64 i]] → zq246_d (.ptr H.length 0) (.ptr (H.length + 1) 0) (H ++ J) (Out H.length K) := by
    rintro J hne rfl
    rw [if_neg hne] at hpost bad
    simp [zq246_d]
    refine (hsm _).mono ?_
    rintro _ _ ⟨rfl, rfl⟩
    cases hv : smallF (b :: r.takeWhile bDig) 0 with
    | true =>
     simp
     exact hpost (by simp [hv]) _ rfl
    | false =>
     simp [AV.known, aBuild, fillA, AV.isV]
     exact bad 9 (by simp [hv]) _
   cases hz : (b == 48) with
   | true =>
    simp [hz]
    by_cases hn : 1 < (r.takeWhile bDig).length + 1
    ·have hn' : (1 : Int) < (r.takeWhile bDig).length + 1 := by omega
     have hd : decide ((r.takeWhile bDig).length + 1 > 1) = true := decide_eq_true hn
     have := bad 2 (by rw [hz, hd]; rfl)
     simp [hn', AV.known, AV.isV]
     exact this _
    ·have hn' : ¬ (1 : Int) < (r.takeWhile bDig).length + 1 := by omega
     have hd : decide ((r.takeWhile bDig).length + 1 > 1) = false := decide_eq_false hn
     have := last _ (by rw [hz, hd]; decide) rfl
     simp [zq246_d, aBuild, fillA] at this
     simp [hn']
     exact this
   | false =>
    have := last _ (by simp [hz]) rfl
    simp [zq246_d, aBuild, fillA] at this
    simp [hz]
    exact this
  | false => 
   simp [hi', AV.known]
   rw [hdr]
   refine sign56 b r _ _ ?_
   simp [AV.known]
   have htk : tok (kwF kwds) b r = if sgn (b :: r) = 0 then .error 2 else .ok (5, sgn (b :: r)) := by
    simp only [tok, hLU, hD]
    rfl
   by_cases hz : sgn (b :: r) = 0
   ·have := bad 2 (by rw [htk, if_pos hz])
    simp [hz, AV.isV]
    exact this _
   ·have := post 5 (sgn (b :: r)) (by rw [htk, if_neg hz]) _ rfl
    have he : (List.take (sgn (b :: r)) (b :: r)).isEmpty = false := by
     cases h : sgn (b :: r) with
     | zero => exact absurd h hz
     | succ n => simp
    simp [he]
    exact this
def cat (l : List Tk) : Except (Nat × Int) (List Tk) → Except (Nat × Int) (List Tk)
 | .error e => .error e
 | .ok m => .ok (l ++ m)
theorem cat_cat (l m : List Tk) (r : Except (Nat × Int) (List Tk)) : cat l (cat m r) = cat (l ++ m) r := by cases r <;> simp [cat]
@[simp] theorem cat_nil (r : Except (Nat × Int) (List Tk)) : cat [] r = r := by cases r <;> rfl
def skipC (r : List UInt8) : List UInt8 := r.dropWhile (· != 10)
def skipN (r : List UInt8) : Nat := (r.takeWhile (· != 10)).length
section
variable (kw : List UInt8 → Bool)
theorem toks_nil (p : Nat) : toks kw [] p = .ok [⟨6, [], p⟩] := by unfold toks; rfl
theorem toks_blank {b : UInt8} (h : bBlank b = true) (r : List UInt8) (p : Nat) : toks kw (b :: r) p = toks kw r (p + 1) := by
 conv => lhs; unfold toks
 simp [h]
theorem toks_hash {b : UInt8} (h0 : bBlank b = false) (h : (b == 35) = true) (r : List UInt8) (p : Nat) : toks kw (b :: r) p = toks kw (skipC r) (p + 1 + skipN r) := by
 conv => lhs; unfold toks
 simp only [h0, h, Bool.false_eq_true, if_false, if_true]
 rfl
theorem toks_err {b : UInt8} (h0 : bBlank b = false) (h : (b == 35) = false) {r : List UInt8} {p : Nat} {e : Int} (ht : tok kw b r = .error e) : toks kw (b :: r) p = .error (p, e) := by
 conv => lhs; unfold toks
 simp only [h0, h, Bool.false_eq_true, if_false, ht]
theorem toks_ok {b : UInt8} (h0 : bBlank b = false) (h : (b == 35) = false) {r : List UInt8} {p : Nat} {k : Int} {n : Nat} (ht : tok kw b r = .ok (k, n)) :
  toks kw (b :: r) p = cat [⟨k, (b :: r).take n, p⟩] (toks kw ((b :: r).drop n) (p + n)) := by
 conv => lhs; unfold toks
 have hn := tok_pos ht
 obtain ⟨m, rfl⟩ : ∃ m, n = m + 1 := ⟨n - 1, by omega⟩
 simp only [h0, h, Bool.false_eq_true, if_false, ht, Nat.add_sub_cancel, List.drop_succ_cons]
 cases toks kw (r.drop m) (p + (m + 1)) <;> rfl
end
theorem skipC_cons_ne {b : UInt8} (h : (b == 10) = false) (r : List UInt8) : skipC (b :: r) = skipC r ∧ skipN (b :: r) = 1 + skipN r := by
 have hb : b ≠ 10 := by simpa using h
 constructor
 ·simp [skipC, hb]
 ·simp [skipN, hb]; omega
theorem skipC_cons_eq {b : UInt8} (h : (b == 10) = true) (r : List UInt8) : skipC (b :: r) = b :: r ∧ skipN (b :: r) = 0 := by
 have hb : b = 10 := by simpa using h
 constructor
 ·simp [skipC, hb]
 ·simp [skipN, hb]
theorem skipC_nil : skipC [] = [] ∧ skipN [] = 0 := ⟨rfl, rfl⟩
theorem tok_len {kw : List UInt8 → Bool} {b : UInt8} {r : List UInt8} {k : Int} {n : Nat} (h : tok kw b r = .ok (k, n)) : n ≤ (b :: r).length := by
 have tw : ∀ p : UInt8 → Bool, (r.takeWhile p).length ≤ r.length := fun p => (List.takeWhile_sublist _).length_le
 unfold tok at h
 split at h
 ·simp only at h; split at h <;> simp at h; have := tw bIn; simp; omega
 ·split at h
  ·simp only at h; split at h
   ·simp at h
   ·split at h <;> simp at h; have := tw bDig; simp; omega
  ·simp only at h
   split at h <;> simp at h
   obtain ⟨_, rfl⟩ := h
   unfold sgn
   split
   ·rename_i h2
    by_cases hl : 2 ≤ (b :: r).length
    ·exact hl
    ·rw [sgn2_short hl] at h2; cases h2
   ·split
    ·simp
    ·split <;> simp
theorem tok_err {kw : List UInt8 → Bool} {b : UInt8} {r : List UInt8} {e : Int} (h : tok kw b r = .error e) : e = 2 ∨ e = 9 := by
 unfold tok at h
 split at h
 ·simp only at h; split at h <;> simp at h; omega
 ·split at h
  ·simp only at h; split at h
   ·simp at h; omega
   ·split at h <;> simp at h; omega
  ·simp only at h
   split at h <;> simp at h; omega
def splitR (s : List UInt8) : AV :=
 if s.length > 16384 then .tup [.sl [] .none, .int .i64 0, .int .i64 9] else
 match toks (kwF kwds) s 0 with
 | .error (p, e) => .tup [.sl [] .none, .int .i64 p, .int .i64 e]
 | .ok l => .tup [.sl (l.map Tk.cs) .none, .int .i64 0, .int .i64 0]
theorem two {H : Heap} {x y : AB} : H ++ [x, y] = (H ++ [x]) ++ [y] := by simp
theorem outErr {H J : Heap} {K : AV → Heap → Prop} {p e : Int} (hs : HSc H) (hK : K (.tup [.sl [] .none, .int .i64 p, .int .i64 e]) H) : Out H.length K (.tup [.snil, .int .i64 p, .int .i64 e]) (H ++ J) :=
 Out.tup hs hK ⟨snilV, keepV rfl rfl, keepV rfl rfl, trivial⟩
theorem split25 (s : List UInt8) (H : Heap) (K : AV → Heap → Prop) (hK : K (splitR s) H) : ACalls Tryz.prog n_zq221 [.str s] H K := by
 refine ACalls.out (zq221_ok fun hs => ?_)
 by_cases hl : s.length > 16384
 ·have hl' : (16384 : Int) < s.length := by omega
  simp [zq221, hl', AV.isV]
  unfold splitR at hK
  rw [if_pos hl] at hK
  exact Out.tup0 hs hK ⟨snilV, keepV rfl rfl, keepV rfl rfl, trivial⟩
 have hl' : ¬ (16384 : Int) < s.length := by omega
 unfold splitR at hK
 rw [if_neg hl] at hK
 simp [zq221, hl']
 have hperm : ∀ n, HSc (H ++ [.perm e_token_Token 3 n]) := fun n => hs.append rfl
 unfold zq221_l5
 refine ALoop.own 5 e_token_Token 3 rfl ?_
 show zq221_l5 (.str s) (.sl [] (.own H.length)) (.int .i64 0) (H ++ [.perm e_token_Token 3 0]) (Out H.length K)
 refine zq221_loop5 (Inv := fun q t5 t6 H' => ∃ (i : Nat) (l : List Tk), i ≤ s.length ∧ l.length ≤ i ∧ q = s.length - i ∧ t6 = .int .i64 i ∧ t5 = .sl (l.map Tk.cs) (.own H.length) ∧ H' = H ++ [.perm e_token_Token 3 l.length] ∧ cat l (toks (kwF kwds) (s.drop i) i) = toks (kwF kwds) s 0) s.length ?_ ?_
 ·intro _; exact ⟨0, [], by omega, by simp, by omega, rfl, rfl, rfl, by simp⟩
 ·rintro q t5 t6 H' ⟨i, l, hi, hll, rfl, rfl, rfl, rfl, ho⟩ hsc hlen hsF Kb hKb
  have done : cat l (.ok [⟨6, [], s.length⟩]) = toks (kwF kwds) s 0 → zq221_j2 (.str s) (.sl (l.map Tk.cs) (.own H.length)) (H ++ [.perm e_token_Token 3 l.length]) (Out H.length K) := by
   intro ho
   rw [← ho] at hK
   simp [zq221_j2, zq221_j3, aBuild, fillA, aBuildS, fillS, plain, AV.pd, aAppend, aSrc, aAppTo, AV.isV]
   refine ⟨by omega, ?_⟩
   simp [cat, Tk.cs] at hK
   exact Out.tup hs hK ⟨slV, keepV rfl rfl, keepV rfl rfl, trivial⟩
  by_cases hlt : i < s.length
  ·have hdr := List.drop_eq_getElem_cons hlt
   simp [zq221_b5, hlt]
   refine blank41 _ _ _ ?_
   have e35 : ((s[i].toNat : Int) == 35) = (s[i] == 35) := u8_eq s[i] 35
   cases hbl : bBlank s[i] with
   | true =>
    rw [hdr, toks_blank _ hbl] at ho
    simp [zq221_j1]
    rw [wrap_in (by omega) (by omega)]
    refine hKb _ _ ⟨s.length - (i + 1), by omega, Back.here (by simp) (hperm _) ?_ ⟨_, _, rfl, i + 1, l, by omega, by omega, rfl, by simp, rfl, rfl, ho⟩⟩
    simp [zq221_fr5, AV.sc, AV.scV, AV.scA, AV.scB]
   | false =>
    simp [e35]
    cases hsh : (s[i] == 35) with
    | true =>
     simp
     rw [hdr, toks_hash _ hbl hsh] at ho
     have h10 : (s[i] == 10) = false := by
      rw [beq_iff_eq] at hsh; rw [hsh]; rfl
     obtain ⟨c1, c2⟩ := skipC_cons_ne h10 (s.drop (i + 1))
     rw [Nat.add_assoc, ← c1, ← c2, ← hdr] at ho
     refine zq221_loop9 (Inv := fun q t6 H' => ∃ (j : Nat), i ≤ j ∧ j ≤ s.length ∧ q = s.length - j ∧ t6 = .int .i64 j ∧ H' = H ++ [.perm e_token_Token 3 l.length] ∧ cat l (toks (kwF kwds) (skipC (s.drop j)) (j + skipN (s.drop j))) = toks (kwF kwds) s 0) (s.length - i) ?_ ?_
     ·intro _; exact ⟨i, by omega, by omega, by omega, rfl, rfl, ho⟩
     ·rintro q t6 H' ⟨j, hij, hj, rfl, rfl, rfl, ho⟩ hsc hlen hsF Kb9 hKb9
      by_cases hjlt : j < s.length
      ·have hdrj := List.drop_eq_getElem_cons hjlt
       have e10 : ((s[j].toNat : Int) == 10) = (s[j] == 10) := u8_eq s[j] 10
       simp [zq221_b9, hjlt, e10]
       cases hz : (s[j] == 10) with
       | true =>
        obtain ⟨d1, d2⟩ := skipC_cons_eq hz (s.drop (j + 1))
        rw [hdrj, d1, d2, ← hdrj, Nat.add_zero] at ho
        have hij' : i ≠ j := by rintro rfl; rw [h10] at hz; cases hz
        simp [zq221_j1]
        refine hKb _ _ ⟨s.length - j, by omega, Back.here (by simp) (hperm _) ?_ ⟨_, _, rfl, j, l, by omega, by omega, rfl, by simp, rfl, rfl, ho⟩⟩
        simp [zq221_fr5, AV.sc, AV.scV, AV.scA, AV.scB]
       | false =>
        obtain ⟨d1, d2⟩ := skipC_cons_ne hz (s.drop (j + 1))
        rw [hdrj, d1, d2, ← Nat.add_assoc] at ho
        simp
        rw [wrap_in (by omega) (by omega)]
        refine hKb9 _ _ ⟨s.length - (j + 1), by omega, Back.here (by simp) (hperm _) ?_ ⟨_, rfl, j + 1, by omega, by omega, rfl, by simp, rfl, ho⟩⟩
        simp [zq221_fr9, AV.sc, AV.scV, AV.scA, AV.scB]
      ·obtain rfl : j = s.length := by omega
       simp [zq221_b9]
       rw [List.drop_length, skipC_nil.1, skipC_nil.2, Nat.add_zero, toks_nil] at ho
       exact done ho
    | false =>
     simp
     refine scan42 s (by omega) i hlt _ _ ?_
     unfold scanR
     cases ht : tok (kwF kwds) s[i] (s.drop (i + 1)) with
     | error e =>
      rw [hdr, toks_err _ hbl hsh ht] at ho
      have he : (e != 0) = true := by rcases tok_err ht with rfl | rfl <;> rfl
      rw [← ho] at hK
      simp [AV.known, AV.isV, he]
      exact outErr hs hK
     | ok kn =>
      obtain ⟨k, n⟩ := kn
      rw [hdr, toks_ok _ hbl hsh ht, cat_cat, ← hdr] at ho
      have hn := tok_len ht
      rw [← hdr] at hn
      simp at hn
      have hn0 := tok_pos ht
      simp [Tk.cs, AV.known, aBuildS, fillS, plain, AV.pd, aAppend, aSrc, aAppTo, zq221_j1]
      refine ⟨by omega, ?_⟩
      rw [show min n (s.length - i) = n by omega, wrap_in (by omega) (by omega), two]
      refine hKb _ _ ⟨s.length - (i + n), by omega, Back.same (by simp) (hperm _) ?_ ⟨_, _, rfl, i + n, l ++ [⟨k, (s.drop i).take n, i⟩], by omega, by simp; omega, rfl, by simp, by simp [Tk.cs], by simp, ?_⟩⟩
      ·simp [zq221_fr5, AV.sc, AV.scV, AV.scA, AV.scB]
      ·rw [List.drop_drop] at ho; exact ho
  ·obtain rfl : i = s.length := by omega
   rw [List.drop_length, toks_nil] at ho
   simpa [zq221_b5] using done ho
end Go.Proofs.YtfpmdpldabopjaaGreatDoor
namespace Go.Proofs.YtfpmdpldabopjaaGreatDoor
open Go Go.Abs
set_option maxRecDepth 4000
set_option maxRecDepth 4000
theorem tk_drop (s : List UInt8) (i n : Nat) : List.drop i (List.take (i + n) s) = List.take n (List.drop i s) := by
 rw [List.drop_take]; congr 1; omega
def zq160_e18 (t0 t5 t6 t7 t8 : AV) (H : Heap) (K : AV → Heap → Prop) (Kb5 : List AV → Heap → Prop) : Prop :=
 aBin .gtr false t8 (.int .i64 24) fun t118 =>
 aTest t118
 (aRet [.snil, t6, (.int .i64 9)] (K · H))
 (ACalls Tryz.prog n_zq198 [t7] H fun t121 H =>
 aTest t121
 (zq160_j2 t0 t5 t6 t8 (.int .i64 2) H K Kb5)
 (aBin .add false t6 t8 fun t126 =>
 aSlice 0 0 t0 (some t6) (some t126) fun t127 =>
 ACalls Tryz.prog n_zq200 [t127] H fun t128 H =>
 aTest t128
 (zq160_j2 t0 t5 t6 t8 (.int .i64 4) H K Kb5)
 (zq160_j2 t0 t5 t6 t8 (.int .i64 1) H K Kb5)))
section
variable (s : List UInt8) (hl : ¬ s.length > 16384) (i : Nat) (hlt : i < s.length) (H : Heap) (l : List Tk) (hll : l.length ≤ i) (hperm : ∀ n, HSc (H ++ [.perm e_ref3_Token 3 n])) (K : AV → Heap → Prop) (Kb : List AV → Heap → Prop)
include hl hlt hll hperm
theorem word26 (hLU : (bLow s[i] || bUp s[i]) = true)
  (app : ∀ (k : Int) (n : Nat), tok (kwF kwds) s[i] (s.drop (i + 1)) = .ok (k, n) → ∀ t, (s.drop i).take n = t → zq160_j4 (.str s) (.sl (l.map Tk.cs ++ [[.int .i64 k, .str t, .int .i64 i]]) (.own H.length)) (.int .i64 i) (.int .i64 n) (H ++ [.perm e_ref3_Token 3 (l.length + 1)]) (Out H.length K) Kb)
  (bad : ∀ e : Int, tok (kwF kwds) s[i] (s.drop (i + 1)) = .error e → Out H.length K (.tup [.snil, .int .i64 i, .int .i64 e]) (H ++ [.perm e_ref3_Token 3 l.length])) :
  zq160_l18 (.str s) (.sl (l.map Tk.cs) (.own H.length)) (.int .i64 i) (.int .u8 s[i].toNat) (.int .i64 1) (H ++ [.perm e_ref3_Token 3 l.length]) (Out H.length K) Kb := by
 refine zq160_loop18 (Inv := fun q t8 H' => ∃ (j : Nat), i + j ≤ s.length ∧ 0 < j ∧ q = s.length - j ∧ t8 = .int .i64 j ∧ H' = H ++ [.perm e_ref3_Token 3 l.length] ∧ j + ((s.drop (i + j)).takeWhile bIn).length = ((s.drop (i + 1)).takeWhile bIn).length + 1) (s.length - 1) ?_ ?_
 ·intro _; exact ⟨1, by omega, by omega, by omega, rfl, rfl, by omega⟩
 ·rintro q t8 H' ⟨j, hij, hj0, rfl, rfl, rfl, hn⟩ hsc hlen hsF Kb18 hKb18
  have w1 : IntKind.i64.wrap ((i : Int) + j) = i + j := wrap_in (by omega) (by omega)
  have w2 : IntKind.i64.wrap ((j : Int) + 1) = j + 1 := wrap_in (by omega) (by omega)
  have fin : ((s.drop (i + j)).takeWhile bIn).length = 0 → zq160_e18 (.str s) (.sl (l.map Tk.cs) (.own H.length)) (.int .i64 i) (.int .u8 s[i].toNat) (.int .i64 j) (H ++ [.perm e_ref3_Token 3 l.length]) (Out H.length K) Kb := by
   intro h0
   rw [h0] at hn
   have htk : tok (kwF kwds) s[i] (s.drop (i + 1)) = if j > 24 then .error 9 else .ok (if bUp s[i] = true then 2 else if kwF kwds ((s.drop i).take j) = true then 4 else 1, j) := by
    rw [List.drop_eq_getElem_cons hlt]
    simp only [tok, hLU, if_true, ← hn, Nat.add_zero]
   by_cases h24 : j > 24
   ·have h24' : (24 : Int) < j := by omega
    rw [if_pos h24] at htk
    simp [zq160_e18, h24', AV.isV]
    exact bad 9 htk
   ·have h24' : ¬ (24 : Int) < j := by omega
    rw [if_neg h24] at htk
    simp [zq160_e18, h24']
    refine up44 _ _ _ ?_
    have fin2 : ∀ k, k = (if bUp s[i] = true then 2 else if kwF kwds ((s.drop i).take j) = true then 4 else 1 : Int) → zq160_j2 (.str s) (.sl (l.map Tk.cs) (.own H.length)) (.int .i64 i) (.int .i64 j) (.int .i64 k) (H ++ [.perm e_ref3_Token 3 l.length]) (Out H.length K) Kb := by
     intro k hk
     rw [← hk] at htk
     have := app k j htk _ rfl
     simp [zq160_j2, w1, w2, aBuild, fillA, aBuildS, fillS, plain, AV.pd, aAppend, aSrc, aAppTo, zq160_j3]
     refine ⟨by omega, by omega, by omega, ?_⟩
     rw [show ((i : Int) + j).toNat = i + j by omega, tk_drop]
     exact this
    cases hU : bUp s[i] with
    | true => simp; exact fin2 2 (by simp [hU])
    | false =>
     simp [w1, w2]
     refine ⟨by omega, by omega, ?_⟩
     rw [show ((i : Int) + j).toNat = i + j by omega, tk_drop]
     refine kw12 _ _ _ ?_
     cases hkw : kwF kwds ((s.drop i).take j) with
     | true => simp; exact fin2 4 (by simp [hU, hkw])
     | false => simp; exact fin2 1 (by simp [hU, hkw])
  by_cases hjlt : i + j < s.length
  ·have e95 : ((s[i + j].toNat : Int) == 95) = (s[i + j] == 95) := u8_eq s[i + j] 95
   have hjlt' : (i + j : Int) < s.length := by omega
   rw [List.drop_eq_getElem_cons hjlt, List.takeWhile_cons] at hn fin
   have key : bIn s[i + j] = true → Kb18 (zq160_fr18 (.str s) (.sl (l.map Tk.cs) (.own H.length)) (.int .i64 i) (.int .u8 s[i].toNat) (.int .i64 (j + 1))) (H ++ [.perm e_ref3_Token 3 l.length]) := by
    intro hbin
    rw [hbin] at hn
    simp at hn
    refine hKb18 _ _ ⟨s.length - (j + 1), by omega, Back.here (by simp) (hperm _) ?_ ⟨_, rfl, j + 1, by omega, by omega, rfl, by simp, rfl, by rw [← Nat.add_assoc]; omega⟩⟩
    simp [zq160_fr18, AV.sc, AV.scV, AV.scA, AV.scB]
   have no : bIn s[i + j] = false → zq160_e18 (.str s) (.sl (l.map Tk.cs) (.own H.length)) (.int .i64 i) (.int .u8 s[i].toNat) (.int .i64 j) (H ++ [.perm e_ref3_Token 3 l.length]) (Out H.length K) Kb := by
    intro hbin
    rw [hbin] at fin
    exact fin (by simp)
   have hget : s[((i : Int) + j).toNat]?.getD 0 = s[i + j] := by
    rw [show ((i : Int) + j).toNat = i + j by omega]
    simp [hjlt]
   unfold bIn at key no
   simp [zq160_b18, w1, w2, hjlt', hget]
   refine ⟨by omega, ?_⟩
   refine low43 _ _ _ ?_
   cases hL : bLow s[i + j] with
   | true => simpa using key (by simp [hL])
   | false =>
    simp [w1, w2, hjlt', hget]
    refine ⟨by omega, up44 _ _ _ ?_⟩
    cases hU : bUp s[i + j] with
    | true => simpa using key (by simp [hU])
    | false =>
     simp [w1, w2, hjlt', hget]
     refine ⟨by omega, dig45 _ _ _ ?_⟩
     cases hD : bDig s[i + j] with
     | true => simpa using key (by simp [hD])
     | false =>
      simp [w1, w2, hjlt', hget, e95]
      refine ⟨by omega, ?_⟩
      cases h95 : (s[i + j] == 95) with
      | true => simpa using key (by simp [h95])
      | false => simpa [zq160_e18, w1] using no (by simp [hL, hU, hD, h95])
  ·have hjlt' : ¬ (i + j : Int) < s.length := by omega
   have : s.drop (i + j) = [] := List.drop_eq_nil_of_le (by omega)
   rw [this] at fin
   have := fin rfl
   simp [zq160_b18, w1, w2, hjlt']
   simpa [zq160_e18, w1] using this
end
def zq160_d29 (t0 t5 t6 t8 : AV) (H : Heap) (K : AV → Heap → Prop) (Kb5 : List AV → Heap → Prop) : Prop :=
 aBin .add false t6 t8 fun t172 =>
 aSlice 0 0 t0 (some t6) (some t172) fun t173 =>
 ACalls Tryz.prog n_zq201 [t173] H fun t174 H =>
 aExt t174 0 fun t175 =>
 aExt t174 1 fun t176 =>
 aUn .not t176 fun t178 =>
 aTest t178
 (aRet [.snil, t6, (.int .i64 9)] (K · H))
 (aBin .add false t6 t8 fun t185 =>
 aSlice 0 0 t0 (some t6) (some t185) fun t186 =>
 aBuild [(.int .i64 0), (.str []), (.int .i64 0)] [(0, 1), (1, 1), (2, 1)] [(0, (.int .i64 3)), (1, t186), (2, t6)] fun t188 =>
 aBuildS 3 [(.int .i64 0), (.str []), (.int .i64 0)] 1 [(0, t188)] fun t189 =>
 aAppend e_ref3_Token 3 32 t5 t189 H fun t190 H =>
 zq160_j3 t0 t190 t6 t8 H K Kb5)
def zq160_e29 (t0 t5 t6 t7 t8 : AV) (H : Heap) (K : AV → Heap → Prop) (Kb5 : List AV → Heap → Prop) : Prop :=
 aBin .gtr false t8 (.int .i64 1) fun t161 =>
 aGuardJ t161 true H (fun K' => K' t7 H) fun t163 H =>
 aGuardJ t161 true H (fun K' => aBin .eql false t163 (.int .u8 48) (K' · H)) fun t164 H =>
 aPick t161 t164 (.bool false) fun t165 =>
 aTest t165
 (aRet [.snil, t6, (.int .i64 2)] (K · H))
 (aBin .add false t6 t8 fun t172 =>
 aSlice 0 0 t0 (some t6) (some t172) fun t173 =>
 ACalls Tryz.prog n_zq201 [t173] H fun t174 H =>
 aExt t174 0 fun t175 =>
 aExt t174 1 fun t176 =>
 aUn .not t176 fun t178 =>
 aTest t178
 (aRet [.snil, t6, (.int .i64 9)] (K · H))
 (aBin .add false t6 t8 fun t185 =>
 aSlice 0 0 t0 (some t6) (some t185) fun t186 =>
 aBuild [(.int .i64 0), (.str []), (.int .i64 0)] [(0, 1), (1, 1), (2, 1)] [(0, (.int .i64 3)), (1, t186), (2, t6)] fun t188 =>
 aBuildS 3 [(.int .i64 0), (.str []), (.int .i64 0)] 1 [(0, t188)] fun t189 =>
 aAppend e_ref3_Token 3 32 t5 t189 H fun t190 H =>
 zq160_j3 t0 t190 t6 t8 H K Kb5))
section
variable (s : List UInt8) (hl : ¬ s.length > 16384) (i : Nat) (hlt : i < s.length) (H : Heap) (l : List Tk) (hll : l.length ≤ i) (hperm : ∀ n, HSc (H ++ [.perm e_ref3_Token 3 n])) (K : AV → Heap → Prop) (Kb : List AV → Heap → Prop)
include hl hlt hll hperm
theorem num26 (hLU : ¬ (bLow s[i] || bUp s[i]) = true) (hD : bDig s[i] = true)
  (app : ∀ (k : Int) (n : Nat), tok (kwF kwds) s[i] (s.drop (i + 1)) = .ok (k, n) → ∀ t, (s.drop i).take n = t → zq160_j4 (.str s) (.sl (l.map Tk.cs ++ [[.int .i64 k, .str t, .int .i64 i]]) (.own H.length)) (.int .i64 i) (.int .i64 n) (H ++ [.perm e_ref3_Token 3 (l.length + 1)]) (Out H.length K) Kb)
  (bad : ∀ e : Int, tok (kwF kwds) s[i] (s.drop (i + 1)) = .error e → Out H.length K (.tup [.snil, .int .i64 i, .int .i64 e]) (H ++ [.perm e_ref3_Token 3 l.length])) :
  zq160_l29 (.str s) (.sl (l.map Tk.cs) (.own H.length)) (.int .i64 i) (.int .u8 s[i].toNat) (.int .i64 1) (H ++ [.perm e_ref3_Token 3 l.length]) (Out H.length K) Kb := by
 refine zq160_loop29 (Inv := fun q t8 H' => ∃ (j : Nat), i + j ≤ s.length ∧ 0 < j ∧ q = s.length - j ∧ t8 = .int .i64 j ∧ H' = H ++ [.perm e_ref3_Token 3 l.length] ∧ j + ((s.drop (i + j)).takeWhile bDig).length = ((s.drop (i + 1)).takeWhile bDig).length + 1) (s.length - 1) ?_ ?_
 ·intro _; exact ⟨1, by omega, by omega, by omega, rfl, rfl, by omega⟩
 ·rintro q t8 H' ⟨j, hij, hj0, rfl, rfl, rfl, hn⟩ hsc hlen hsF Kb18 hKb18
  have w1 : IntKind.i64.wrap ((i : Int) + j) = i + j := wrap_in (by omega) (by omega)
  have w2 : IntKind.i64.wrap ((j : Int) + 1) = j + 1 := wrap_in (by omega) (by omega)
  have e48 : ((s[i].toNat : Int) == 48) = (s[i] == 48) := u8_eq s[i] 48
  have fin : ((s.drop (i + j)).takeWhile bDig).length = 0 → zq160_e29 (.str s) (.sl (l.map Tk.cs) (.own H.length)) (.int .i64 i) (.int .u8 s[i].toNat) (.int .i64 j) (H ++ [.perm e_ref3_Token 3 l.length]) (Out H.length K) Kb := by
   intro h0
   rw [h0] at hn
   have hdj : (s.drop i).take j = s[i] :: (s.drop (i + 1)).takeWhile bDig := by
    rw [List.drop_eq_getElem_cons hlt, show j = ((s.drop (i + 1)).takeWhile bDig).length + 1 by omega, take_takeWhile]
   have htk : tok (kwF kwds) s[i] (s.drop (i + 1)) = if (s[i] == 48 && decide (j > 1)) = true then .error 2 else if smallF ((s.drop i).take j) 0 = true then .ok (3, j) else .error 9 := by
    rw [List.drop_eq_getElem_cons hlt]
    simp only [tok, hLU, hD, if_true, ← hn, Nat.add_zero]
    rfl
   have hval : ∀ (K : AV → Heap → Prop) (H : Heap), (∀ n, K (.tup [.int .i64 n, .bool (smallF ((s.drop i).take j) 0)]) H) → ACalls Tryz.prog n_zq201 [.str ((s.drop i).take j)] H K := by
    intro K H hK
    refine value46 _ ?_ (by simp; omega) _ _ hK
    intro c hc
    rw [hdj] at hc
    rcases List.mem_cons.1 hc with rfl | hc
    ·exact hD
    ·exact List.all_eq_true.1 (List.all_takeWhile) c hc
   have rest : ¬ (s[i] == 48 && decide (j > 1)) = true → zq160_d29 (.str s) (.sl (l.map Tk.cs) (.own H.length)) (.int .i64 i) (.int .i64 j) (H ++ [.perm e_ref3_Token 3 l.length]) (Out H.length K) Kb := by
    intro hne
    rw [if_neg hne] at htk
    simp [zq160_d29, w1]
    refine ⟨by omega, by omega, ?_⟩
    rw [show ((i : Int) + j).toNat = i + j by omega, tk_drop]
    refine hval _ _ fun n => ?_
    cases hv : smallF ((s.drop i).take j) 0 with
    | false =>
     rw [hv] at htk
     simp [AV.isV]
     exact bad 9 htk
    | true =>
     rw [hv] at htk
     have := app 3 j htk _ rfl
     simp [aBuild, fillA, aBuildS, fillS, plain, AV.pd, aAppend, aSrc, aAppTo, zq160_j3]
     refine ⟨by omega, by omega, by omega, ?_⟩
     exact this
   by_cases h1 : j > 1
   ·have h1' : (1 : Int) < j := by omega
    have hd : decide (j > 1) = true := decide_eq_true h1
    rw [hd] at rest htk
    cases hz : (s[i] == 48) with
    | true =>
     rw [hz] at htk
     simp [zq160_e29, h1', e48, hz, AV.isV]
     exact bad 2 htk
    | false =>
     have := rest (by rw [hz]; decide)
     simp [zq160_e29, h1', e48, hz]
     simpa [zq160_d29] using this
   ·have h1' : ¬ (1 : Int) < j := by omega
    have := rest (by rw [decide_eq_false h1]; simp)
    simp [zq160_e29, h1']
    simpa [zq160_d29] using this
  by_cases hjlt : i + j < s.length
  ·have hjlt' : (i + j : Int) < s.length := by omega
   rw [List.drop_eq_getElem_cons hjlt, List.takeWhile_cons] at hn fin
   have hget : s[((i : Int) + j).toNat]?.getD 0 = s[i + j] := by
    rw [show ((i : Int) + j).toNat = i + j by omega]
    simp [hjlt]
   simp [zq160_b29, w1, w2, hjlt', hget]
   refine ⟨by omega, ?_⟩
   refine dig45 _ _ _ ?_
   cases hb : bDig s[i + j] with
   | true =>
    rw [hb] at hn
    simp at hn
    simp [w1, w2]
    refine hKb18 _ _ ⟨s.length - (j + 1), by omega, Back.here (by simp) (hperm _) ?_ ⟨_, rfl, j + 1, by omega, by omega, rfl, by simp, rfl, by rw [← Nat.add_assoc]; omega⟩⟩
    simp [zq160_fr29, AV.sc, AV.scV, AV.scA, AV.scB]
   | false =>
    rw [hb] at fin
    have := fin (by simp)
    simp [w1, w2]
    simpa [zq160_e29, w1] using this
  ·have hjlt' : ¬ (i + j : Int) < s.length := by omega
   have : s.drop (i + j) = [] := List.drop_eq_nil_of_le (by omega)
   rw [this] at fin
   have := fin rfl
   simp [zq160_b29, w1, w2, hjlt']
   simpa [zq160_e29, w1] using this
end
theorem split26 (s : List UInt8) (H : Heap) (K : AV → Heap → Prop) (hK : K (splitR s) H) : ACalls Tryz.prog n_zq160 [.str s] H K := by
 refine ACalls.out (zq160_ok fun hs => ?_)
 by_cases hl : s.length > 16384
 ·have hl' : (16384 : Int) < s.length := by omega
  simp [zq160, hl', AV.isV]
  unfold splitR at hK
  rw [if_pos hl] at hK
  exact Out.tup0 hs hK ⟨snilV, keepV rfl rfl, keepV rfl rfl, trivial⟩
 have hl' : ¬ (16384 : Int) < s.length := by omega
 unfold splitR at hK
 rw [if_neg hl] at hK
 simp [zq160, hl']
 have hperm : ∀ n, HSc (H ++ [.perm e_ref3_Token 3 n]) := fun n => hs.append rfl
 unfold zq160_l5
 refine ALoop.own 5 e_ref3_Token 3 rfl ?_
 show zq160_l5 (.str s) (.sl [] (.own H.length)) (.int .i64 0) (H ++ [.perm e_ref3_Token 3 0]) (Out H.length K)
 refine zq160_loop5 (Inv := fun q t5 t6 H' => ∃ (i : Nat) (l : List Tk), i ≤ s.length ∧ l.length ≤ i ∧ q = s.length - i ∧ t6 = .int .i64 i ∧ t5 = .sl (l.map Tk.cs) (.own H.length) ∧ H' = H ++ [.perm e_ref3_Token 3 l.length] ∧ cat l (toks (kwF kwds) (s.drop i) i) = toks (kwF kwds) s 0) s.length ?_ ?_
 ·intro _; exact ⟨0, [], by omega, by simp, by omega, rfl, rfl, rfl, by simp⟩
 ·rintro q t5 t6 H' ⟨i, l, hi, hll, rfl, rfl, rfl, rfl, ho⟩ hsc hlen hsF Kb hKb
  by_cases hlt : i < s.length
  ·have hdr := List.drop_eq_getElem_cons hlt
   have e9 : ((s[i].toNat : Int) == 9) = (s[i] == 9) := u8_eq s[i] 9
   have e10 : ((s[i].toNat : Int) == 10) = (s[i] == 10) := u8_eq s[i] 10
   have e13 : ((s[i].toNat : Int) == 13) = (s[i] == 13) := u8_eq s[i] 13
   have e32 : ((s[i].toNat : Int) == 32) = (s[i] == 32) := u8_eq s[i] 32
   have e35 : ((s[i].toNat : Int) == 35) = (s[i] == 35) := u8_eq s[i] 35
   cases hbl : bBlank s[i] with
   | true =>
    rw [hdr, toks_blank _ hbl] at ho
    have key : zq160_j1 (.str s) (.sl (l.map Tk.cs) (.own H.length)) (.int .i64 (IntKind.i64.wrap (i + 1))) (H ++ [.perm e_ref3_Token 3 l.length]) (Out H.length K) Kb := by
     simp [zq160_j1]
     rw [wrap_in (by omega) (by omega)]
     refine hKb _ _ ⟨s.length - (i + 1), by omega, Back.here (by simp) (hperm _) ?_ ⟨_, _, rfl, i + 1, l, by omega, by omega, rfl, by simp, rfl, rfl, ho⟩⟩
     simp [zq160_fr5, AV.sc, AV.scV, AV.scA, AV.scB]
    unfold bBlank at hbl
    cases h9 : (s[i] == 9) <;> cases h10 : (s[i] == 10) <;> cases h13 : (s[i] == 13) <;> cases h32 : (s[i] == 32) <;> simp [h9, h10, h13, h32] at hbl <;> simpa [zq160_b5, hlt, e9, e10, e13, e32, h9, h10, h13, h32] using key
   | false =>
    have hbl' := hbl
    unfold bBlank at hbl'
    simp only [Bool.or_eq_false_iff] at hbl'
    obtain ⟨⟨⟨h9, h10⟩, h13⟩, h32⟩ := hbl'
    have app : ∀ (k : Int) (n : Nat), tok (kwF kwds) s[i] (s.drop (i + 1)) = .ok (k, n) → (s[i] == 35) = false → ∀ t, (s.drop i).take n = t → zq160_j4 (.str s) (.sl (l.map Tk.cs ++ [[.int .i64 k, .str t, .int .i64 i]]) (.own H.length)) (.int .i64 i) (.int .i64 n) (H ++ [.perm e_ref3_Token 3 (l.length + 1)]) (Out H.length K) Kb := by
     intro k n ht hsh t hte
     subst hte
     rw [hdr, toks_ok _ hbl hsh ht, cat_cat, ← hdr] at ho
     have hn := tok_len ht
     rw [← hdr] at hn
     simp at hn
     have hn0 := tok_pos ht
     simp [zq160_j4, zq160_j1]
     rw [wrap_in (by omega) (by omega)]
     refine hKb _ _ ⟨s.length - (i + n), by omega, Back.here (by simp) (hperm _) ?_ ⟨_, _, rfl, i + n, l ++ [⟨k, (s.drop i).take n, i⟩], by omega, by simp; omega, rfl, by simp, by simp [Tk.cs], by simp, ?_⟩⟩
     ·simp [zq160_fr5, AV.sc, AV.scV, AV.scA, AV.scB]
     ·rw [List.drop_drop] at ho; exact ho
    have bad : ∀ e : Int, tok (kwF kwds) s[i] (s.drop (i + 1)) = .error e → (s[i] == 35) = false → Out H.length K (.tup [.snil, .int .i64 i, .int .i64 e]) (H ++ [.perm e_ref3_Token 3 l.length]) := by
     intro e ht hsh
     rw [hdr, toks_err _ hbl hsh ht] at ho
     rw [← ho] at hK
     exact outErr hs hK
    simp [zq160_b5, hlt, e9, e10, e13, e32, e35, h9, h10, h13, h32]
    cases hsh : (s[i] == 35) with
    | true =>
     simp
     rw [hdr, toks_hash _ hbl hsh] at ho
     obtain ⟨c1, c2⟩ := skipC_cons_ne h10 (s.drop (i + 1))
     rw [Nat.add_assoc, ← c1, ← c2, ← hdr] at ho
     refine zq160_loop10 (Inv := fun q t6 H' => ∃ (j : Nat), i ≤ j ∧ j ≤ s.length ∧ q = s.length - j ∧ t6 = .int .i64 j ∧ H' = H ++ [.perm e_ref3_Token 3 l.length] ∧ cat l (toks (kwF kwds) (skipC (s.drop j)) (j + skipN (s.drop j))) = toks (kwF kwds) s 0) (s.length - i) ?_ ?_
     ·intro _; exact ⟨i, by omega, by omega, by omega, rfl, rfl, ho⟩
     ·rintro q t6 H' ⟨j, hij, hj, rfl, rfl, rfl, ho⟩ hsc hlen hsF Kb9 hKb9
      by_cases hjlt : j < s.length
      ·have hdrj := List.drop_eq_getElem_cons hjlt
       have e10 : ((s[j].toNat : Int) != 10) = !(s[j] == 10) := by rw [← u8_eq s[j] 10]; rfl
       simp [zq160_b10, hjlt, e10]
       cases hz : (s[j] == 10) with
       | true =>
        obtain ⟨d1, d2⟩ := skipC_cons_eq hz (s.drop (j + 1))
        rw [hdrj, d1, d2, ← hdrj, Nat.add_zero] at ho
        have hij' : i ≠ j := by rintro rfl; rw [h10] at hz; cases hz
        simp [zq160_j1]
        refine hKb _ _ ⟨s.length - j, by omega, Back.here (by simp) (hperm _) ?_ ⟨_, _, rfl, j, l, by omega, by omega, rfl, by simp, rfl, rfl, ho⟩⟩
        simp [zq160_fr5, AV.sc, AV.scV, AV.scA, AV.scB]
       | false =>
        obtain ⟨d1, d2⟩ := skipC_cons_ne hz (s.drop (j + 1))
        rw [hdrj, d1, d2, ← Nat.add_assoc] at ho
        simp
        rw [wrap_in (by omega) (by omega)]
        refine hKb9 _ _ ⟨s.length - (j + 1), by omega, Back.here (by simp) (hperm _) ?_ ⟨_, rfl, j + 1, by omega, by omega, rfl, by simp, rfl, ho⟩⟩
        simp [zq160_fr10, AV.sc, AV.scV, AV.scA, AV.scB]
      ·obtain rfl : j = s.length := by omega
       simp [zq160_b10, zq160_j1]
       rw [List.drop_length, skipC_nil.1, skipC_nil.2, Nat.add_zero] at ho
       refine hKb _ _ ⟨0, by omega, Back.here (by simp) (hperm _) ?_ ⟨_, _, rfl, s.length, l, by omega, by omega, by omega, by simp, rfl, rfl, by rw [List.drop_length]; exact ho⟩⟩
       simp [zq160_fr5, AV.sc, AV.scV, AV.scA, AV.scB]
    | false =>
     replace app := fun k n h => app k n h hsh
     replace bad := fun e h => bad e h hsh
     simp
     refine low43 _ _ _ ?_
     by_cases hLU : (bLow s[i] || bUp s[i]) = true
     ·have hc : bLow s[i] = true ∨ (bLow s[i] = false ∧ bUp s[i] = true) := by cases hL : bLow s[i] <;> simp [hL] at hLU ⊢; exact hLU
      rcases hc with hL | ⟨hL, hU⟩
      case' inl => simp [hL]
      case' inr => simp [hL]; refine up44 _ _ _ ?_; simp [hU]
      all_goals exact word26 s hl i hlt H l hll hperm K Kb hLU app bad
     ·have hL : bLow s[i] = false := by simp at hLU; exact hLU.1
      have hU : bUp s[i] = false := by simp at hLU; exact hLU.2
      simp [hL]
      refine up44 _ _ _ ?_
      simp [hU]
      refine dig45 _ _ _ ?_
      cases hD : bDig s[i] with
      | true =>
       simp
       exact num26 s hl i hlt H l hll hperm K Kb hLU hD app bad
      | false =>
       simp
       refine ⟨by omega, ?_⟩
       have htk : tok (kwF kwds) s[i] (s.drop (i + 1)) = if sgn (s.drop i) = 0 then .error 2 else .ok (5, sgn (s.drop i)) := by
        simp only [tok, hLU, hD, hdr]
        rfl
       rw [hdr]
       refine sign47 _ _ _ _ ?_
       rw [← hdr]
       by_cases hz : sgn (s.drop i) = 0
       ·simp [hz, AV.isV]
        exact bad 2 (by rw [htk, if_pos hz])
       ·have hz' : ((sgn (s.drop i) : Int) == 0) = false := by simpa using hz
        have ht := htk
        rw [if_neg hz] at ht
        have hn := tok_len ht
        rw [← hdr] at hn
        simp at hn
        have := app 5 (sgn (s.drop i)) ht _ rfl
        simp [hz']
        rw [wrap_in (by omega) (by omega)]
        simp [aBuild, fillA, aBuildS, fillS, plain, AV.pd, aAppend, aSrc, aAppTo, zq160_j3]
        refine ⟨by omega, by omega, by omega, ?_⟩
        rw [show ((i : Int) + (sgn (s.drop i) : Int)).toNat = i + sgn (s.drop i) by omega, tk_drop]
        exact this
  ·obtain rfl : i = s.length := by omega
   rw [List.drop_length, toks_nil] at ho
   rw [← ho] at hK
   simp [zq160_b5, aBuild, fillA, aBuildS, fillS, plain, AV.pd, aAppend, aSrc, aAppTo, AV.isV]
   refine ⟨by omega, ?_⟩
   simp [cat, Tk.cs] at hK
   exact Out.tup hs hK ⟨slV, keepV rfl rfl, keepV rfl rfl, trivial⟩
end Go.Proofs.YtfpmdpldabopjaaGreatDoor
