/- The shallow forms of functions of the program, printed by a program (absgen.py) off the translation, each tied to the model by the kernel. -/
import Derived.Test.YtkdmpbhbmmhijaaKNum
import Derived.Test.YtkdmpbhbmmhijaaProg
import Derived.KernelRfl
namespace Go.Proofs.Ytkdmpbhbmmhijaa
open Go Go.Abs
set_option linter.unusedVariables false
set_option maxRecDepth 100000
def zq82_M : Nat → List Bool
 | 5 => rl false [0,1,4,2,54]
 | 9 => rl false [0,1,4,2,54]
 | _ => []
noncomputable def zq82_c : Code := Try.f84.body.getD .skip
noncomputable def zq82_r : List ResultVar := Try.f84.results.toList
def zq82_fr5 (t0 t5 t6 : AV) : List AV := t0 :: ux 4 (t5 :: t6 :: ux 54 [])
def zq82_m5 : List Bool := zq82_M 5
noncomputable def zq82_c5 : Code := codeAt [1, 0, 1, 1, 1, 1, 0, 0, 0] zq82_c
def zq82_Q5 (K : Kt) : AExit → List AV → Heap → Prop := contAt tP zq82_M [1, 0, 1, 1, 1, 1, 0, 0] zq82_c (retQ tP zq82_r K)
def zq82_l5 (t0 t5 t6 : AV) (H : Heap) (K : Kt) : Prop := ALoop tP zq82_c5 (zq82_Q5 K) (zq82_fr5 t0 t5 t6) H
def zq82_j1 (t0 t5 t6 : AV) (H : Heap) (K : Kt) (Kb5 : Lt) : Prop :=
 Kb5 (zq82_fr5 t0 t5 t6) H
def zq82_fr9 (t0 t5 t6 : AV) : List AV := t0 :: ux 4 (t5 :: t6 :: ux 54 [])
def zq82_m9 : List Bool := zq82_M 9
noncomputable def zq82_c9 : Code := codeAt [1, 0, 1, 0, 1, 0, 0, 0, 0] zq82_c5
def zq82_Q9 (K : Kt) (Kb5 : Lt) : AExit → List AV → Heap → Prop := contAt tP zq82_M [1, 0, 1, 0, 1, 0, 0, 0] zq82_c5 (roundQ zq82_m5 Kb5 (zq82_Q5 K))
def zq82_l9 (t0 t5 t6 : AV) (H : Heap) (K : Kt) (Kb5 : Lt) : Prop := ALoop tP zq82_c9 (zq82_Q9 K Kb5) (zq82_fr9 t0 t5 t6) H
def zq82_j3 (t0 t5 : AV) (H : Heap) (K : Kt) : Prop :=
 aLen 0 t0 fun t57 =>
 aBuild [(.int .i64 0), (.str []), (.int .i64 0)] [(0, 1), (1, 1), (2, 1)] [(0, (.int .i64 6)), (2, t57)] fun t58 =>
 aBuildS 3 [(.int .i64 0), (.str []), (.int .i64 0)] 1 [(0, t58)] fun t59 =>
 aAppend e_token_Token 3 32 t5 t59 H fun t60 H =>
 aRet [t60, (.int .i64 0), (.int .i64 0)] (K · H)
def zq82_j2 (t0 t5 : AV) (H : Heap) (K : Kt) : Prop :=
 zq82_j3 t0 t5 H K
def zq82_b9 (t0 t5 t6 : AV) (H : Heap) (K : Kt) (Kb5 : Lt) (Kb9 : Lt) : Prop :=
 aLen 0 t0 fun t28 =>
 aBin .lss false t6 t28 fun t29 =>
 aTest t29
 (aIdxS t0 t6 fun t34 =>
 aBin .eql false t34 (.int .u8 10) fun t35 =>
 aTest t35
 (zq82_j1 t0 t5 t6 H K Kb5)
 (aBin .add false t6 (.int .i64 1) fun t31 =>
 Kb9 (zq82_fr9 t0 t5 t31) H))
 (zq82_j2 t0 t5 H K)
def zq82_b5 (t0 t5 t6 : AV) (H : Heap) (K : Kt) (Kb5 : Lt) : Prop :=
 aLen 0 t0 fun t14 =>
 aBin .lss false t6 t14 fun t15 =>
 aTest t15
 (aIdxS t0 t6 fun t18 =>
 ACalls tP n_zq99 [t18] H fun t19 H =>
 aTest t19
 (aBin .add false t6 (.int .i64 1) fun t21 =>
 zq82_j1 t0 t5 t21 H K Kb5)
 (aIdxS t0 t6 fun t24 =>
 aBin .eql false t24 (.int .u8 35) fun t25 =>
 aTest t25
 (zq82_l9 t0 t5 t6 H K Kb5)
 (ACalls tP n_zq100 [t0, t6] H fun t39 H =>
 aExt t39 0 fun t40 =>
 aExt t39 1 fun t41 =>
 aNew [(.int .i64 0), (.str []), (.int .i64 0)] H fun t7 H =>
 aStore 3 t7 t40 H fun H =>
 aBin .neq false t41 (.int .i64 0) fun t43 =>
 aTest t43
 (aRet [.snil, t6, t41] (K · H))
 (aLoad true 3 t7 H fun t47 =>
 aBuildS 3 [(.int .i64 0), (.str []), (.int .i64 0)] 1 [(0, t47)] fun t48 =>
 aAppend e_token_Token 3 32 t5 t48 H fun t49 H =>
 aFld 1 t7 fun t51 =>
 aLoad false 1 t51 H fun t52 =>
 aLen 0 t52 fun t53 =>
 aBin .add false t6 t53 fun t54 =>
 zq82_j1 t0 t49 t54 H K Kb5))))
 (zq82_j2 t0 t5 H K)
def zq82 (t0 : AV) (H : Heap) (K : Kt) : Prop :=
 aLen 0 t0 fun t10 =>
 aBin .gtr false t10 (.int .i64 16384) fun t11 =>
 aTest t11
 (aRet [.snil, (.int .i64 0), (.int .i64 9)] (K · H))
 (zq82_l5 t0 .snil (.int .i64 0) H K)
theorem zq82_b9_eq (t0 t5 t6 : AV) (H : Heap) (K : Kt) (Kb5 : Lt) (Kb9 : Lt) : awp tP zq82_M zq82_c9 (roundQ zq82_m9 Kb9 (zq82_Q9 K Kb5)) (zq82_fr9 t0 t5 t6) H = zq82_b9 t0 t5 t6 H K Kb5 Kb9 := by kernel_rfl
theorem zq82_loop9 {t0 t5 t6 : AV} {H : Heap} {K : Kt} {Kb5 : Lt} (Inv : Nat → AV → Heap → Prop) (n : Nat) (h0 : HSc H → Inv n t6 H)
   (round : ∀ n t6 H', Inv n t6 H' → HSc H' → H.length ≤ H'.length → (zq82_fr9 t0 t5 t6).all (AV.sc H'.length) = true → ∀ Kb9 : Lt, (∀ F'' H'', (∃ n', n' < n ∧ Back H.length (fun F2 H2 => ∃ t6, F2 = zq82_fr9 t0 t5 t6 ∧ Inv n' t6 H2) F'' H'') → Kb9 F'' H'') → zq82_b9 t0 t5 t6 H' K Kb5 Kb9) : zq82_l9 t0 t5 t6 H K Kb5 :=
 aloop (M := zq82_M) zq82_m9 (fun n F H => ∃ t6, F = zq82_fr9 t0 t5 t6 ∧ Inv n t6 H) n (fun hs _ => ⟨t6, rfl, h0 hs⟩) (fun n F H' ⟨t6, hF, hI⟩ h1 h2 h3 => by subst hF; rw [zq82_b9_eq]; exact round n t6 H' hI h1 h2 h3 _ (fun _ _ h => h))
theorem zq82_b5_eq (t0 t5 t6 : AV) (H : Heap) (K : Kt) (Kb5 : Lt) : awp tP zq82_M zq82_c5 (roundQ zq82_m5 Kb5 (zq82_Q5 K)) (zq82_fr5 t0 t5 t6) H = zq82_b5 t0 t5 t6 H K Kb5 := by kernel_rfl
theorem zq82_loop5 {t0 t5 t6 : AV} {H : Heap} {K : Kt} (Inv : Nat → AV → AV → Heap → Prop) (n : Nat) (h0 : HSc H → Inv n t5 t6 H)
   (round : ∀ n t5 t6 H', Inv n t5 t6 H' → HSc H' → H.length ≤ H'.length → (zq82_fr5 t0 t5 t6).all (AV.sc H'.length) = true → ∀ Kb5 : Lt, (∀ F'' H'', (∃ n', n' < n ∧ Back H.length (fun F2 H2 => ∃ t5 t6, F2 = zq82_fr5 t0 t5 t6 ∧ Inv n' t5 t6 H2) F'' H'') → Kb5 F'' H'') → zq82_b5 t0 t5 t6 H' K Kb5) : zq82_l5 t0 t5 t6 H K :=
 aloop (M := zq82_M) zq82_m5 (fun n F H => ∃ t5 t6, F = zq82_fr5 t0 t5 t6 ∧ Inv n t5 t6 H) n (fun hs _ => ⟨t5, t6, rfl, h0 hs⟩) (fun n F H' ⟨t5, t6, hF, hI⟩ h1 h2 h3 => by subst hF; rw [zq82_b5_eq]; exact round n t5 t6 H' hI h1 h2 h3 _ (fun _ _ h => h))
theorem zq82_eq (t0 : AV) (H : Heap) (K : Kt) : awp tP zq82_M zq82_c (retQ tP zq82_r K) (t0 :: List.replicate 60 .unk) H = zq82 t0 H K := by kernel_rfl
theorem zq82_ok {t0 : AV} {H : Heap} {K : Kt} (h : HSc H → zq82 t0 H K) : ACalls tP n_zq82 [t0] H K :=
 acalls_body (M := zq82_M) Try.func84 (c := zq82_c) (by kernel_rfl) (fun hs => (zq82_eq t0 H K).mpr (h hs))
def zq97_M : Nat → List Bool
 | 5 => rl false [0,1,4,2,193]
 | 10 => rl false [0,1,4,2,193]
 | 18 => rl false [0,1,4,4,191]
 | 29 => rl false [0,1,4,4,191]
 | _ => []
noncomputable def zq97_c : Code := Try.f99.body.getD .skip
noncomputable def zq97_r : List ResultVar := Try.f99.results.toList
def zq97_fr5 (t0 t5 t6 : AV) : List AV := t0 :: ux 4 (t5 :: t6 :: ux 193 [])
def zq97_m5 : List Bool := zq97_M 5
noncomputable def zq97_c5 : Code := codeAt [1, 1, 1, 0, 1, 0, 0] zq97_c
def zq97_Q5 (K : Kt) : AExit → List AV → Heap → Prop := contAt tP zq97_M [1, 1, 1, 0, 1, 0] zq97_c (retQ tP zq97_r K)
def zq97_l5 (t0 t5 t6 : AV) (H : Heap) (K : Kt) : Prop := ALoop tP zq97_c5 (zq97_Q5 K) (zq97_fr5 t0 t5 t6) H
def zq97_j1 (t0 t5 t6 : AV) (H : Heap) (K : Kt) (Kb5 : Lt) : Prop :=
 Kb5 (zq97_fr5 t0 t5 t6) H
def zq97_fr10 (t0 t5 t6 : AV) : List AV := t0 :: ux 4 (t5 :: t6 :: ux 193 [])
def zq97_m10 : List Bool := zq97_M 10
noncomputable def zq97_c10 : Code := codeAt [1, 0, 1, 1, 0, 1, 0, 0, 0, 0] zq97_c5
def zq97_Q10 (K : Kt) (Kb5 : Lt) : AExit → List AV → Heap → Prop := contAt tP zq97_M [1, 0, 1, 1, 0, 1, 0, 0, 0] zq97_c5 (roundQ zq97_m5 Kb5 (zq97_Q5 K))
def zq97_l10 (t0 t5 t6 : AV) (H : Heap) (K : Kt) (Kb5 : Lt) : Prop := ALoop tP zq97_c10 (zq97_Q10 K Kb5) (zq97_fr10 t0 t5 t6) H
def zq97_b10 (t0 t5 t6 : AV) (H : Heap) (K : Kt) (Kb5 : Lt) (Kb10 : Lt) : Prop :=
 aLen 0 t0 fun t42 =>
 aBin .lss false t6 t42 fun t43 =>
 aGuardJ t43 true H (fun k => k t0 H) fun t45 H =>
 aGuardJ t43 true H (fun k => k t6 H) fun t46 H =>
 aGuardJ t43 true H (fun k => aIdxS t45 t46 (k · H)) fun t47 H =>
 aGuardJ t43 true H (fun k => aBin .neq false t47 (.int .u8 10) (k · H)) fun t48 H =>
 aPick t43 t48 (.bool false) fun t49 =>
 aTest t49
 (aBin .add false t6 (.int .i64 1) fun t51 =>
 Kb10 (zq97_fr10 t0 t5 t51) H)
 (zq97_j1 t0 t5 t6 H K Kb5)
def zq97_fr18 (t0 t5 t6 t7 t8 : AV) : List AV := t0 :: ux 4 (t5 :: t6 :: t7 :: t8 :: ux 191 [])
def zq97_m18 : List Bool := zq97_M 18
noncomputable def zq97_c18 : Code := codeAt [1, 0, 1, 1, 1, 1, 0, 0, 1, 0, 0, 0, 0] zq97_c5
def zq97_Q18 (K : Kt) (Kb5 : Lt) : AExit → List AV → Heap → Prop := contAt tP zq97_M [1, 0, 1, 1, 1, 1, 0, 0, 1, 0, 0, 0] zq97_c5 (roundQ zq97_m5 Kb5 (zq97_Q5 K))
def zq97_l18 (t0 t5 t6 t7 t8 : AV) (H : Heap) (K : Kt) (Kb5 : Lt) : Prop := ALoop tP zq97_c18 (zq97_Q18 K Kb5) (zq97_fr18 t0 t5 t6 t7 t8) H
def zq97_j4 (t0 t5 t6 t8 : AV) (H : Heap) (K : Kt) (Kb5 : Lt) : Prop :=
 aBin .add false t6 t8 fun t193 =>
 zq97_j1 t0 t5 t193 H K Kb5
def zq97_j3 (t0 t5 t6 t8 : AV) (H : Heap) (K : Kt) (Kb5 : Lt) : Prop :=
 zq97_j4 t0 t5 t6 t8 H K Kb5
def zq97_j2 (t0 t5 t6 t8 t9 : AV) (H : Heap) (K : Kt) (Kb5 : Lt) : Prop :=
 aBin .add false t6 t8 fun t135 =>
 aSlice 0 0 t0 (some t6) (some t135) fun t136 =>
 aBuild [(.int .i64 0), (.str []), (.int .i64 0)] [(0, 1), (1, 1), (2, 1)] [(0, t9), (1, t136), (2, t6)] fun t138 =>
 aBuildS 3 [(.int .i64 0), (.str []), (.int .i64 0)] 1 [(0, t138)] fun t139 =>
 aAppend e_ref3_Token 3 32 t5 t139 H fun t140 H =>
 zq97_j3 t0 t140 t6 t8 H K Kb5
def zq97_b18 (t0 t5 t6 t7 t8 : AV) (H : Heap) (K : Kt) (Kb5 : Lt) (Kb18 : Lt) : Prop :=
 aBin .add false t6 t8 fun t79 =>
 aLen 0 t0 fun t81 =>
 aBin .lss false t79 t81 fun t82 =>
 aGuardJ t82 true H (fun k => k t0 H) fun t84 H =>
 aGuardJ t82 true H (fun k => k t6 H) fun t85 H =>
 aGuardJ t82 true H (fun k => k t8 H) fun t86 H =>
 aGuardJ t82 true H (fun k => aBin .add false t85 t86 (k · H)) fun t87 H =>
 aGuardJ t82 true H (fun k => aIdxS t84 t87 (k · H)) fun t88 H =>
 aGuardJ t82 true H (fun k => ACalls tP n_zq107 [t88] H k) fun t89 H =>
 aGuardJ t82 true H (fun k => k t89 H) fun t90 H =>
 aGuardJ t90 false H (fun k => k t0 H) fun t91 H =>
 aGuardJ t90 false H (fun k => k t6 H) fun t92 H =>
 aGuardJ t90 false H (fun k => k t8 H) fun t93 H =>
 aGuardJ t90 false H (fun k => aBin .add false t92 t93 (k · H)) fun t94 H =>
 aGuardJ t90 false H (fun k => aIdxS t91 t94 (k · H)) fun t95 H =>
 aGuardJ t90 false H (fun k => ACalls tP n_zq108 [t95] H k) fun t96 H =>
 aGuardJ t82 true H (fun k => aPick t90 (.bool true) t96 (k · H)) fun t97 H =>
 aGuardJ t82 true H (fun k => k t97 H) fun t98 H =>
 aGuardJ t98 false H (fun k => k t0 H) fun t99 H =>
 aGuardJ t98 false H (fun k => k t6 H) fun t100 H =>
 aGuardJ t98 false H (fun k => k t8 H) fun t101 H =>
 aGuardJ t98 false H (fun k => aBin .add false t100 t101 (k · H)) fun t102 H =>
 aGuardJ t98 false H (fun k => aIdxS t99 t102 (k · H)) fun t103 H =>
 aGuardJ t98 false H (fun k => ACalls tP n_zq109 [t103] H k) fun t104 H =>
 aGuardJ t82 true H (fun k => aPick t98 (.bool true) t104 (k · H)) fun t105 H =>
 aGuardJ t82 true H (fun k => k t105 H) fun t106 H =>
 aGuardJ t106 false H (fun k => k t0 H) fun t107 H =>
 aGuardJ t106 false H (fun k => k t6 H) fun t108 H =>
 aGuardJ t106 false H (fun k => k t8 H) fun t109 H =>
 aGuardJ t106 false H (fun k => aBin .add false t108 t109 (k · H)) fun t110 H =>
 aGuardJ t106 false H (fun k => aIdxS t107 t110 (k · H)) fun t111 H =>
 aGuardJ t106 false H (fun k => aBin .eql false t111 (.int .u8 95) (k · H)) fun t112 H =>
 aGuardJ t82 true H (fun k => aPick t106 (.bool true) t112 (k · H)) fun t113 H =>
 aPick t82 t113 (.bool false) fun t114 =>
 aTest t114
 (aBin .add false t8 (.int .i64 1) fun t116 =>
 Kb18 (zq97_fr18 t0 t5 t6 t7 t116) H)
 (aBin .gtr false t8 (.int .i64 24) fun t118 =>
 aTest t118
 (aRet [.snil, t6, (.int .i64 9)] (K · H))
 (ACalls tP n_zq108 [t7] H fun t121 H =>
 aTest t121
 (zq97_j2 t0 t5 t6 t8 (.int .i64 2) H K Kb5)
 (aBin .add false t6 t8 fun t126 =>
 aSlice 0 0 t0 (some t6) (some t126) fun t127 =>
 ACalls tP n_zq110 [t127] H fun t128 H =>
 aTest t128
 (zq97_j2 t0 t5 t6 t8 (.int .i64 4) H K Kb5)
 (zq97_j2 t0 t5 t6 t8 (.int .i64 1) H K Kb5))))
def zq97_fr29 (t0 t5 t6 t7 t8 : AV) : List AV := t0 :: ux 4 (t5 :: t6 :: t7 :: t8 :: ux 191 [])
def zq97_m29 : List Bool := zq97_M 29
noncomputable def zq97_c29 : Code := codeAt [1, 0, 1, 1, 1, 1, 0, 0, 1, 1, 1, 0, 0, 0, 0] zq97_c5
def zq97_Q29 (K : Kt) (Kb5 : Lt) : AExit → List AV → Heap → Prop := contAt tP zq97_M [1, 0, 1, 1, 1, 1, 0, 0, 1, 1, 1, 0, 0, 0] zq97_c5 (roundQ zq97_m5 Kb5 (zq97_Q5 K))
def zq97_l29 (t0 t5 t6 t7 t8 : AV) (H : Heap) (K : Kt) (Kb5 : Lt) : Prop := ALoop tP zq97_c29 (zq97_Q29 K Kb5) (zq97_fr29 t0 t5 t6 t7 t8) H
def zq97_b29 (t0 t5 t6 t7 t8 : AV) (H : Heap) (K : Kt) (Kb5 : Lt) (Kb29 : Lt) : Prop :=
 aBin .add false t6 t8 fun t146 =>
 aLen 0 t0 fun t148 =>
 aBin .lss false t146 t148 fun t149 =>
 aGuardJ t149 true H (fun k => k t0 H) fun t151 H =>
 aGuardJ t149 true H (fun k => k t6 H) fun t152 H =>
 aGuardJ t149 true H (fun k => k t8 H) fun t153 H =>
 aGuardJ t149 true H (fun k => aBin .add false t152 t153 (k · H)) fun t154 H =>
 aGuardJ t149 true H (fun k => aIdxS t151 t154 (k · H)) fun t155 H =>
 aGuardJ t149 true H (fun k => ACalls tP n_zq109 [t155] H k) fun t156 H =>
 aPick t149 t156 (.bool false) fun t157 =>
 aTest t157
 (aBin .add false t8 (.int .i64 1) fun t159 =>
 Kb29 (zq97_fr29 t0 t5 t6 t7 t159) H)
 (aBin .gtr false t8 (.int .i64 1) fun t161 =>
 aGuardJ t161 true H (fun k => k t7 H) fun t163 H =>
 aGuardJ t161 true H (fun k => aBin .eql false t163 (.int .u8 48) (k · H)) fun t164 H =>
 aPick t161 t164 (.bool false) fun t165 =>
 aTest t165
 (aRet [.snil, t6, (.int .i64 2)] (K · H))
 (aBin .add false t6 t8 fun t172 =>
 aSlice 0 0 t0 (some t6) (some t172) fun t173 =>
 ACalls tP n_zq111 [t173] H fun t174 H =>
 aExt t174 0 fun t175 =>
 aExt t174 1 fun t176 =>
 aUn .not t176 fun t178 =>
 aTest t178
 (aRet [.snil, t6, (.int .i64 9)] (K · H))
 (aBin .add false t6 t8 fun t185 =>
 aSlice 0 0 t0 (some t6) (some t185) fun t186 =>
 aBuild [(.int .i64 0), (.str []), (.int .i64 0)] [(0, 1), (1, 1), (2, 1)] [(0, (.int .i64 3)), (1, t186), (2, t6)] fun t188 =>
 aBuildS 3 [(.int .i64 0), (.str []), (.int .i64 0)] 1 [(0, t188)] fun t189 =>
 aAppend e_ref3_Token 3 32 t5 t189 H fun t190 H =>
 zq97_j3 t0 t190 t6 t8 H K Kb5)))
def zq97_b5 (t0 t5 t6 : AV) (H : Heap) (K : Kt) (Kb5 : Lt) : Prop :=
 aLen 0 t0 fun t17 =>
 aBin .lss false t6 t17 fun t18 =>
 aTest t18
 (aIdxS t0 t6 fun t21 =>
 aBin .eql false t21 (.int .u8 9) fun t23 =>
 aGuardJ t23 false H (fun k => k t21 H) fun t25 H =>
 aGuardJ t23 false H (fun k => aBin .eql false t25 (.int .u8 10) (k · H)) fun t26 H =>
 aPick t23 (.bool true) t26 fun t27 =>
 aGuardJ t27 false H (fun k => k t21 H) fun t29 H =>
 aGuardJ t27 false H (fun k => aBin .eql false t29 (.int .u8 13) (k · H)) fun t30 H =>
 aPick t27 (.bool true) t30 fun t31 =>
 aGuardJ t31 false H (fun k => k t21 H) fun t33 H =>
 aGuardJ t31 false H (fun k => aBin .eql false t33 (.int .u8 32) (k · H)) fun t34 H =>
 aPick t31 (.bool true) t34 fun t35 =>
 aTest t35
 (aBin .add false t6 (.int .i64 1) fun t37 =>
 zq97_j1 t0 t5 t37 H K Kb5)
 (aBin .eql false t21 (.int .u8 35) fun t39 =>
 aTest t39
 (zq97_l10 t0 t5 t6 H K Kb5)
 (ACalls tP n_zq107 [t21] H fun t72 H =>
 aGuardJ t72 false H (fun k => k t21 H) fun t74 H =>
 aGuardJ t72 false H (fun k => ACalls tP n_zq108 [t74] H k) fun t75 H =>
 aPick t72 (.bool true) t75 fun t76 =>
 aTest t76
 (zq97_l18 t0 t5 t6 t21 (.int .i64 1) H K Kb5)
 (ACalls tP n_zq109 [t21] H fun t143 H =>
 aTest t143
 (zq97_l29 t0 t5 t6 t21 (.int .i64 1) H K Kb5)
 (aSlice 0 0 t0 (some t6) none fun t54 =>
 ACalls tP n_zq112 [t54] H fun t55 H =>
 aBin .eql false t55 (.int .i64 0) fun t57 =>
 aTest t57
 (aRet [.snil, t6, (.int .i64 2)] (K · H))
 (aBin .add false t6 t55 fun t64 =>
 aSlice 0 0 t0 (some t6) (some t64) fun t65 =>
 aBuild [(.int .i64 0), (.str []), (.int .i64 0)] [(0, 1), (1, 1), (2, 1)] [(0, (.int .i64 5)), (1, t65), (2, t6)] fun t67 =>
 aBuildS 3 [(.int .i64 0), (.str []), (.int .i64 0)] 1 [(0, t67)] fun t68 =>
 aAppend e_ref3_Token 3 32 t5 t68 H fun t69 H =>
 zq97_j3 t0 t69 t6 t55 H K Kb5))))))
 (aLen 0 t0 fun t196 =>
 aBuild [(.int .i64 0), (.str []), (.int .i64 0)] [(0, 1), (1, 1), (2, 1)] [(0, (.int .i64 6)), (1, (.str [])), (2, t196)] fun t197 =>
 aBuildS 3 [(.int .i64 0), (.str []), (.int .i64 0)] 1 [(0, t197)] fun t198 =>
 aAppend e_ref3_Token 3 32 t5 t198 H fun t199 H =>
 aRet [t199, (.int .i64 0), (.int .i64 0)] (K · H))
def zq97 (t0 : AV) (H : Heap) (K : Kt) : Prop :=
 aLen 0 t0 fun t13 =>
 aBin .gtr false t13 (.int .i64 16384) fun t14 =>
 aTest t14
 (aRet [.snil, (.int .i64 0), (.int .i64 9)] (K · H))
 (zq97_l5 t0 .snil (.int .i64 0) H K)
theorem zq97_b10_eq (t0 t5 t6 : AV) (H : Heap) (K : Kt) (Kb5 : Lt) (Kb10 : Lt) : awp tP zq97_M zq97_c10 (roundQ zq97_m10 Kb10 (zq97_Q10 K Kb5)) (zq97_fr10 t0 t5 t6) H = zq97_b10 t0 t5 t6 H K Kb5 Kb10 := by kernel_rfl
theorem zq97_loop10 {t0 t5 t6 : AV} {H : Heap} {K : Kt} {Kb5 : Lt} (Inv : Nat → AV → Heap → Prop) (n : Nat) (h0 : HSc H → Inv n t6 H)
   (round : ∀ n t6 H', Inv n t6 H' → HSc H' → H.length ≤ H'.length → (zq97_fr10 t0 t5 t6).all (AV.sc H'.length) = true → ∀ Kb10 : Lt, (∀ F'' H'', (∃ n', n' < n ∧ Back H.length (fun F2 H2 => ∃ t6, F2 = zq97_fr10 t0 t5 t6 ∧ Inv n' t6 H2) F'' H'') → Kb10 F'' H'') → zq97_b10 t0 t5 t6 H' K Kb5 Kb10) : zq97_l10 t0 t5 t6 H K Kb5 :=
 aloop (M := zq97_M) zq97_m10 (fun n F H => ∃ t6, F = zq97_fr10 t0 t5 t6 ∧ Inv n t6 H) n (fun hs _ => ⟨t6, rfl, h0 hs⟩) (fun n F H' ⟨t6, hF, hI⟩ h1 h2 h3 => by subst hF; rw [zq97_b10_eq]; exact round n t6 H' hI h1 h2 h3 _ (fun _ _ h => h))
theorem zq97_b18_eq (t0 t5 t6 t7 t8 : AV) (H : Heap) (K : Kt) (Kb5 : Lt) (Kb18 : Lt) : awp tP zq97_M zq97_c18 (roundQ zq97_m18 Kb18 (zq97_Q18 K Kb5)) (zq97_fr18 t0 t5 t6 t7 t8) H = zq97_b18 t0 t5 t6 t7 t8 H K Kb5 Kb18 := by kernel_rfl
theorem zq97_loop18 {t0 t5 t6 t7 t8 : AV} {H : Heap} {K : Kt} {Kb5 : Lt} (Inv : Nat → AV → Heap → Prop) (n : Nat) (h0 : HSc H → Inv n t8 H)
   (round : ∀ n t8 H', Inv n t8 H' → HSc H' → H.length ≤ H'.length → (zq97_fr18 t0 t5 t6 t7 t8).all (AV.sc H'.length) = true → ∀ Kb18 : Lt, (∀ F'' H'', (∃ n', n' < n ∧ Back H.length (fun F2 H2 => ∃ t8, F2 = zq97_fr18 t0 t5 t6 t7 t8 ∧ Inv n' t8 H2) F'' H'') → Kb18 F'' H'') → zq97_b18 t0 t5 t6 t7 t8 H' K Kb5 Kb18) : zq97_l18 t0 t5 t6 t7 t8 H K Kb5 :=
 aloop (M := zq97_M) zq97_m18 (fun n F H => ∃ t8, F = zq97_fr18 t0 t5 t6 t7 t8 ∧ Inv n t8 H) n (fun hs _ => ⟨t8, rfl, h0 hs⟩) (fun n F H' ⟨t8, hF, hI⟩ h1 h2 h3 => by subst hF; rw [zq97_b18_eq]; exact round n t8 H' hI h1 h2 h3 _ (fun _ _ h => h))
theorem zq97_b29_eq (t0 t5 t6 t7 t8 : AV) (H : Heap) (K : Kt) (Kb5 : Lt) (Kb29 : Lt) : awp tP zq97_M zq97_c29 (roundQ zq97_m29 Kb29 (zq97_Q29 K Kb5)) (zq97_fr29 t0 t5 t6 t7 t8) H = zq97_b29 t0 t5 t6 t7 t8 H K Kb5 Kb29 := by kernel_rfl
theorem zq97_loop29 {t0 t5 t6 t7 t8 : AV} {H : Heap} {K : Kt} {Kb5 : Lt} (Inv : Nat → AV → Heap → Prop) (n : Nat) (h0 : HSc H → Inv n t8 H)
   (round : ∀ n t8 H', Inv n t8 H' → HSc H' → H.length ≤ H'.length → (zq97_fr29 t0 t5 t6 t7 t8).all (AV.sc H'.length) = true → ∀ Kb29 : Lt, (∀ F'' H'', (∃ n', n' < n ∧ Back H.length (fun F2 H2 => ∃ t8, F2 = zq97_fr29 t0 t5 t6 t7 t8 ∧ Inv n' t8 H2) F'' H'') → Kb29 F'' H'') → zq97_b29 t0 t5 t6 t7 t8 H' K Kb5 Kb29) : zq97_l29 t0 t5 t6 t7 t8 H K Kb5 :=
 aloop (M := zq97_M) zq97_m29 (fun n F H => ∃ t8, F = zq97_fr29 t0 t5 t6 t7 t8 ∧ Inv n t8 H) n (fun hs _ => ⟨t8, rfl, h0 hs⟩) (fun n F H' ⟨t8, hF, hI⟩ h1 h2 h3 => by subst hF; rw [zq97_b29_eq]; exact round n t8 H' hI h1 h2 h3 _ (fun _ _ h => h))
theorem zq97_b5_eq (t0 t5 t6 : AV) (H : Heap) (K : Kt) (Kb5 : Lt) : awp tP zq97_M zq97_c5 (roundQ zq97_m5 Kb5 (zq97_Q5 K)) (zq97_fr5 t0 t5 t6) H = zq97_b5 t0 t5 t6 H K Kb5 := by kernel_rfl
theorem zq97_loop5 {t0 t5 t6 : AV} {H : Heap} {K : Kt} (Inv : Nat → AV → AV → Heap → Prop) (n : Nat) (h0 : HSc H → Inv n t5 t6 H)
   (round : ∀ n t5 t6 H', Inv n t5 t6 H' → HSc H' → H.length ≤ H'.length → (zq97_fr5 t0 t5 t6).all (AV.sc H'.length) = true → ∀ Kb5 : Lt, (∀ F'' H'', (∃ n', n' < n ∧ Back H.length (fun F2 H2 => ∃ t5 t6, F2 = zq97_fr5 t0 t5 t6 ∧ Inv n' t5 t6 H2) F'' H'') → Kb5 F'' H'') → zq97_b5 t0 t5 t6 H' K Kb5) : zq97_l5 t0 t5 t6 H K :=
 aloop (M := zq97_M) zq97_m5 (fun n F H => ∃ t5 t6, F = zq97_fr5 t0 t5 t6 ∧ Inv n t5 t6 H) n (fun hs _ => ⟨t5, t6, rfl, h0 hs⟩) (fun n F H' ⟨t5, t6, hF, hI⟩ h1 h2 h3 => by subst hF; rw [zq97_b5_eq]; exact round n t5 t6 H' hI h1 h2 h3 _ (fun _ _ h => h))
theorem zq97_eq (t0 : AV) (H : Heap) (K : Kt) : awp tP zq97_M zq97_c (retQ tP zq97_r K) (t0 :: List.replicate 199 .unk) H = zq97 t0 H K := by kernel_rfl
theorem zq97_ok {t0 : AV} {H : Heap} {K : Kt} (h : HSc H → zq97 t0 H K) : ACalls tP n_zq97 [t0] H K :=
 acalls_body (M := zq97_M) Try.func99 (c := zq97_c) (by kernel_rfl) (fun hs => (zq97_eq t0 H K).mpr (h hs))
def zq99_M (_ : Nat) : List Bool := []
noncomputable def zq99_c : Code := Try.f101.body.getD .skip
noncomputable def zq99_r : List ResultVar := Try.f101.results.toList
def zq99 (t0 : AV) (H : Heap) (K : Kt) : Prop :=
 aBin .eql false t0 (.int .u8 9) fun t4 =>
 aGuardJ t4 false H (fun k => k t0 H) fun t6 H =>
 aGuardJ t4 false H (fun k => aBin .eql false t6 (.int .u8 10) (k · H)) fun t7 H =>
 aPick t4 (.bool true) t7 fun t8 =>
 aGuardJ t8 false H (fun k => k t0 H) fun t10 H =>
 aGuardJ t8 false H (fun k => aBin .eql false t10 (.int .u8 13) (k · H)) fun t11 H =>
 aPick t8 (.bool true) t11 fun t12 =>
 aGuardJ t12 false H (fun k => k t0 H) fun t14 H =>
 aGuardJ t12 false H (fun k => aBin .eql false t14 (.int .u8 32) (k · H)) fun t15 H =>
 aPick t12 (.bool true) t15 fun t16 =>
 K t16 H
theorem zq99_eq (t0 : AV) (H : Heap) (K : Kt) : awp tP zq99_M zq99_c (retQ tP zq99_r K) (t0 :: List.replicate 16 .unk) H = zq99 t0 H K := by kernel_rfl
theorem zq99_ok {t0 : AV} {H : Heap} {K : Kt} (h : HSc H → zq99 t0 H K) : ACalls tP n_zq99 [t0] H K :=
 acalls_body (M := zq99_M) Try.func101 (c := zq99_c) (by kernel_rfl) (fun hs => (zq99_eq t0 H K).mpr (h hs))
def zq100_M (_ : Nat) : List Bool := []
noncomputable def zq100_c : Code := Try.f102.body.getD .skip
noncomputable def zq100_r : List ResultVar := Try.f102.results.toList
def zq100_j3 (t4 t6 : AV) (H : Heap) (K : Kt) : Prop :=
 aLoad true 3 t6 H fun t74 =>
 aStore 3 t4 t74 H fun H =>
 aLoad true 3 t4 H fun r0 =>
 aRet [r0, (.int .i64 0)] (K · H)
def zq100_j2 (t4 t6 : AV) (H : Heap) (K : Kt) : Prop :=
 zq100_j3 t4 t6 H K
def zq100_j1 (t4 t6 : AV) (H : Heap) (K : Kt) : Prop :=
 zq100_j2 t4 t6 H K
def zq100 (t0 t1 : AV) (H : Heap) (K : Kt) : Prop :=
 aNew [(.int .i64 0), (.str []), (.int .i64 0)] H fun t4 H =>
 aBuild [(.int .i64 0), (.str []), (.int .i64 0)] [(0, 1), (1, 1), (2, 1)] [(2, t1)] fun t9 =>
 aNew [(.int .i64 0), (.str []), (.int .i64 0)] H fun t6 H =>
 aStore 3 t6 t9 H fun H =>
 aIdxS t0 t1 fun t12 =>
 ACalls tP n_zq114 [t12] H fun t25 H =>
 aGuardJ t25 false H (fun k => k t12 H) fun t27 H =>
 aGuardJ t25 false H (fun k => ACalls tP n_zq115 [t27] H k) fun t28 H =>
 aPick t25 (.bool true) t28 fun t29 =>
 aTest t29
 (aSlice 0 0 t0 (some t1) none fun t32 =>
 ACalls tP n_zq116 [t32, (.fn n_zq117 [])] H fun t33 H =>
 aFld 1 t6 fun t34 =>
 aStore 1 t34 t33 H fun H =>
 aFld 1 t6 fun t37 =>
 aLoad false 1 t37 H fun t38 =>
 aLen 0 t38 fun t39 =>
 aBin .gtr false t39 (.int .i64 24) fun t40 =>
 aTest t40
 (aBuild [(.int .i64 0), (.str []), (.int .i64 0)] [(0, 1), (1, 1), (2, 1)] [] fun t41 =>
 aStore 3 t4 t41 H fun H =>
 aLoad true 3 t4 H fun r0 =>
 aRet [r0, (.int .i64 9)] (K · H))
 (ACalls tP n_zq115 [t12] H fun t44 H =>
 aTest t44
 (aFld 0 t6 fun t45 =>
 aStore 1 t45 (.int .i64 2) H fun H =>
 zq100_j1 t4 t6 H K)
 (aFld 1 t6 fun t47 =>
 aLoad false 1 t47 H fun t48 =>
 ACalls tP n_zq118 [t48] H fun t49 H =>
 aTest t49
 (aFld 0 t6 fun t50 =>
 aStore 1 t50 (.int .i64 4) H fun H =>
 zq100_j1 t4 t6 H K)
 (aFld 0 t6 fun t35 =>
 aStore 1 t35 (.int .i64 1) H fun H =>
 zq100_j1 t4 t6 H K))))
 (ACalls tP n_zq119 [t12] H fun t53 H =>
 aTest t53
 (aFld 0 t6 fun t54 =>
 aStore 1 t54 (.int .i64 3) H fun H =>
 aSlice 0 0 t0 (some t1) none fun t57 =>
 ACalls tP n_zq116 [t57, (.fn n_zq119 [])] H fun t58 H =>
 aFld 1 t6 fun t59 =>
 aStore 1 t59 t58 H fun H =>
 aBin .eql false t12 (.int .u8 48) fun t61 =>
 aGuardJ t61 true H (fun k => aFld 1 t6 (k · H)) fun t63 H =>
 aGuardJ t61 true H (fun k => aLoad false 1 t63 H (k · H)) fun t64 H =>
 aGuardJ t61 true H (fun k => aLen 0 t64 (k · H)) fun t65 H =>
 aGuardJ t61 true H (fun k => aBin .gtr false t65 (.int .i64 1) (k · H)) fun t66 H =>
 aPick t61 t66 (.bool false) fun t67 =>
 aTest t67
 (aBuild [(.int .i64 0), (.str []), (.int .i64 0)] [(0, 1), (1, 1), (2, 1)] [] fun t68 =>
 aStore 3 t4 t68 H fun H =>
 aLoad true 3 t4 H fun r0 =>
 aRet [r0, (.int .i64 2)] (K · H))
 (aFld 1 t6 fun t69 =>
 aLoad false 1 t69 H fun t70 =>
 ACalls tP n_zq120 [t70] H fun t71 H =>
 aUn .not t71 fun t72 =>
 aTest t72
 (aBuild [(.int .i64 0), (.str []), (.int .i64 0)] [(0, 1), (1, 1), (2, 1)] [] fun t73 =>
 aStore 3 t4 t73 H fun H =>
 aLoad true 3 t4 H fun r0 =>
 aRet [r0, (.int .i64 9)] (K · H))
 (zq100_j2 t4 t6 H K)))
 (aFld 0 t6 fun t13 =>
 aStore 1 t13 (.int .i64 5) H fun H =>
 aSlice 0 0 t0 (some t1) none fun t16 =>
 ACalls tP n_zq121 [t16] H fun t17 H =>
 aFld 1 t6 fun t18 =>
 aStore 1 t18 t17 H fun H =>
 aFld 1 t6 fun t19 =>
 aLoad false 1 t19 H fun t20 =>
 aBin .eql false t20 (.str []) fun t21 =>
 aTest t21
 (aBuild [(.int .i64 0), (.str []), (.int .i64 0)] [(0, 1), (1, 1), (2, 1)] [] fun t22 =>
 aStore 3 t4 t22 H fun H =>
 aLoad true 3 t4 H fun r0 =>
 aRet [r0, (.int .i64 2)] (K · H))
 (zq100_j2 t4 t6 H K)))
theorem zq100_eq (t0 t1 : AV) (H : Heap) (K : Kt) : awp tP zq100_M zq100_c (retQ tP zq100_r K) (t0 :: t1 :: List.replicate 73 .unk) H = zq100 t0 t1 H K := by kernel_rfl
theorem zq100_ok {t0 t1 : AV} {H : Heap} {K : Kt} (h : HSc H → zq100 t0 t1 H K) : ACalls tP n_zq100 [t0, t1] H K :=
 acalls_body (M := zq100_M) Try.func102 (c := zq100_c) (by kernel_rfl) (fun hs => (zq100_eq t0 t1 H K).mpr (h hs))
def zq107_M (_ : Nat) : List Bool := []
noncomputable def zq107_c : Code := Try.f109.body.getD .skip
noncomputable def zq107_r : List ResultVar := Try.f109.results.toList
def zq107 (t0 : AV) (H : Heap) (K : Kt) : Prop :=
 aBin .geq false t0 (.int .u8 97) fun t4 =>
 aGuardJ t4 true H (fun k => k t0 H) fun t6 H =>
 aGuardJ t4 true H (fun k => aBin .leq false t6 (.int .u8 122) (k · H)) fun t7 H =>
 aPick t4 t7 (.bool false) fun t8 =>
 K t8 H
theorem zq107_eq (t0 : AV) (H : Heap) (K : Kt) : awp tP zq107_M zq107_c (retQ tP zq107_r K) (t0 :: List.replicate 8 .unk) H = zq107 t0 H K := by kernel_rfl
theorem zq107_ok {t0 : AV} {H : Heap} {K : Kt} (h : HSc H → zq107 t0 H K) : ACalls tP n_zq107 [t0] H K :=
 acalls_body (M := zq107_M) Try.func109 (c := zq107_c) (by kernel_rfl) (fun hs => (zq107_eq t0 H K).mpr (h hs))
def zq108_M (_ : Nat) : List Bool := []
noncomputable def zq108_c : Code := Try.f110.body.getD .skip
noncomputable def zq108_r : List ResultVar := Try.f110.results.toList
def zq108 (t0 : AV) (H : Heap) (K : Kt) : Prop :=
 aBin .geq false t0 (.int .u8 65) fun t4 =>
 aGuardJ t4 true H (fun k => k t0 H) fun t6 H =>
 aGuardJ t4 true H (fun k => aBin .leq false t6 (.int .u8 90) (k · H)) fun t7 H =>
 aPick t4 t7 (.bool false) fun t8 =>
 K t8 H
theorem zq108_eq (t0 : AV) (H : Heap) (K : Kt) : awp tP zq108_M zq108_c (retQ tP zq108_r K) (t0 :: List.replicate 8 .unk) H = zq108 t0 H K := by kernel_rfl
theorem zq108_ok {t0 : AV} {H : Heap} {K : Kt} (h : HSc H → zq108 t0 H K) : ACalls tP n_zq108 [t0] H K :=
 acalls_body (M := zq108_M) Try.func110 (c := zq108_c) (by kernel_rfl) (fun hs => (zq108_eq t0 H K).mpr (h hs))
def zq109_M (_ : Nat) : List Bool := []
noncomputable def zq109_c : Code := Try.f111.body.getD .skip
noncomputable def zq109_r : List ResultVar := Try.f111.results.toList
def zq109 (t0 : AV) (H : Heap) (K : Kt) : Prop :=
 aBin .geq false t0 (.int .u8 48) fun t4 =>
 aGuardJ t4 true H (fun k => k t0 H) fun t6 H =>
 aGuardJ t4 true H (fun k => aBin .leq false t6 (.int .u8 57) (k · H)) fun t7 H =>
 aPick t4 t7 (.bool false) fun t8 =>
 K t8 H
theorem zq109_eq (t0 : AV) (H : Heap) (K : Kt) : awp tP zq109_M zq109_c (retQ tP zq109_r K) (t0 :: List.replicate 8 .unk) H = zq109 t0 H K := by kernel_rfl
theorem zq109_ok {t0 : AV} {H : Heap} {K : Kt} (h : HSc H → zq109 t0 H K) : ACalls tP n_zq109 [t0] H K :=
 acalls_body (M := zq109_M) Try.func111 (c := zq109_c) (by kernel_rfl) (fun hs => (zq109_eq t0 H K).mpr (h hs))
def zq110_M : Nat → List Bool
 | 3 => rl false [0,1,2,2,13]
 | _ => []
noncomputable def zq110_c : Code := Try.f112.body.getD .skip
noncomputable def zq110_r : List ResultVar := Try.f112.results.toList
def zq110_fr3 (t0 t3 t4 : AV) : List AV := t0 :: ux 2 (t3 :: t4 :: ux 13 [])
def zq110_m3 : List Bool := zq110_M 3
noncomputable def zq110_c3 : Code := codeAt [1, 1, 0, 1, 0, 0] zq110_c
def zq110_Q3 (K : Kt) : AExit → List AV → Heap → Prop := contAt tP zq110_M [1, 1, 0, 1, 0] zq110_c (retQ tP zq110_r K)
def zq110_l3 (t0 t3 t4 : AV) (H : Heap) (K : Kt) : Prop := ALoop tP zq110_c3 (zq110_Q3 K) (zq110_fr3 t0 t3 t4) H
def zq110_b3 (t0 t3 t4 : AV) (H : Heap) (K : Kt) (Kb3 : Lt) : Prop :=
 aLen 1 t3 fun t8 =>
 aBin .lss false t4 t8 fun t9 =>
 aTest t9
 (aIdxA 1 t3 t4 fun t14 =>
 aLoad false 1 t14 H fun t15 =>
 aBin .eql false t15 t0 fun t17 =>
 aTest t17
 (K (.bool true) H)
 (aBin .add false t4 (.int .i64 1) fun t11 =>
 Kb3 (zq110_fr3 t0 t3 t11) H))
 (K (.bool false) H)
def zq110 (t0 : AV) (H : Heap) (K : Kt) : Prop :=
 aBuildS 1 [(.str [])] 28 [(0, (.str [97, 114, 114, 97, 121])), (1, (.str [98, 111, 111, 108])), (2, (.str [99, 97, 116, 99, 104])), (3, (.str [100, 97, 116, 97])), (4, (.str [101, 108, 115, 101])), (5, (.str [101, 110, 100])), (6, (.str [102, 97, 108, 115, 101])), (7, (.str [102, 110])), (8, (.str [102, 117, 110])), (9, (.str [103, 101, 116])), (10, (.str [105, 102])), (11, (.str [105, 110])), (12, (.str [105, 110, 116])), (13, (.str [108, 101, 110])), (14, (.str [108, 101, 116])), (15, (.str [109, 97, 116, 99, 104])), (16, (.str [110, 101, 119])), (17, (.str [114, 97, 105, 115, 101])), (18, (.str [114, 101, 97, 100])), (19, (.str [114, 101, 102])), (20, (.str [115, 101, 116])), (21, (.str [116, 104, 101, 110])), (22, (.str [116, 105, 99, 107])), (23, (.str [116, 114, 117, 101])), (24, (.str [116, 114, 121])), (25, (.str [117, 110, 105, 116])), (26, (.str [119, 105, 116, 104])), (27, (.str [119, 114, 105, 116, 101]))] fun t5 =>
 zq110_l3 t0 t5 (.int .i64 0) H K
theorem zq110_b3_eq (t0 t3 t4 : AV) (H : Heap) (K : Kt) (Kb3 : Lt) : awp tP zq110_M zq110_c3 (roundQ zq110_m3 Kb3 (zq110_Q3 K)) (zq110_fr3 t0 t3 t4) H = zq110_b3 t0 t3 t4 H K Kb3 := by kernel_rfl
theorem zq110_loop3 {t0 t3 t4 : AV} {H : Heap} {K : Kt} (Inv : Nat → AV → Heap → Prop) (n : Nat) (h0 : HSc H → Inv n t4 H)
   (round : ∀ n t4 H', Inv n t4 H' → HSc H' → H.length ≤ H'.length → (zq110_fr3 t0 t3 t4).all (AV.sc H'.length) = true → ∀ Kb3 : Lt, (∀ F'' H'', (∃ n', n' < n ∧ Back H.length (fun F2 H2 => ∃ t4, F2 = zq110_fr3 t0 t3 t4 ∧ Inv n' t4 H2) F'' H'') → Kb3 F'' H'') → zq110_b3 t0 t3 t4 H' K Kb3) : zq110_l3 t0 t3 t4 H K :=
 aloop (M := zq110_M) zq110_m3 (fun n F H => ∃ t4, F = zq110_fr3 t0 t3 t4 ∧ Inv n t4 H) n (fun hs _ => ⟨t4, rfl, h0 hs⟩) (fun n F H' ⟨t4, hF, hI⟩ h1 h2 h3 => by subst hF; rw [zq110_b3_eq]; exact round n t4 H' hI h1 h2 h3 _ (fun _ _ h => h))
theorem zq110_eq (t0 : AV) (H : Heap) (K : Kt) : awp tP zq110_M zq110_c (retQ tP zq110_r K) (t0 :: List.replicate 17 .unk) H = zq110 t0 H K := by kernel_rfl
theorem zq110_ok {t0 : AV} {H : Heap} {K : Kt} (h : HSc H → zq110 t0 H K) : ACalls tP n_zq110 [t0] H K :=
 acalls_body (M := zq110_M) Try.func112 (c := zq110_c) (by kernel_rfl) (fun hs => (zq110_eq t0 H K).mpr (h hs))
def zq111_M : Nat → List Bool
 | 3 => rl false [0,1,3,2,17]
 | _ => []
noncomputable def zq111_c : Code := Try.f113.body.getD .skip
noncomputable def zq111_r : List ResultVar := Try.f113.results.toList
def zq111_fr3 (t0 t4 t5 : AV) : List AV := t0 :: ux 3 (t4 :: t5 :: ux 17 [])
def zq111_m3 : List Bool := zq111_M 3
noncomputable def zq111_c3 : Code := codeAt [1, 1, 0, 1, 0, 0] zq111_c
def zq111_Q3 (K : Kt) : AExit → List AV → Heap → Prop := contAt tP zq111_M [1, 1, 0, 1, 0] zq111_c (retQ tP zq111_r K)
def zq111_l3 (t0 t4 t5 : AV) (H : Heap) (K : Kt) : Prop := ALoop tP zq111_c3 (zq111_Q3 K) (zq111_fr3 t0 t4 t5) H
def zq111_b3 (t0 t4 t5 : AV) (H : Heap) (K : Kt) (Kb3 : Lt) : Prop :=
 aLen 0 t0 fun t8 =>
 aBin .lss false t5 t8 fun t9 =>
 aTest t9
 (aBin .mul false t4 (.int .i64 10) fun t13 =>
 aIdxS t0 t5 fun t16 =>
 aBin .sub false t16 (.int .u8 48) fun t17 =>
 aConv .i64 t17 fun t18 =>
 aBin .add false t13 t18 fun t19 =>
 aBin .gtr false t19 (.int .i64 1000000) fun t21 =>
 aTest t21
 (aRet [(.int .i64 0), (.bool false)] (K · H))
 (aBin .add false t5 (.int .i64 1) fun t11 =>
 Kb3 (zq111_fr3 t0 t19 t11) H))
 (aRet [t4, (.bool true)] (K · H))
def zq111 (t0 : AV) (H : Heap) (K : Kt) : Prop :=
 zq111_l3 t0 (.int .i64 0) (.int .i64 0) H K
theorem zq111_b3_eq (t0 t4 t5 : AV) (H : Heap) (K : Kt) (Kb3 : Lt) : awp tP zq111_M zq111_c3 (roundQ zq111_m3 Kb3 (zq111_Q3 K)) (zq111_fr3 t0 t4 t5) H = zq111_b3 t0 t4 t5 H K Kb3 := by kernel_rfl
theorem zq111_loop3 {t0 t4 t5 : AV} {H : Heap} {K : Kt} (Inv : Nat → AV → AV → Heap → Prop) (n : Nat) (h0 : HSc H → Inv n t4 t5 H)
   (round : ∀ n t4 t5 H', Inv n t4 t5 H' → HSc H' → H.length ≤ H'.length → (zq111_fr3 t0 t4 t5).all (AV.sc H'.length) = true → ∀ Kb3 : Lt, (∀ F'' H'', (∃ n', n' < n ∧ Back H.length (fun F2 H2 => ∃ t4 t5, F2 = zq111_fr3 t0 t4 t5 ∧ Inv n' t4 t5 H2) F'' H'') → Kb3 F'' H'') → zq111_b3 t0 t4 t5 H' K Kb3) : zq111_l3 t0 t4 t5 H K :=
 aloop (M := zq111_M) zq111_m3 (fun n F H => ∃ t4 t5, F = zq111_fr3 t0 t4 t5 ∧ Inv n t4 t5 H) n (fun hs _ => ⟨t4, t5, rfl, h0 hs⟩) (fun n F H' ⟨t4, t5, hF, hI⟩ h1 h2 h3 => by subst hF; rw [zq111_b3_eq]; exact round n t4 t5 H' hI h1 h2 h3 _ (fun _ _ h => h))
theorem zq111_eq (t0 : AV) (H : Heap) (K : Kt) : awp tP zq111_M zq111_c (retQ tP zq111_r K) (t0 :: List.replicate 22 .unk) H = zq111 t0 H K := by kernel_rfl
theorem zq111_ok {t0 : AV} {H : Heap} {K : Kt} (h : HSc H → zq111 t0 H K) : ACalls tP n_zq111 [t0] H K :=
 acalls_body (M := zq111_M) Try.func113 (c := zq111_c) (by kernel_rfl) (fun hs => (zq111_eq t0 H K).mpr (h hs))
def zq112_M : Nat → List Bool
 | 5 => rl false [0,1,2,2,30]
 | _ => []
noncomputable def zq112_c : Code := Try.f114.body.getD .skip
noncomputable def zq112_r : List ResultVar := Try.f114.results.toList
def zq112_fr5 (t0 t3 t4 : AV) : List AV := t0 :: ux 2 (t3 :: t4 :: ux 30 [])
def zq112_m5 : List Bool := zq112_M 5
noncomputable def zq112_c5 : Code := codeAt [1, 1, 1, 0, 1, 0, 0] zq112_c
def zq112_Q5 (K : Kt) : AExit → List AV → Heap → Prop := contAt tP zq112_M [1, 1, 1, 0, 1, 0] zq112_c (retQ tP zq112_r K)
def zq112_l5 (t0 t3 t4 : AV) (H : Heap) (K : Kt) : Prop := ALoop tP zq112_c5 (zq112_Q5 K) (zq112_fr5 t0 t3 t4) H
def zq112_b5 (t0 t3 t4 : AV) (H : Heap) (K : Kt) (Kb5 : Lt) : Prop :=
 aLen 0 t3 fun t25 =>
 aBin .lss false t4 t25 fun t26 =>
 aTest t26
 (aPure H (fun k => k t0 H) fun t29 =>
 aPure H (fun k => aIdxS t29 (.int .i64 0) (k · H)) fun t30 =>
 aPure H (fun k => k t3 H) fun t31 =>
 aPure H (fun k => k t4 H) fun t32 =>
 aPure H (fun k => aIdxS t31 t32 (k · H)) fun t33 =>
 aPure H (fun k => aBin .eql false t30 t33 (k · H)) fun t34 =>
 aTest t34
 (K (.int .i64 1) H)
 (aBin .add false t4 (.int .i64 1) fun t28 =>
 Kb5 (zq112_fr5 t0 t3 t28) H))
 (K (.int .i64 0) H)
def zq112 (t0 : AV) (H : Heap) (K : Kt) : Prop :=
 aLen 0 t0 fun t6 =>
 aBin .geq false t6 (.int .i64 2) fun t7 =>
 aGuardJ t7 true H (fun k => k t0 H) fun t9 H =>
 aGuardJ t7 true H (fun k => aSlice 0 0 t9 none (some (.int .i64 2)) (k · H)) fun t10 H =>
 aGuardJ t7 true H (fun k => aBin .eql false t10 (.str [45, 62]) (k · H)) fun t11 H =>
 aGuardJ t7 true H (fun k => k t11 H) fun t12 H =>
 aGuardJ t12 false H (fun k => k t0 H) fun t13 H =>
 aGuardJ t12 false H (fun k => aSlice 0 0 t13 none (some (.int .i64 2)) (k · H)) fun t14 H =>
 aGuardJ t12 false H (fun k => aBin .eql false t14 (.str [60, 61]) (k · H)) fun t15 H =>
 aGuardJ t7 true H (fun k => aPick t12 (.bool true) t15 (k · H)) fun t16 H =>
 aGuardJ t7 true H (fun k => k t16 H) fun t17 H =>
 aGuardJ t17 false H (fun k => k t0 H) fun t18 H =>
 aGuardJ t17 false H (fun k => aSlice 0 0 t18 none (some (.int .i64 2)) (k · H)) fun t19 H =>
 aGuardJ t17 false H (fun k => aBin .eql false t19 (.str [61, 61]) (k · H)) fun t20 H =>
 aGuardJ t7 true H (fun k => aPick t17 (.bool true) t20 (k · H)) fun t21 H =>
 aPick t7 t21 (.bool false) fun t22 =>
 aTest t22
 (K (.int .i64 2) H)
 (zq112_l5 t0 (.str [40, 41, 44, 61, 124, 43, 45, 42, 47, 37, 60, 59, 95]) (.int .i64 0) H K)
theorem zq112_b5_eq (t0 t3 t4 : AV) (H : Heap) (K : Kt) (Kb5 : Lt) : awp tP zq112_M zq112_c5 (roundQ zq112_m5 Kb5 (zq112_Q5 K)) (zq112_fr5 t0 t3 t4) H = zq112_b5 t0 t3 t4 H K Kb5 := by kernel_rfl
theorem zq112_loop5 {t0 t3 t4 : AV} {H : Heap} {K : Kt} (Inv : Nat → AV → Heap → Prop) (n : Nat) (h0 : HSc H → Inv n t4 H)
   (round : ∀ n t4 H', Inv n t4 H' → HSc H' → H.length ≤ H'.length → (zq112_fr5 t0 t3 t4).all (AV.sc H'.length) = true → ∀ Kb5 : Lt, (∀ F'' H'', (∃ n', n' < n ∧ Back H.length (fun F2 H2 => ∃ t4, F2 = zq112_fr5 t0 t3 t4 ∧ Inv n' t4 H2) F'' H'') → Kb5 F'' H'') → zq112_b5 t0 t3 t4 H' K Kb5) : zq112_l5 t0 t3 t4 H K :=
 aloop (M := zq112_M) zq112_m5 (fun n F H => ∃ t4, F = zq112_fr5 t0 t3 t4 ∧ Inv n t4 H) n (fun hs _ => ⟨t4, rfl, h0 hs⟩) (fun n F H' ⟨t4, hF, hI⟩ h1 h2 h3 => by subst hF; rw [zq112_b5_eq]; exact round n t4 H' hI h1 h2 h3 _ (fun _ _ h => h))
theorem zq112_eq (t0 : AV) (H : Heap) (K : Kt) : awp tP zq112_M zq112_c (retQ tP zq112_r K) (t0 :: List.replicate 34 .unk) H = zq112 t0 H K := by kernel_rfl
theorem zq112_ok {t0 : AV} {H : Heap} {K : Kt} (h : HSc H → zq112 t0 H K) : ACalls tP n_zq112 [t0] H K :=
 acalls_body (M := zq112_M) Try.func114 (c := zq112_c) (by kernel_rfl) (fun hs => (zq112_eq t0 H K).mpr (h hs))
def zq114_M (_ : Nat) : List Bool := []
noncomputable def zq114_c : Code := Try.f116.body.getD .skip
noncomputable def zq114_r : List ResultVar := Try.f116.results.toList
def zq114 (t0 : AV) (H : Heap) (K : Kt) : Prop :=
 aBin .geq false t0 (.int .u8 97) fun t4 =>
 aGuardJ t4 true H (fun k => k t0 H) fun t6 H =>
 aGuardJ t4 true H (fun k => aBin .leq false t6 (.int .u8 122) (k · H)) fun t7 H =>
 aPick t4 t7 (.bool false) fun t8 =>
 K t8 H
theorem zq114_eq (t0 : AV) (H : Heap) (K : Kt) : awp tP zq114_M zq114_c (retQ tP zq114_r K) (t0 :: List.replicate 8 .unk) H = zq114 t0 H K := by kernel_rfl
theorem zq114_ok {t0 : AV} {H : Heap} {K : Kt} (h : HSc H → zq114 t0 H K) : ACalls tP n_zq114 [t0] H K :=
 acalls_body (M := zq114_M) Try.func116 (c := zq114_c) (by kernel_rfl) (fun hs => (zq114_eq t0 H K).mpr (h hs))
def zq115_M (_ : Nat) : List Bool := []
noncomputable def zq115_c : Code := Try.f117.body.getD .skip
noncomputable def zq115_r : List ResultVar := Try.f117.results.toList
def zq115 (t0 : AV) (H : Heap) (K : Kt) : Prop :=
 aBin .geq false t0 (.int .u8 65) fun t4 =>
 aGuardJ t4 true H (fun k => k t0 H) fun t6 H =>
 aGuardJ t4 true H (fun k => aBin .leq false t6 (.int .u8 90) (k · H)) fun t7 H =>
 aPick t4 t7 (.bool false) fun t8 =>
 K t8 H
theorem zq115_eq (t0 : AV) (H : Heap) (K : Kt) : awp tP zq115_M zq115_c (retQ tP zq115_r K) (t0 :: List.replicate 8 .unk) H = zq115 t0 H K := by kernel_rfl
theorem zq115_ok {t0 : AV} {H : Heap} {K : Kt} (h : HSc H → zq115 t0 H K) : ACalls tP n_zq115 [t0] H K :=
 acalls_body (M := zq115_M) Try.func117 (c := zq115_c) (by kernel_rfl) (fun hs => (zq115_eq t0 H K).mpr (h hs))
def zq116_M : Nat → List Bool
 | 2 => rl false [0,2,3,1,16]
 | _ => []
noncomputable def zq116_c : Code := Try.f118.body.getD .skip
noncomputable def zq116_r : List ResultVar := Try.f118.results.toList
def zq116_fr2 (t0 t1 t5 : AV) : List AV := t0 :: t1 :: ux 3 (t5 :: ux 16 [])
def zq116_m2 : List Bool := zq116_M 2
noncomputable def zq116_c2 : Code := codeAt [1, 1, 0, 0, 0] zq116_c
def zq116_Q2 (K : Kt) : AExit → List AV → Heap → Prop := contAt tP zq116_M [1, 1, 0, 0] zq116_c (retQ tP zq116_r K)
def zq116_l2 (t0 t1 t5 : AV) (H : Heap) (K : Kt) : Prop := ALoop tP zq116_c2 (zq116_Q2 K) (zq116_fr2 t0 t1 t5) H
def zq116_b2 (t0 t1 t5 : AV) (H : Heap) (K : Kt) (Kb2 : Lt) : Prop :=
 aLen 0 t0 fun t8 =>
 aBin .lss false t5 t8 fun t9 =>
 aGuardJ t9 true H (fun k => k t1 H) fun t11 H =>
 aGuardJ t9 true H (fun k => k t0 H) fun t12 H =>
 aGuardJ t9 true H (fun k => k t5 H) fun t13 H =>
 aGuardJ t9 true H (fun k => aIdxS t12 t13 (k · H)) fun t14 H =>
 aGuardJ t9 true H (fun k => aCallV tP t11 [t14] H k) fun t15 H =>
 aPick t9 t15 (.bool false) fun t16 =>
 aTest t16
 (aBin .add false t5 (.int .i64 1) fun t18 =>
 Kb2 (zq116_fr2 t0 t1 t18) H)
 (aSlice 0 0 t0 none (some t5) fun t21 =>
 K t21 H)
def zq116 (t0 t1 : AV) (H : Heap) (K : Kt) : Prop :=
 zq116_l2 t0 t1 (.int .i64 0) H K
theorem zq116_b2_eq (t0 t1 t5 : AV) (H : Heap) (K : Kt) (Kb2 : Lt) : awp tP zq116_M zq116_c2 (roundQ zq116_m2 Kb2 (zq116_Q2 K)) (zq116_fr2 t0 t1 t5) H = zq116_b2 t0 t1 t5 H K Kb2 := by kernel_rfl
theorem zq116_loop2 {t0 t1 t5 : AV} {H : Heap} {K : Kt} (Inv : Nat → AV → Heap → Prop) (n : Nat) (h0 : HSc H → Inv n t5 H)
   (round : ∀ n t5 H', Inv n t5 H' → HSc H' → H.length ≤ H'.length → (zq116_fr2 t0 t1 t5).all (AV.sc H'.length) = true → ∀ Kb2 : Lt, (∀ F'' H'', (∃ n', n' < n ∧ Back H.length (fun F2 H2 => ∃ t5, F2 = zq116_fr2 t0 t1 t5 ∧ Inv n' t5 H2) F'' H'') → Kb2 F'' H'') → zq116_b2 t0 t1 t5 H' K Kb2) : zq116_l2 t0 t1 t5 H K :=
 aloop (M := zq116_M) zq116_m2 (fun n F H => ∃ t5, F = zq116_fr2 t0 t1 t5 ∧ Inv n t5 H) n (fun hs _ => ⟨t5, rfl, h0 hs⟩) (fun n F H' ⟨t5, hF, hI⟩ h1 h2 h3 => by subst hF; rw [zq116_b2_eq]; exact round n t5 H' hI h1 h2 h3 _ (fun _ _ h => h))
theorem zq116_eq (t0 t1 : AV) (H : Heap) (K : Kt) : awp tP zq116_M zq116_c (retQ tP zq116_r K) (t0 :: t1 :: List.replicate 20 .unk) H = zq116 t0 t1 H K := by kernel_rfl
theorem zq116_ok {t0 t1 : AV} {H : Heap} {K : Kt} (h : HSc H → zq116 t0 t1 H K) : ACalls tP n_zq116 [t0, t1] H K :=
 acalls_body (M := zq116_M) Try.func118 (c := zq116_c) (by kernel_rfl) (fun hs => (zq116_eq t0 t1 H K).mpr (h hs))
def zq117_M (_ : Nat) : List Bool := []
noncomputable def zq117_c : Code := Try.f119.body.getD .skip
noncomputable def zq117_r : List ResultVar := Try.f119.results.toList
def zq117 (t0 : AV) (H : Heap) (K : Kt) : Prop :=
 ACalls tP n_zq114 [t0] H fun t4 H =>
 aGuardJ t4 false H (fun k => k t0 H) fun t6 H =>
 aGuardJ t4 false H (fun k => ACalls tP n_zq115 [t6] H k) fun t7 H =>
 aPick t4 (.bool true) t7 fun t8 =>
 aGuardJ t8 false H (fun k => k t0 H) fun t10 H =>
 aGuardJ t8 false H (fun k => ACalls tP n_zq119 [t10] H k) fun t11 H =>
 aPick t8 (.bool true) t11 fun t12 =>
 aGuardJ t12 false H (fun k => k t0 H) fun t14 H =>
 aGuardJ t12 false H (fun k => aBin .eql false t14 (.int .u8 95) (k · H)) fun t15 H =>
 aPick t12 (.bool true) t15 fun t16 =>
 K t16 H
theorem zq117_eq (t0 : AV) (H : Heap) (K : Kt) : awp tP zq117_M zq117_c (retQ tP zq117_r K) (t0 :: List.replicate 16 .unk) H = zq117 t0 H K := by kernel_rfl
theorem zq117_ok {t0 : AV} {H : Heap} {K : Kt} (h : HSc H → zq117 t0 H K) : ACalls tP n_zq117 [t0] H K :=
 acalls_body (M := zq117_M) Try.func119 (c := zq117_c) (by kernel_rfl) (fun hs => (zq117_eq t0 H K).mpr (h hs))
def zq118_M (_ : Nat) : List Bool := []
noncomputable def zq118_c : Code := Try.f120.body.getD .skip
noncomputable def zq118_r : List ResultVar := Try.f120.results.toList
def zq118_j1 (t4 : AV) (H : Heap) (K : Kt) : Prop :=
 aTest t4
 (K (.bool true) H)
 (K (.bool false) H)
def zq118 (t0 : AV) (H : Heap) (K : Kt) : Prop :=
 aBin .eql false t0 (.str [97, 114, 114, 97, 121]) fun t5 =>
 aTest t5
 (zq118_j1 t5 H K)
 (aBin .eql false t0 (.str [98, 111, 111, 108]) fun t6 =>
 aTest t6
 (zq118_j1 t6 H K)
 (aBin .eql false t0 (.str [99, 97, 116, 99, 104]) fun t7 =>
 aTest t7
 (zq118_j1 t7 H K)
 (aBin .eql false t0 (.str [100, 97, 116, 97]) fun t8 =>
 aTest t8
 (zq118_j1 t8 H K)
 (aBin .eql false t0 (.str [101, 108, 115, 101]) fun t9 =>
 aTest t9
 (zq118_j1 t9 H K)
 (aBin .eql false t0 (.str [101, 110, 100]) fun t10 =>
 aTest t10
 (zq118_j1 t10 H K)
 (aBin .eql false t0 (.str [102, 97, 108, 115, 101]) fun t11 =>
 aTest t11
 (zq118_j1 t11 H K)
 (aBin .eql false t0 (.str [102, 110]) fun t12 =>
 aTest t12
 (zq118_j1 t12 H K)
 (aBin .eql false t0 (.str [102, 117, 110]) fun t13 =>
 aTest t13
 (zq118_j1 t13 H K)
 (aBin .eql false t0 (.str [103, 101, 116]) fun t14 =>
 aTest t14
 (zq118_j1 t14 H K)
 (aBin .eql false t0 (.str [105, 102]) fun t15 =>
 aTest t15
 (zq118_j1 t15 H K)
 (aBin .eql false t0 (.str [105, 110]) fun t16 =>
 aTest t16
 (zq118_j1 t16 H K)
 (aBin .eql false t0 (.str [105, 110, 116]) fun t17 =>
 aTest t17
 (zq118_j1 t17 H K)
 (aBin .eql false t0 (.str [108, 101, 110]) fun t18 =>
 aTest t18
 (zq118_j1 t18 H K)
 (aBin .eql false t0 (.str [108, 101, 116]) fun t19 =>
 aTest t19
 (zq118_j1 t19 H K)
 (aBin .eql false t0 (.str [109, 97, 116, 99, 104]) fun t20 =>
 aTest t20
 (zq118_j1 t20 H K)
 (aBin .eql false t0 (.str [110, 101, 119]) fun t21 =>
 aTest t21
 (zq118_j1 t21 H K)
 (aBin .eql false t0 (.str [114, 97, 105, 115, 101]) fun t22 =>
 aTest t22
 (zq118_j1 t22 H K)
 (aBin .eql false t0 (.str [114, 101, 97, 100]) fun t23 =>
 aTest t23
 (zq118_j1 t23 H K)
 (aBin .eql false t0 (.str [114, 101, 102]) fun t24 =>
 aTest t24
 (zq118_j1 t24 H K)
 (aBin .eql false t0 (.str [115, 101, 116]) fun t25 =>
 aTest t25
 (zq118_j1 t25 H K)
 (aBin .eql false t0 (.str [116, 104, 101, 110]) fun t26 =>
 aTest t26
 (zq118_j1 t26 H K)
 (aBin .eql false t0 (.str [116, 105, 99, 107]) fun t27 =>
 aTest t27
 (zq118_j1 t27 H K)
 (aBin .eql false t0 (.str [116, 114, 117, 101]) fun t28 =>
 aTest t28
 (zq118_j1 t28 H K)
 (aBin .eql false t0 (.str [116, 114, 121]) fun t29 =>
 aTest t29
 (zq118_j1 t29 H K)
 (aBin .eql false t0 (.str [117, 110, 105, 116]) fun t30 =>
 aTest t30
 (zq118_j1 t30 H K)
 (aBin .eql false t0 (.str [119, 105, 116, 104]) fun t31 =>
 aTest t31
 (zq118_j1 t31 H K)
 (aBin .eql false t0 (.str [119, 114, 105, 116, 101]) fun t32 =>
 zq118_j1 t32 H K)))))))))))))))))))))))))))
theorem zq118_eq (t0 : AV) (H : Heap) (K : Kt) : awp tP zq118_M zq118_c (retQ tP zq118_r K) (t0 :: List.replicate 32 .unk) H = zq118 t0 H K := by kernel_rfl
theorem zq118_ok {t0 : AV} {H : Heap} {K : Kt} (h : HSc H → zq118 t0 H K) : ACalls tP n_zq118 [t0] H K :=
 acalls_body (M := zq118_M) Try.func120 (c := zq118_c) (by kernel_rfl) (fun hs => (zq118_eq t0 H K).mpr (h hs))
def zq119_M (_ : Nat) : List Bool := []
noncomputable def zq119_c : Code := Try.f121.body.getD .skip
noncomputable def zq119_r : List ResultVar := Try.f121.results.toList
def zq119 (t0 : AV) (H : Heap) (K : Kt) : Prop :=
 aBin .geq false t0 (.int .u8 48) fun t4 =>
 aGuardJ t4 true H (fun k => k t0 H) fun t6 H =>
 aGuardJ t4 true H (fun k => aBin .leq false t6 (.int .u8 57) (k · H)) fun t7 H =>
 aPick t4 t7 (.bool false) fun t8 =>
 K t8 H
theorem zq119_eq (t0 : AV) (H : Heap) (K : Kt) : awp tP zq119_M zq119_c (retQ tP zq119_r K) (t0 :: List.replicate 8 .unk) H = zq119 t0 H K := by kernel_rfl
theorem zq119_ok {t0 : AV} {H : Heap} {K : Kt} (h : HSc H → zq119 t0 H K) : ACalls tP n_zq119 [t0] H K :=
 acalls_body (M := zq119_M) Try.func121 (c := zq119_c) (by kernel_rfl) (fun hs => (zq119_eq t0 H K).mpr (h hs))
def zq120_M : Nat → List Bool
 | 3 => rl false [0,1,2,1,2,2,13]
 | _ => []
noncomputable def zq120_c : Code := Try.f122.body.getD .skip
noncomputable def zq120_r : List ResultVar := Try.f122.results.toList
def zq120_fr3 (t0 t3 t6 t7 : AV) : List AV := t0 :: ux 2 (t3 :: ux 2 (t6 :: t7 :: ux 13 []))
def zq120_m3 : List Bool := zq120_M 3
noncomputable def zq120_c3 : Code := codeAt [1, 1, 0, 1, 0, 0] zq120_c
def zq120_Q3 (K : Kt) : AExit → List AV → Heap → Prop := contAt tP zq120_M [1, 1, 0, 1, 0] zq120_c (retQ tP zq120_r K)
def zq120_l3 (t0 t3 t6 t7 : AV) (H : Heap) (K : Kt) : Prop := ALoop tP zq120_c3 (zq120_Q3 K) (zq120_fr3 t0 t3 t6 t7) H
def zq120_b3 (t0 t3 t6 t7 : AV) (H : Heap) (K : Kt) (Kb3 : Lt) : Prop :=
 aBin .lss false t7 t6 fun t8 =>
 aTest t8
 (aBin .mul false t3 (.int .i64 10) fun t11 =>
 aIdxS t0 t7 fun t14 =>
 aBin .sub false t14 (.int .u8 48) fun t15 =>
 aConv .i64 t15 fun t16 =>
 aBin .add false t11 t16 fun t17 =>
 aBin .gtr false t17 (.int .i64 1000000) fun t19 =>
 aTest t19
 (K (.bool false) H)
 (aBin .add false t7 (.int .i64 1) fun t20 =>
 Kb3 (zq120_fr3 t0 t17 t6 t20) H))
 (K (.bool true) H)
def zq120 (t0 : AV) (H : Heap) (K : Kt) : Prop :=
 aLen 0 t0 fun t6 =>
 zq120_l3 t0 (.int .i64 0) t6 (.int .i64 0) H K
theorem zq120_b3_eq (t0 t3 t6 t7 : AV) (H : Heap) (K : Kt) (Kb3 : Lt) : awp tP zq120_M zq120_c3 (roundQ zq120_m3 Kb3 (zq120_Q3 K)) (zq120_fr3 t0 t3 t6 t7) H = zq120_b3 t0 t3 t6 t7 H K Kb3 := by kernel_rfl
theorem zq120_loop3 {t0 t3 t6 t7 : AV} {H : Heap} {K : Kt} (Inv : Nat → AV → AV → Heap → Prop) (n : Nat) (h0 : HSc H → Inv n t3 t7 H)
   (round : ∀ n t3 t7 H', Inv n t3 t7 H' → HSc H' → H.length ≤ H'.length → (zq120_fr3 t0 t3 t6 t7).all (AV.sc H'.length) = true → ∀ Kb3 : Lt, (∀ F'' H'', (∃ n', n' < n ∧ Back H.length (fun F2 H2 => ∃ t3 t7, F2 = zq120_fr3 t0 t3 t6 t7 ∧ Inv n' t3 t7 H2) F'' H'') → Kb3 F'' H'') → zq120_b3 t0 t3 t6 t7 H' K Kb3) : zq120_l3 t0 t3 t6 t7 H K :=
 aloop (M := zq120_M) zq120_m3 (fun n F H => ∃ t3 t7, F = zq120_fr3 t0 t3 t6 t7 ∧ Inv n t3 t7 H) n (fun hs _ => ⟨t3, t7, rfl, h0 hs⟩) (fun n F H' ⟨t3, t7, hF, hI⟩ h1 h2 h3 => by subst hF; rw [zq120_b3_eq]; exact round n t3 t7 H' hI h1 h2 h3 _ (fun _ _ h => h))
theorem zq120_eq (t0 : AV) (H : Heap) (K : Kt) : awp tP zq120_M zq120_c (retQ tP zq120_r K) (t0 :: List.replicate 20 .unk) H = zq120 t0 H K := by kernel_rfl
theorem zq120_ok {t0 : AV} {H : Heap} {K : Kt} (h : HSc H → zq120 t0 H K) : ACalls tP n_zq120 [t0] H K :=
 acalls_body (M := zq120_M) Try.func122 (c := zq120_c) (by kernel_rfl) (fun hs => (zq120_eq t0 H K).mpr (h hs))
def zq121_M (_ : Nat) : List Bool := []
noncomputable def zq121_c : Code := Try.f123.body.getD .skip
noncomputable def zq121_r : List ResultVar := Try.f123.results.toList
def zq121_j3 (t0 t16 : AV) (H : Heap) (K : Kt) : Prop :=
 aTest t16
 (aSlice 0 0 t0 none (some (.int .i64 1)) fun t31 =>
 K t31 H)
 (K (.str []) H)
def zq121_j2 (t0 : AV) (H : Heap) (K : Kt) : Prop :=
 aSlice 0 0 t0 none (some (.int .i64 1)) fun t15 =>
 aBin .eql false t15 (.str [40]) fun t17 =>
 aTest t17
 (zq121_j3 t0 t17 H K)
 (aBin .eql false t15 (.str [41]) fun t18 =>
 aTest t18
 (zq121_j3 t0 t18 H K)
 (aBin .eql false t15 (.str [44]) fun t19 =>
 aTest t19
 (zq121_j3 t0 t19 H K)
 (aBin .eql false t15 (.str [61]) fun t20 =>
 aTest t20
 (zq121_j3 t0 t20 H K)
 (aBin .eql false t15 (.str [124]) fun t21 =>
 aTest t21
 (zq121_j3 t0 t21 H K)
 (aBin .eql false t15 (.str [43]) fun t22 =>
 aTest t22
 (zq121_j3 t0 t22 H K)
 (aBin .eql false t15 (.str [45]) fun t23 =>
 aTest t23
 (zq121_j3 t0 t23 H K)
 (aBin .eql false t15 (.str [42]) fun t24 =>
 aTest t24
 (zq121_j3 t0 t24 H K)
 (aBin .eql false t15 (.str [47]) fun t25 =>
 aTest t25
 (zq121_j3 t0 t25 H K)
 (aBin .eql false t15 (.str [37]) fun t26 =>
 aTest t26
 (zq121_j3 t0 t26 H K)
 (aBin .eql false t15 (.str [60]) fun t27 =>
 aTest t27
 (zq121_j3 t0 t27 H K)
 (aBin .eql false t15 (.str [59]) fun t28 =>
 aTest t28
 (zq121_j3 t0 t28 H K)
 (aBin .eql false t15 (.str [95]) fun t29 =>
 zq121_j3 t0 t29 H K))))))))))))
def zq121_j1 (t0 t8 : AV) (H : Heap) (K : Kt) : Prop :=
 aTest t8
 (aSlice 0 0 t0 none (some (.int .i64 2)) fun t13 =>
 K t13 H)
 (zq121_j2 t0 H K)
def zq121 (t0 : AV) (H : Heap) (K : Kt) : Prop :=
 aLen 0 t0 fun t4 =>
 aBin .geq false t4 (.int .i64 2) fun t5 =>
 aTest t5
 (aSlice 0 0 t0 none (some (.int .i64 2)) fun t7 =>
 aBin .eql false t7 (.str [45, 62]) fun t9 =>
 aTest t9
 (zq121_j1 t0 t9 H K)
 (aBin .eql false t7 (.str [60, 61]) fun t10 =>
 aTest t10
 (zq121_j1 t0 t10 H K)
 (aBin .eql false t7 (.str [61, 61]) fun t11 =>
 zq121_j1 t0 t11 H K)))
 (zq121_j2 t0 H K)
theorem zq121_eq (t0 : AV) (H : Heap) (K : Kt) : awp tP zq121_M zq121_c (retQ tP zq121_r K) (t0 :: List.replicate 31 .unk) H = zq121 t0 H K := by kernel_rfl
theorem zq121_ok {t0 : AV} {H : Heap} {K : Kt} (h : HSc H → zq121 t0 H K) : ACalls tP n_zq121 [t0] H K :=
 acalls_body (M := zq121_M) Try.func123 (c := zq121_c) (by kernel_rfl) (fun hs => (zq121_eq t0 H K).mpr (h hs))
def zq64_M (_ : Nat) : List Bool := []
noncomputable def zq64_c : Code := Try.f66.body.getD .skip
noncomputable def zq64_r : List ResultVar := Try.f66.results.toList
def zq64 (t0 : AV) (H : Heap) (K : Kt) : Prop :=
 ACalls tP n_zq82 [t0] H fun t8 H =>
 aExt t8 0 fun t9 =>
 aExt t8 1 fun t10 =>
 aExt t8 2 fun t11 =>
 aBin .eql false t11 (.int .i64 0) fun t13 =>
 aGuardJ t13 true H (fun k => k t9 H) fun t15 H =>
 aGuardJ t13 true H (fun k => aLen 1 t15 (k · H)) fun t16 H =>
 aGuardJ t13 true H (fun k => aBin .eql false t16 (.int .i64 2) (k · H)) fun t17 H =>
 aPick t13 t17 (.bool false) fun t18 =>
 aGuardJ t18 true H (fun k => k t9 H) fun t20 H =>
 aGuardJ t18 true H (fun k => aIdxA 3 t20 (.int .i64 0) (k · H)) fun t21 H =>
 aGuardJ t18 true H (fun k => aFld 0 t21 (k · H)) fun t22 H =>
 aGuardJ t18 true H (fun k => aLoad false 1 t22 H (k · H)) fun t23 H =>
 aGuardJ t18 true H (fun k => aBin .eql false t23 (.int .i64 2) (k · H)) fun t24 H =>
 aPick t18 t24 (.bool false) fun t25 =>
 aGuardJ t25 true H (fun k => k t9 H) fun t27 H =>
 aGuardJ t25 true H (fun k => aIdxA 3 t27 (.int .i64 0) (k · H)) fun t28 H =>
 aGuardJ t25 true H (fun k => aFld 1 t28 (k · H)) fun t29 H =>
 aGuardJ t25 true H (fun k => aLoad false 1 t29 H (k · H)) fun t30 H =>
 aGuardJ t25 true H (fun k => k t0 H) fun t31 H =>
 aGuardJ t25 true H (fun k => aBin .eql false t30 t31 (k · H)) fun t32 H =>
 aPick t25 t32 (.bool false) fun t33 =>
 K t33 H
theorem zq64_eq (t0 : AV) (H : Heap) (K : Kt) : awp tP zq64_M zq64_c (retQ tP zq64_r K) (t0 :: List.replicate 33 .unk) H = zq64 t0 H K := by kernel_rfl
theorem zq64_ok {t0 : AV} {H : Heap} {K : Kt} (h : HSc H → zq64 t0 H K) : ACalls tP n_zq64 [t0] H K :=
 acalls_body (M := zq64_M) Try.func66 (c := zq64_c) (by kernel_rfl) (fun hs => (zq64_eq t0 H K).mpr (h hs))
def zq75_M (_ : Nat) : List Bool := []
noncomputable def zq75_c : Code := Try.f77.body.getD .skip
noncomputable def zq75_r : List ResultVar := Try.f77.results.toList
def zq75 (t0 : AV) (H : Heap) (K : Kt) : Prop :=
 ACalls tP n_zq97 [t0] H fun t8 H =>
 aExt t8 0 fun t9 =>
 aExt t8 1 fun t10 =>
 aExt t8 2 fun t11 =>
 aBin .eql false t11 (.int .i64 0) fun t13 =>
 aGuardJ t13 true H (fun k => k t9 H) fun t15 H =>
 aGuardJ t13 true H (fun k => aLen 1 t15 (k · H)) fun t16 H =>
 aGuardJ t13 true H (fun k => aBin .eql false t16 (.int .i64 2) (k · H)) fun t17 H =>
 aPick t13 t17 (.bool false) fun t18 =>
 aGuardJ t18 true H (fun k => k t9 H) fun t20 H =>
 aGuardJ t18 true H (fun k => aIdxA 3 t20 (.int .i64 0) (k · H)) fun t21 H =>
 aGuardJ t18 true H (fun k => aFld 0 t21 (k · H)) fun t22 H =>
 aGuardJ t18 true H (fun k => aLoad false 1 t22 H (k · H)) fun t23 H =>
 aGuardJ t18 true H (fun k => aBin .eql false t23 (.int .i64 2) (k · H)) fun t24 H =>
 aPick t18 t24 (.bool false) fun t25 =>
 aGuardJ t25 true H (fun k => k t9 H) fun t27 H =>
 aGuardJ t25 true H (fun k => aIdxA 3 t27 (.int .i64 0) (k · H)) fun t28 H =>
 aGuardJ t25 true H (fun k => aFld 1 t28 (k · H)) fun t29 H =>
 aGuardJ t25 true H (fun k => aLoad false 1 t29 H (k · H)) fun t30 H =>
 aGuardJ t25 true H (fun k => k t0 H) fun t31 H =>
 aGuardJ t25 true H (fun k => aBin .eql false t30 t31 (k · H)) fun t32 H =>
 aPick t25 t32 (.bool false) fun t33 =>
 K t33 H
theorem zq75_eq (t0 : AV) (H : Heap) (K : Kt) : awp tP zq75_M zq75_c (retQ tP zq75_r K) (t0 :: List.replicate 33 .unk) H = zq75 t0 H K := by kernel_rfl
theorem zq75_ok {t0 : AV} {H : Heap} {K : Kt} (h : HSc H → zq75 t0 H K) : ACalls tP n_zq75 [t0] H K :=
 acalls_body (M := zq75_M) Try.func77 (c := zq75_c) (by kernel_rfl) (fun hs => (zq75_eq t0 H K).mpr (h hs))
end Go.Proofs.Ytkdmpbhbmmhijaa
