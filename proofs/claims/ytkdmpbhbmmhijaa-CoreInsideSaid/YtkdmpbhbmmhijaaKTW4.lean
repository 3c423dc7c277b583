import Derived.Test.YtkdmpbhbmmhijaaKNum
import Derived.Test.YtkdmpbhbmmhijaaProg
import Derived.KernelRfl
import Derived.Test.YtkdmpbhbmmhijaaTK
import Derived.Test.YtkdmpbhbmmhijaaAbsQ
set_option linter.unusedSimpArgs false
set_option linter.unusedVariables false
namespace Go.Proofs.Ytkdmpbhbmmhijaa
open Go Go.Abs
set_option maxRecDepth 100000
def zdY : Nat → List Bool
 | 5 => rl false [0,1,4,2,54]
 | 9 => rl false [0,1,4,2,54]
 | _ => []
noncomputable def znf : Code := Try.f84.body.getD .skip
noncomputable def zBL : List ResultVar := Try.f84.results.toList
def zej (t0 t5 t6 : AV) : List AV := t0 :: ux 4 (t5 :: t6 :: ux 54 [])
def zr0 : List Bool := zdY 5
noncomputable def zng : Code := zap [1, 0, 1, 1, 1, 1, 0, 0, 0] znf
def zrZ (K : Kt) : AExit → List AV → zaa → Prop := zaq tP zdY [1, 0, 1, 1, 1, 1, 0, 0] znf (zal tP zBL K)
def zni (t0 t5 t6 : AV) (H : zaa) (K : Kt) : Prop := ALoop tP zng (zrZ K) (zej t0 t5 t6) H
def zin (t0 t5 t6 : AV) (H : zaa) (K : Kt) (Kb5 : Lt) : Prop :=
 Kb5 (zej t0 t5 t6) H
def zgU (t0 t5 t6 : AV) : List AV := t0 :: ux 4 (t5 :: t6 :: ux 54 [])
def zBK : List Bool := zdY 9
noncomputable def zBH : Code := zap [1, 0, 1, 0, 1, 0, 0, 0, 0] zng
def zBG (K : Kt) (Kb5 : Lt) : AExit → List AV → zaa → Prop := zaq tP zdY [1, 0, 1, 0, 1, 0, 0, 0] zng (zat zr0 Kb5 (zrZ K))
def zBJ (t0 t5 t6 : AV) (H : zaa) (K : Kt) (Kb5 : Lt) : Prop := ALoop tP zBH (zBG K Kb5) (zgU t0 t5 t6) H
def zBI (t0 t5 : AV) (H : zaa) (K : Kt) : Prop :=
 zak 0 t0 fun t57 =>
 zaL [(.int .i64 0), (.str []), (.int .i64 0)] [(0, 1), (1, 1), (2, 1)] [(0, (.int .i64 6)), (2, t57)] fun t58 =>
 zaA 3 [(.int .i64 0), (.str []), (.int .i64 0)] 1 [(0, t58)] fun t59 =>
 zaJ zew 3 32 t5 t59 H fun t60 H =>
 zaY [t60, (.int .i64 0), (.int .i64 0)] (K · H)
def znh (t0 t5 : AV) (H : zaa) (K : Kt) : Prop :=
 zBI t0 t5 H K
def zne (t0 t5 t6 : AV) (H : zaa) (K : Kt) (Kb5 : Lt) (Kb9 : Lt) : Prop :=
 zak 0 t0 fun t28 =>
 zad .lss false t6 t28 fun t29 =>
 zag t29
 (zbF t0 t6 fun t34 =>
 zad .eql false t34 (.int .u8 10) fun t35 =>
 zag t35
 (zin t0 t5 t6 H K Kb5)
 (zad .add false t6 (.int .i64 1) fun t31 =>
 Kb9 (zgU t0 t5 t31) H))
 (znh t0 t5 H K)
def znd (t0 t5 t6 : AV) (H : zaa) (K : Kt) (Kb5 : Lt) : Prop :=
 zak 0 t0 fun t14 =>
 zad .lss false t6 t14 fun t15 =>
 zag t15
 (zbF t0 t6 fun t18 =>
 ACalls tP zo3 [t18] H fun t19 H =>
 zag t19
 (zad .add false t6 (.int .i64 1) fun t21 =>
 zin t0 t5 t21 H K Kb5)
 (zbF t0 t6 fun t24 =>
 zad .eql false t24 (.int .u8 35) fun t25 =>
 zag t25
 (zBJ t0 t5 t6 H K Kb5)
 (ACalls tP zoA [t0, t6] H fun t39 H =>
 za3 t39 0 fun t40 =>
 za3 t39 1 fun t41 =>
 zaC [(.int .i64 0), (.str []), (.int .i64 0)] H fun t7 H =>
 zas 3 t7 t40 H fun H =>
 zad .neq false t41 (.int .i64 0) fun t43 =>
 zag t43
 (zaY [.snil, t6, t41] (K · H))
 (zae true 3 t7 H fun t47 =>
 zaA 3 [(.int .i64 0), (.str []), (.int .i64 0)] 1 [(0, t47)] fun t48 =>
 zaJ zew 3 32 t5 t48 H fun t49 H =>
 zaf 1 t7 fun t51 =>
 zae false 1 t51 H fun t52 =>
 zak 0 t52 fun t53 =>
 zad .add false t6 t53 fun t54 =>
 zin t0 t49 t54 H K Kb5))))
 (znh t0 t5 H K)
def znc (t0 : AV) (H : zaa) (K : Kt) : Prop :=
 zak 0 t0 fun t10 =>
 zad .gtr false t10 (.int .i64 16384) fun t11 =>
 zag t11
 (zaY [.snil, (.int .i64 0), (.int .i64 9)] (K · H))
 (zni t0 .snil (.int .i64 0) H K)
theorem zNM (t0 t5 t6 : AV) (H : zaa) (K : Kt) (Kb5 : Lt) (Kb9 : Lt) : awp tP zdY zBH (zat zBK Kb9 (zBG K Kb5)) (zgU t0 t5 t6) H = zne t0 t5 t6 H K Kb5 Kb9 := by kernel_rfl
theorem zNP {t0 t5 t6 : AV} {H : zaa} {K : Kt} {Kb5 : Lt} (Inv : Nat → AV → zaa → Prop) (n : Nat) (h0 : HSc H → Inv n t6 H)
  (round : ∀ n t6 H', Inv n t6 H' → HSc H' → H.length ≤ H'.length → (zgU t0 t5 t6).all (AV.sc H'.length) = true → ∀ Kb9 : Lt, (∀ F'' H'', (∃ n', n' < n ∧ Back H.length (fun F2 H2 => ∃ t6, F2 = zgU t0 t5 t6 ∧ Inv n' t6 H2) F'' H'') → Kb9 F'' H'') → zne t0 t5 t6 H' K Kb5 Kb9) : zBJ t0 t5 t6 H K Kb5 :=
 zav (M := zdY) zBK (fun n F H => ∃ t6, F = zgU t0 t5 t6 ∧ Inv n t6 H) n (fun hs _ => ⟨t6, rfl, h0 hs⟩) (fun n F H' ⟨t6, hF, hI⟩ h1 h2 h3 => by subst hF; rw [zNM]; exact round n t6 H' hI h1 h2 h3 _ (fun _ _ h => h))
theorem zNL (t0 t5 t6 : AV) (H : zaa) (K : Kt) (Kb5 : Lt) : awp tP zdY zng (zat zr0 Kb5 (zrZ K)) (zej t0 t5 t6) H = znd t0 t5 t6 H K Kb5 := by kernel_rfl
theorem zNO {t0 t5 t6 : AV} {H : zaa} {K : Kt} (Inv : Nat → AV → AV → zaa → Prop) (n : Nat) (h0 : HSc H → Inv n t5 t6 H)
  (round : ∀ n t5 t6 H', Inv n t5 t6 H' → HSc H' → H.length ≤ H'.length → (zej t0 t5 t6).all (AV.sc H'.length) = true → ∀ Kb5 : Lt, (∀ F'' H'', (∃ n', n' < n ∧ Back H.length (fun F2 H2 => ∃ t5 t6, F2 = zej t0 t5 t6 ∧ Inv n' t5 t6 H2) F'' H'') → Kb5 F'' H'') → znd t0 t5 t6 H' K Kb5) : zni t0 t5 t6 H K :=
 zav (M := zdY) zr0 (fun n F H => ∃ t5 t6, F = zej t0 t5 t6 ∧ Inv n t5 t6 H) n (fun hs _ => ⟨t5, t6, rfl, h0 hs⟩) (fun n F H' ⟨t5, t6, hF, hI⟩ h1 h2 h3 => by subst hF; rw [zNL]; exact round n t5 t6 H' hI h1 h2 h3 _ (fun _ _ h => h))
theorem zNN (t0 : AV) (H : zaa) (K : Kt) : awp tP zdY znf (zal tP zBL K) (t0 :: List.replicate 60 .unk) H = znc t0 H K := by kernel_rfl
theorem zNQ {t0 : AV} {H : zaa} {K : Kt} (h : HSc H → znc t0 H K) : ACalls tP zoW [t0] H K :=
 zaw (M := zdY) Try.func84 (c := znf) (by kernel_rfl) (fun hs => (zNN t0 H K).mpr (h hs))
def zca : Nat → List Bool
 | 5 => rl false [0,1,4,2,193]
 | 10 => rl false [0,1,4,2,193]
 | 18 => rl false [0,1,4,4,191]
 | 29 => rl false [0,1,4,4,191]
 | _ => []
noncomputable def znI : Code := Try.f99.body.getD .skip
noncomputable def zC6 : List ResultVar := Try.f99.results.toList
def zd1 (t0 t5 t6 : AV) : List AV := t0 :: ux 4 (t5 :: t6 :: ux 193 [])
def zjI : List Bool := zca 5
noncomputable def ze3 : Code := zap [1, 1, 1, 0, 1, 0, 0] znI
def zjF (K : Kt) : AExit → List AV → zaa → Prop := zaq tP zca [1, 1, 1, 0, 1, 0] znI (zal tP zC6 K)
def znK (t0 t5 t6 : AV) (H : zaa) (K : Kt) : Prop := ALoop tP ze3 (zjF K) (zd1 t0 t5 t6) H
def ze5 (t0 t5 t6 : AV) (H : zaa) (K : Kt) (Kb5 : Lt) : Prop :=
 Kb5 (zd1 t0 t5 t6) H
def zg4 (t0 t5 t6 : AV) : List AV := t0 :: ux 4 (t5 :: t6 :: ux 193 [])
def zC3 : List Bool := zca 10
noncomputable def zCZ : Code := zap [1, 0, 1, 1, 0, 1, 0, 0, 0, 0] ze3
def zCW (K : Kt) (Kb5 : Lt) : AExit → List AV → zaa → Prop := zaq tP zca [1, 0, 1, 1, 0, 1, 0, 0, 0] ze3 (zat zjI Kb5 (zjF K))
def zC2 (t0 t5 t6 : AV) (H : zaa) (K : Kt) (Kb5 : Lt) : Prop := ALoop tP zCZ (zCW K Kb5) (zg4 t0 t5 t6) H
def znF (t0 t5 t6 : AV) (H : zaa) (K : Kt) (Kb5 : Lt) (Kb10 : Lt) : Prop :=
 zak 0 t0 fun t42 =>
 zad .lss false t6 t42 fun t43 =>
 zab t43 true H (fun K' => K' t0 H) fun t45 H =>
 zab t43 true H (fun K' => K' t6 H) fun t46 H =>
 zab t43 true H (fun K' => zbF t45 t46 (K' · H)) fun t47 H =>
 zab t43 true H (fun K' => zad .neq false t47 (.int .u8 10) (K' · H)) fun t48 H =>
 zah t43 t48 (.bool false) fun t49 =>
 zag t49
 (zad .add false t6 (.int .i64 1) fun t51 =>
 Kb10 (zg4 t0 t5 t51) H)
 (ze5 t0 t5 t6 H K Kb5)
def ze4 (t0 t5 t6 t7 t8 : AV) : List AV := t0 :: ux 4 (t5 :: t6 :: t7 :: t8 :: ux 191 [])
def zC4 : List Bool := zca 18
noncomputable def zC0 : Code := zap [1, 0, 1, 1, 1, 1, 0, 0, 1, 0, 0, 0, 0] ze3
def zCX (K : Kt) (Kb5 : Lt) : AExit → List AV → zaa → Prop := zaq tP zca [1, 0, 1, 1, 1, 1, 0, 0, 1, 0, 0, 0] ze3 (zat zjI Kb5 (zjF K))
def zsp (t0 t5 t6 t7 t8 : AV) (H : zaa) (K : Kt) (Kb5 : Lt) : Prop := ALoop tP zC0 (zCX K Kb5) (ze4 t0 t5 t6 t7 t8) H
def zjH (t0 t5 t6 t8 : AV) (H : zaa) (K : Kt) (Kb5 : Lt) : Prop :=
 zad .add false t6 t8 fun t193 =>
 ze5 t0 t5 t193 H K Kb5
def ze7 (t0 t5 t6 t8 : AV) (H : zaa) (K : Kt) (Kb5 : Lt) : Prop :=
 zjH t0 t5 t6 t8 H K Kb5
def ze6 (t0 t5 t6 t8 t9 : AV) (H : zaa) (K : Kt) (Kb5 : Lt) : Prop :=
 zad .add false t6 t8 fun t135 =>
 za0 0 0 t0 (some t6) (some t135) fun t136 =>
 zaL [(.int .i64 0), (.str []), (.int .i64 0)] [(0, 1), (1, 1), (2, 1)] [(0, t9), (1, t136), (2, t6)] fun t138 =>
 zaA 3 [(.int .i64 0), (.str []), (.int .i64 0)] 1 [(0, t138)] fun t139 =>
 zaJ zbj 3 32 t5 t139 H fun t140 H =>
 ze7 t0 t140 t6 t8 H K Kb5
def znG (t0 t5 t6 t7 t8 : AV) (H : zaa) (K : Kt) (Kb5 : Lt) (Kb18 : Lt) : Prop :=
 zad .add false t6 t8 fun t79 =>
 zak 0 t0 fun t81 =>
 zad .lss false t79 t81 fun t82 =>
 zab t82 true H (fun K' => K' t0 H) fun t84 H =>
 zab t82 true H (fun K' => K' t6 H) fun t85 H =>
 zab t82 true H (fun K' => K' t8 H) fun t86 H =>
 zab t82 true H (fun K' => zad .add false t85 t86 (K' · H)) fun t87 H =>
 zab t82 true H (fun K' => zbF t84 t87 (K' · H)) fun t88 H =>
 zab t82 true H (fun K' => ACalls tP zkb [t88] H K') fun t89 H =>
 zab t82 true H (fun K' => K' t89 H) fun t90 H =>
 zab t90 false H (fun K' => K' t0 H) fun t91 H =>
 zab t90 false H (fun K' => K' t6 H) fun t92 H =>
 zab t90 false H (fun K' => K' t8 H) fun t93 H =>
 zab t90 false H (fun K' => zad .add false t92 t93 (K' · H)) fun t94 H =>
 zab t90 false H (fun K' => zbF t91 t94 (K' · H)) fun t95 H =>
 zab t90 false H (fun K' => ACalls tP zhh [t95] H K') fun t96 H =>
 zab t82 true H (fun K' => zah t90 (.bool true) t96 (K' · H)) fun t97 H =>
 zab t82 true H (fun K' => K' t97 H) fun t98 H =>
 zab t98 false H (fun K' => K' t0 H) fun t99 H =>
 zab t98 false H (fun K' => K' t6 H) fun t100 H =>
 zab t98 false H (fun K' => K' t8 H) fun t101 H =>
 zab t98 false H (fun K' => zad .add false t100 t101 (K' · H)) fun t102 H =>
 zab t98 false H (fun K' => zbF t99 t102 (K' · H)) fun t103 H =>
 zab t98 false H (fun K' => ACalls tP ziS [t103] H K') fun t104 H =>
 zab t82 true H (fun K' => zah t98 (.bool true) t104 (K' · H)) fun t105 H =>
 zab t82 true H (fun K' => K' t105 H) fun t106 H =>
 zab t106 false H (fun K' => K' t0 H) fun t107 H =>
 zab t106 false H (fun K' => K' t6 H) fun t108 H =>
 zab t106 false H (fun K' => K' t8 H) fun t109 H =>
 zab t106 false H (fun K' => zad .add false t108 t109 (K' · H)) fun t110 H =>
 zab t106 false H (fun K' => zbF t107 t110 (K' · H)) fun t111 H =>
 zab t106 false H (fun K' => zad .eql false t111 (.int .u8 95) (K' · H)) fun t112 H =>
 zab t82 true H (fun K' => zah t106 (.bool true) t112 (K' · H)) fun t113 H =>
 zah t82 t113 (.bool false) fun t114 =>
 zag t114
 (zad .add false t8 (.int .i64 1) fun t116 =>
 Kb18 (ze4 t0 t5 t6 t7 t116) H)
 (zad .gtr false t8 (.int .i64 24) fun t118 =>
 zag t118
 (zaY [.snil, t6, (.int .i64 9)] (K · H))
 (ACalls tP zhh [t7] H fun t121 H =>
 zag t121
 (ze6 t0 t5 t6 t8 (.int .i64 2) H K Kb5)
 (zad .add false t6 t8 fun t126 =>
 za0 0 0 t0 (some t6) (some t126) fun t127 =>
 ACalls tP zkc [t127] H fun t128 H =>
 zag t128
 (ze6 t0 t5 t6 t8 (.int .i64 4) H K Kb5)
 (ze6 t0 t5 t6 t8 (.int .i64 1) H K Kb5))))
def zg5 (t0 t5 t6 t7 t8 : AV) : List AV := t0 :: ux 4 (t5 :: t6 :: t7 :: t8 :: ux 191 [])
def zC5 : List Bool := zca 29
noncomputable def zC1 : Code := zap [1, 0, 1, 1, 1, 1, 0, 0, 1, 1, 1, 0, 0, 0, 0] ze3
def zCY (K : Kt) (Kb5 : Lt) : AExit → List AV → zaa → Prop := zaq tP zca [1, 0, 1, 1, 1, 1, 0, 0, 1, 1, 1, 0, 0, 0] ze3 (zat zjI Kb5 (zjF K))
def zsq (t0 t5 t6 t7 t8 : AV) (H : zaa) (K : Kt) (Kb5 : Lt) : Prop := ALoop tP zC1 (zCY K Kb5) (zg5 t0 t5 t6 t7 t8) H
def znH (t0 t5 t6 t7 t8 : AV) (H : zaa) (K : Kt) (Kb5 : Lt) (Kb29 : Lt) : Prop :=
 zad .add false t6 t8 fun t146 =>
 zak 0 t0 fun t148 =>
 zad .lss false t146 t148 fun t149 =>
 zab t149 true H (fun K' => K' t0 H) fun t151 H =>
 zab t149 true H (fun K' => K' t6 H) fun t152 H =>
 zab t149 true H (fun K' => K' t8 H) fun t153 H =>
 zab t149 true H (fun K' => zad .add false t152 t153 (K' · H)) fun t154 H =>
 zab t149 true H (fun K' => zbF t151 t154 (K' · H)) fun t155 H =>
 zab t149 true H (fun K' => ACalls tP ziS [t155] H K') fun t156 H =>
 zah t149 t156 (.bool false) fun t157 =>
 zag t157
 (zad .add false t8 (.int .i64 1) fun t159 =>
 Kb29 (zg5 t0 t5 t6 t7 t159) H)
 (zad .gtr false t8 (.int .i64 1) fun t161 =>
 zab t161 true H (fun K' => K' t7 H) fun t163 H =>
 zab t161 true H (fun K' => zad .eql false t163 (.int .u8 48) (K' · H)) fun t164 H =>
 zah t161 t164 (.bool false) fun t165 =>
 zag t165
 (zaY [.snil, t6, (.int .i64 2)] (K · H))
 (zad .add false t6 t8 fun t172 =>
 za0 0 0 t0 (some t6) (some t172) fun t173 =>
 ACalls tP zhj [t173] H fun t174 H =>
 za3 t174 0 fun t175 =>
 za3 t174 1 fun t176 =>
 aUn .not t176 fun t178 =>
 zag t178
 (zaY [.snil, t6, (.int .i64 9)] (K · H))
 (zad .add false t6 t8 fun t185 =>
 za0 0 0 t0 (some t6) (some t185) fun t186 =>
 zaL [(.int .i64 0), (.str []), (.int .i64 0)] [(0, 1), (1, 1), (2, 1)] [(0, (.int .i64 3)), (1, t186), (2, t6)] fun t188 =>
 zaA 3 [(.int .i64 0), (.str []), (.int .i64 0)] 1 [(0, t188)] fun t189 =>
 zaJ zbj 3 32 t5 t189 H fun t190 H =>
 ze7 t0 t190 t6 t8 H K Kb5)))
def zjG (t0 t5 t6 : AV) (H : zaa) (K : Kt) (Kb5 : Lt) : Prop :=
 zak 0 t0 fun t17 =>
 zad .lss false t6 t17 fun t18 =>
 zag t18
 (zbF t0 t6 fun t21 =>
 zad .eql false t21 (.int .u8 9) fun t23 =>
 zab t23 false H (fun K' => K' t21 H) fun t25 H =>
 zab t23 false H (fun K' => zad .eql false t25 (.int .u8 10) (K' · H)) fun t26 H =>
 zah t23 (.bool true) t26 fun t27 =>
 zab t27 false H (fun K' => K' t21 H) fun t29 H =>
 zab t27 false H (fun K' => zad .eql false t29 (.int .u8 13) (K' · H)) fun t30 H =>
 zah t27 (.bool true) t30 fun t31 =>
 zab t31 false H (fun K' => K' t21 H) fun t33 H =>
 zab t31 false H (fun K' => zad .eql false t33 (.int .u8 32) (K' · H)) fun t34 H =>
 zah t31 (.bool true) t34 fun t35 =>
 zag t35
 (zad .add false t6 (.int .i64 1) fun t37 =>
 ze5 t0 t5 t37 H K Kb5)
 (zad .eql false t21 (.int .u8 35) fun t39 =>
 zag t39
 (zC2 t0 t5 t6 H K Kb5)
 (ACalls tP zkb [t21] H fun t72 H =>
 zab t72 false H (fun K' => K' t21 H) fun t74 H =>
 zab t72 false H (fun K' => ACalls tP zhh [t74] H K') fun t75 H =>
 zah t72 (.bool true) t75 fun t76 =>
 zag t76
 (zsp t0 t5 t6 t21 (.int .i64 1) H K Kb5)
 (ACalls tP ziS [t21] H fun t143 H =>
 zag t143
 (zsq t0 t5 t6 t21 (.int .i64 1) H K Kb5)
 (za0 0 0 t0 (some t6) none fun t54 =>
 ACalls tP zoB [t54] H fun t55 H =>
 zad .eql false t55 (.int .i64 0) fun t57 =>
 zag t57
 (zaY [.snil, t6, (.int .i64 2)] (K · H))
 (zad .add false t6 t55 fun t64 =>
 za0 0 0 t0 (some t6) (some t64) fun t65 =>
 zaL [(.int .i64 0), (.str []), (.int .i64 0)] [(0, 1), (1, 1), (2, 1)] [(0, (.int .i64 5)), (1, t65), (2, t6)] fun t67 =>
 zaA 3 [(.int .i64 0), (.str []), (.int .i64 0)] 1 [(0, t67)] fun t68 =>
 zaJ zbj 3 32 t5 t68 H fun t69 H =>
 ze7 t0 t69 t6 t55 H K Kb5))))))
 (zak 0 t0 fun t196 =>
 zaL [(.int .i64 0), (.str []), (.int .i64 0)] [(0, 1), (1, 1), (2, 1)] [(0, (.int .i64 6)), (1, (.str [])), (2, t196)] fun t197 =>
 zaA 3 [(.int .i64 0), (.str []), (.int .i64 0)] 1 [(0, t197)] fun t198 =>
 zaJ zbj 3 32 t5 t198 H fun t199 H =>
 zaY [t199, (.int .i64 0), (.int .i64 0)] (K · H))
def znE (t0 : AV) (H : zaa) (K : Kt) : Prop :=
 zak 0 t0 fun t13 =>
 zad .gtr false t13 (.int .i64 16384) fun t14 =>
 zag t14
 (zaY [.snil, (.int .i64 0), (.int .i64 9)] (K · H))
 (znK t0 .snil (.int .i64 0) H K)
theorem zO3 (t0 t5 t6 : AV) (H : zaa) (K : Kt) (Kb5 : Lt) (Kb10 : Lt) : awp tP zca zCZ (zat zC3 Kb10 (zCW K Kb5)) (zg4 t0 t5 t6) H = znF t0 t5 t6 H K Kb5 Kb10 := by kernel_rfl
theorem zO8 {t0 t5 t6 : AV} {H : zaa} {K : Kt} {Kb5 : Lt} (Inv : Nat → AV → zaa → Prop) (n : Nat) (h0 : HSc H → Inv n t6 H)
  (round : ∀ n t6 H', Inv n t6 H' → HSc H' → H.length ≤ H'.length → (zg4 t0 t5 t6).all (AV.sc H'.length) = true → ∀ Kb10 : Lt, (∀ F'' H'', (∃ n', n' < n ∧ Back H.length (fun F2 H2 => ∃ t6, F2 = zg4 t0 t5 t6 ∧ Inv n' t6 H2) F'' H'') → Kb10 F'' H'') → znF t0 t5 t6 H' K Kb5 Kb10) : zC2 t0 t5 t6 H K Kb5 :=
 zav (M := zca) zC3 (fun n F H => ∃ t6, F = zg4 t0 t5 t6 ∧ Inv n t6 H) n (fun hs _ => ⟨t6, rfl, h0 hs⟩) (fun n F H' ⟨t6, hF, hI⟩ h1 h2 h3 => by subst hF; rw [zO3]; exact round n t6 H' hI h1 h2 h3 _ (fun _ _ h => h))
theorem zO4 (t0 t5 t6 t7 t8 : AV) (H : zaa) (K : Kt) (Kb5 : Lt) (Kb18 : Lt) : awp tP zca zC0 (zat zC4 Kb18 (zCX K Kb5)) (ze4 t0 t5 t6 t7 t8) H = znG t0 t5 t6 t7 t8 H K Kb5 Kb18 := by kernel_rfl
theorem zO9 {t0 t5 t6 t7 t8 : AV} {H : zaa} {K : Kt} {Kb5 : Lt} (Inv : Nat → AV → zaa → Prop) (n : Nat) (h0 : HSc H → Inv n t8 H)
  (round : ∀ n t8 H', Inv n t8 H' → HSc H' → H.length ≤ H'.length → (ze4 t0 t5 t6 t7 t8).all (AV.sc H'.length) = true → ∀ Kb18 : Lt, (∀ F'' H'', (∃ n', n' < n ∧ Back H.length (fun F2 H2 => ∃ t8, F2 = ze4 t0 t5 t6 t7 t8 ∧ Inv n' t8 H2) F'' H'') → Kb18 F'' H'') → znG t0 t5 t6 t7 t8 H' K Kb5 Kb18) : zsp t0 t5 t6 t7 t8 H K Kb5 :=
 zav (M := zca) zC4 (fun n F H => ∃ t8, F = ze4 t0 t5 t6 t7 t8 ∧ Inv n t8 H) n (fun hs _ => ⟨t8, rfl, h0 hs⟩) (fun n F H' ⟨t8, hF, hI⟩ h1 h2 h3 => by subst hF; rw [zO4]; exact round n t8 H' hI h1 h2 h3 _ (fun _ _ h => h))
theorem zO5 (t0 t5 t6 t7 t8 : AV) (H : zaa) (K : Kt) (Kb5 : Lt) (Kb29 : Lt) : awp tP zca zC1 (zat zC5 Kb29 (zCY K Kb5)) (zg5 t0 t5 t6 t7 t8) H = znH t0 t5 t6 t7 t8 H K Kb5 Kb29 := by kernel_rfl
theorem zPa {t0 t5 t6 t7 t8 : AV} {H : zaa} {K : Kt} {Kb5 : Lt} (Inv : Nat → AV → zaa → Prop) (n : Nat) (h0 : HSc H → Inv n t8 H)
  (round : ∀ n t8 H', Inv n t8 H' → HSc H' → H.length ≤ H'.length → (zg5 t0 t5 t6 t7 t8).all (AV.sc H'.length) = true → ∀ Kb29 : Lt, (∀ F'' H'', (∃ n', n' < n ∧ Back H.length (fun F2 H2 => ∃ t8, F2 = zg5 t0 t5 t6 t7 t8 ∧ Inv n' t8 H2) F'' H'') → Kb29 F'' H'') → znH t0 t5 t6 t7 t8 H' K Kb5 Kb29) : zsq t0 t5 t6 t7 t8 H K Kb5 :=
 zav (M := zca) zC5 (fun n F H => ∃ t8, F = zg5 t0 t5 t6 t7 t8 ∧ Inv n t8 H) n (fun hs _ => ⟨t8, rfl, h0 hs⟩) (fun n F H' ⟨t8, hF, hI⟩ h1 h2 h3 => by subst hF; rw [zO5]; exact round n t8 H' hI h1 h2 h3 _ (fun _ _ h => h))
theorem zO6 (t0 t5 t6 : AV) (H : zaa) (K : Kt) (Kb5 : Lt) : awp tP zca ze3 (zat zjI Kb5 (zjF K)) (zd1 t0 t5 t6) H = zjG t0 t5 t6 H K Kb5 := by kernel_rfl
theorem zPb {t0 t5 t6 : AV} {H : zaa} {K : Kt} (Inv : Nat → AV → AV → zaa → Prop) (n : Nat) (h0 : HSc H → Inv n t5 t6 H)
  (round : ∀ n t5 t6 H', Inv n t5 t6 H' → HSc H' → H.length ≤ H'.length → (zd1 t0 t5 t6).all (AV.sc H'.length) = true → ∀ Kb5 : Lt, (∀ F'' H'', (∃ n', n' < n ∧ Back H.length (fun F2 H2 => ∃ t5 t6, F2 = zd1 t0 t5 t6 ∧ Inv n' t5 t6 H2) F'' H'') → Kb5 F'' H'') → zjG t0 t5 t6 H' K Kb5) : znK t0 t5 t6 H K :=
 zav (M := zca) zjI (fun n F H => ∃ t5 t6, F = zd1 t0 t5 t6 ∧ Inv n t5 t6 H) n (fun hs _ => ⟨t5, t6, rfl, h0 hs⟩) (fun n F H' ⟨t5, t6, hF, hI⟩ h1 h2 h3 => by subst hF; rw [zO6]; exact round n t5 t6 H' hI h1 h2 h3 _ (fun _ _ h => h))
theorem zO7 (t0 : AV) (H : zaa) (K : Kt) : awp tP zca znI (zal tP zC6 K) (t0 :: List.replicate 199 .unk) H = znE t0 H K := by kernel_rfl
theorem zPc {t0 : AV} {H : zaa} {K : Kt} (h : HSc H → znE t0 H K) : ACalls tP zo2 [t0] H K :=
 zaw (M := zca) Try.func99 (c := znI) (by kernel_rfl) (fun hs => (zO7 t0 H K).mpr (h hs))
def zDb (_ : Nat) : List Bool := []
noncomputable def zDc : Code := Try.f101.body.getD .skip
noncomputable def zPk : List ResultVar := Try.f101.results.toList
def zss (t0 : AV) (H : zaa) (K : Kt) : Prop :=
 zad .eql false t0 (.int .u8 9) fun t4 =>
 zab t4 false H (fun K' => K' t0 H) fun t6 H =>
 zab t4 false H (fun K' => zad .eql false t6 (.int .u8 10) (K' · H)) fun t7 H =>
 zah t4 (.bool true) t7 fun t8 =>
 zab t8 false H (fun K' => K' t0 H) fun t10 H =>
 zab t8 false H (fun K' => zad .eql false t10 (.int .u8 13) (K' · H)) fun t11 H =>
 zah t8 (.bool true) t11 fun t12 =>
 zab t12 false H (fun K' => K' t0 H) fun t14 H =>
 zab t12 false H (fun K' => zad .eql false t14 (.int .u8 32) (K' · H)) fun t15 H =>
 zah t12 (.bool true) t15 fun t16 =>
 K t16 H
theorem zPi (t0 : AV) (H : zaa) (K : Kt) : awp tP zDb zDc (zal tP zPk K) (t0 :: List.replicate 16 .unk) H = zss t0 H K := by kernel_rfl
theorem zPj {t0 : AV} {H : zaa} {K : Kt} (h : HSc H → zss t0 H K) : ACalls tP zo3 [t0] H K :=
 zaw (M := zDb) Try.func101 (c := zDc) (by kernel_rfl) (fun hs => (zPi t0 H K).mpr (h hs))
def zu9 (_ : Nat) : List Bool := []
noncomputable def zva : Code := Try.f102.body.getD .skip
noncomputable def zHl : List ResultVar := Try.f102.results.toList
def zvb (t4 t6 : AV) (H : zaa) (K : Kt) : Prop :=
 zae true 3 t6 H fun t74 =>
 zas 3 t4 t74 H fun H =>
 zae true 3 t4 H fun r0 =>
 zaY [r0, (.int .i64 0)] (K · H)
def zhE (t4 t6 : AV) (H : zaa) (K : Kt) : Prop :=
 zvb t4 t6 H K
def zhD (t4 t6 : AV) (H : zaa) (K : Kt) : Prop :=
 zhE t4 t6 H K
def zk0 (t0 t1 : AV) (H : zaa) (K : Kt) : Prop :=
 zaC [(.int .i64 0), (.str []), (.int .i64 0)] H fun t4 H =>
 zaL [(.int .i64 0), (.str []), (.int .i64 0)] [(0, 1), (1, 1), (2, 1)] [(2, t1)] fun t9 =>
 zaC [(.int .i64 0), (.str []), (.int .i64 0)] H fun t6 H =>
 zas 3 t6 t9 H fun H =>
 zbF t0 t1 fun t12 =>
 ACalls tP zke [t12] H fun t25 H =>
 zab t25 false H (fun K' => K' t12 H) fun t27 H =>
 zab t25 false H (fun K' => ACalls tP ziT [t27] H K') fun t28 H =>
 zah t25 (.bool true) t28 fun t29 =>
 zag t29
 (za0 0 0 t0 (some t1) none fun t32 =>
 ACalls tP zkf [t32, (.fn ziU [])] H fun t33 H =>
 zaf 1 t6 fun t34 =>
 zas 1 t34 t33 H fun H =>
 zaf 1 t6 fun t37 =>
 zae false 1 t37 H fun t38 =>
 zak 0 t38 fun t39 =>
 zad .gtr false t39 (.int .i64 24) fun t40 =>
 zag t40
 (zaL [(.int .i64 0), (.str []), (.int .i64 0)] [(0, 1), (1, 1), (2, 1)] [] fun t41 =>
 zas 3 t4 t41 H fun H =>
 zae true 3 t4 H fun r0 =>
 zaY [r0, (.int .i64 9)] (K · H))
 (ACalls tP ziT [t12] H fun t44 H =>
 zag t44
 (zaf 0 t6 fun t45 =>
 zas 1 t45 (.int .i64 2) H fun H =>
 zhD t4 t6 H K)
 (zaf 1 t6 fun t47 =>
 zae false 1 t47 H fun t48 =>
 ACalls tP zoC [t48] H fun t49 H =>
 zag t49
 (zaf 0 t6 fun t50 =>
 zas 1 t50 (.int .i64 4) H fun H =>
 zhD t4 t6 H K)
 (zaf 0 t6 fun t35 =>
 zas 1 t35 (.int .i64 1) H fun H =>
 zhD t4 t6 H K))))
 (ACalls tP zfk [t12] H fun t53 H =>
 zag t53
 (zaf 0 t6 fun t54 =>
 zas 1 t54 (.int .i64 3) H fun H =>
 za0 0 0 t0 (some t1) none fun t57 =>
 ACalls tP zkf [t57, (.fn zfk [])] H fun t58 H =>
 zaf 1 t6 fun t59 =>
 zas 1 t59 t58 H fun H =>
 zad .eql false t12 (.int .u8 48) fun t61 =>
 zab t61 true H (fun K' => zaf 1 t6 (K' · H)) fun t63 H =>
 zab t61 true H (fun K' => zae false 1 t63 H (K' · H)) fun t64 H =>
 zab t61 true H (fun K' => zak 0 t64 (K' · H)) fun t65 H =>
 zab t61 true H (fun K' => zad .gtr false t65 (.int .i64 1) (K' · H)) fun t66 H =>
 zah t61 t66 (.bool false) fun t67 =>
 zag t67
 (zaL [(.int .i64 0), (.str []), (.int .i64 0)] [(0, 1), (1, 1), (2, 1)] [] fun t68 =>
 zas 3 t4 t68 H fun H =>
 zae true 3 t4 H fun r0 =>
 zaY [r0, (.int .i64 2)] (K · H))
 (zaf 1 t6 fun t69 =>
 zae false 1 t69 H fun t70 =>
 ACalls tP ziV [t70] H fun t71 H =>
 aUn .not t71 fun t72 =>
 zag t72
 (zaL [(.int .i64 0), (.str []), (.int .i64 0)] [(0, 1), (1, 1), (2, 1)] [] fun t73 =>
 zas 3 t4 t73 H fun H =>
 zae true 3 t4 H fun r0 =>
 zaY [r0, (.int .i64 9)] (K · H))
 (zhE t4 t6 H K)))
 (zaf 0 t6 fun t13 =>
 zas 1 t13 (.int .i64 5) H fun H =>
 za0 0 0 t0 (some t1) none fun t16 =>
 ACalls tP zoD [t16] H fun t17 H =>
 zaf 1 t6 fun t18 =>
 zas 1 t18 t17 H fun H =>
 zaf 1 t6 fun t19 =>
 zae false 1 t19 H fun t20 =>
 zad .eql false t20 (.str []) fun t21 =>
 zag t21
 (zaL [(.int .i64 0), (.str []), (.int .i64 0)] [(0, 1), (1, 1), (2, 1)] [] fun t22 =>
 zas 3 t4 t22 H fun H =>
 zae true 3 t4 H fun r0 =>
 zaY [r0, (.int .i64 2)] (K · H))
 (zhE t4 t6 H K)))
theorem zHj (t0 t1 : AV) (H : zaa) (K : Kt) : awp tP zu9 zva (zal tP zHl K) (t0 :: t1 :: List.replicate 73 .unk) H = zk0 t0 t1 H K := by kernel_rfl
theorem zHk {t0 t1 : AV} {H : zaa} {K : Kt} (h : HSc H → zk0 t0 t1 H K) : ACalls tP zoA [t0, t1] H K :=
 zaw (M := zu9) Try.func102 (c := zva) (by kernel_rfl) (fun hs => (zHj t0 t1 H K).mpr (h hs))
def zvA (_ : Nat) : List Bool := []
noncomputable def zvB : Code := Try.f109.body.getD .skip
noncomputable def zHN : List ResultVar := Try.f109.results.toList
def zpV (t0 : AV) (H : zaa) (K : Kt) : Prop :=
 zad .geq false t0 (.int .u8 97) fun t4 =>
 zab t4 true H (fun K' => K' t0 H) fun t6 H =>
 zab t4 true H (fun K' => zad .leq false t6 (.int .u8 122) (K' · H)) fun t7 H =>
 zah t4 t7 (.bool false) fun t8 =>
 K t8 H
theorem zHL (t0 : AV) (H : zaa) (K : Kt) : awp tP zvA zvB (zal tP zHN K) (t0 :: List.replicate 8 .unk) H = zpV t0 H K := by kernel_rfl
theorem zHM {t0 : AV} {H : zaa} {K : Kt} (h : HSc H → zpV t0 H K) : ACalls tP zkb [t0] H K :=
 zaw (M := zvA) Try.func109 (c := zvB) (by kernel_rfl) (fun hs => (zHL t0 H K).mpr (h hs))
def zvC (_ : Nat) : List Bool := []
noncomputable def zvD : Code := Try.f110.body.getD .skip
noncomputable def zHQ : List ResultVar := Try.f110.results.toList
def zpW (t0 : AV) (H : zaa) (K : Kt) : Prop :=
 zad .geq false t0 (.int .u8 65) fun t4 =>
 zab t4 true H (fun K' => K' t0 H) fun t6 H =>
 zab t4 true H (fun K' => zad .leq false t6 (.int .u8 90) (K' · H)) fun t7 H =>
 zah t4 t7 (.bool false) fun t8 =>
 K t8 H
theorem zHO (t0 : AV) (H : zaa) (K : Kt) : awp tP zvC zvD (zal tP zHQ K) (t0 :: List.replicate 8 .unk) H = zpW t0 H K := by kernel_rfl
theorem zHP {t0 : AV} {H : zaa} {K : Kt} (h : HSc H → zpW t0 H K) : ACalls tP zhh [t0] H K :=
 zaw (M := zvC) Try.func110 (c := zvD) (by kernel_rfl) (fun hs => (zHO t0 H K).mpr (h hs))
def zvE (_ : Nat) : List Bool := []
noncomputable def zvF : Code := Try.f111.body.getD .skip
noncomputable def zHT : List ResultVar := Try.f111.results.toList
def zpX (t0 : AV) (H : zaa) (K : Kt) : Prop :=
 zad .geq false t0 (.int .u8 48) fun t4 =>
 zab t4 true H (fun K' => K' t0 H) fun t6 H =>
 zab t4 true H (fun K' => zad .leq false t6 (.int .u8 57) (K' · H)) fun t7 H =>
 zah t4 t7 (.bool false) fun t8 =>
 K t8 H
theorem zHR (t0 : AV) (H : zaa) (K : Kt) : awp tP zvE zvF (zal tP zHT K) (t0 :: List.replicate 8 .unk) H = zpX t0 H K := by kernel_rfl
theorem zHS {t0 : AV} {H : zaa} {K : Kt} (h : HSc H → zpX t0 H K) : ACalls tP ziS [t0] H K :=
 zaw (M := zvE) Try.func111 (c := zvF) (by kernel_rfl) (fun hs => (zHR t0 H K).mpr (h hs))
def zhH : Nat → List Bool
 | 3 => rl false [0,1,2,2,13]
 | _ => []
noncomputable def zld : Code := Try.f112.body.getD .skip
noncomputable def zvS : List ResultVar := Try.f112.results.toList
def zfF (t0 t3 t4 : AV) : List AV := t0 :: ux 2 (t3 :: t4 :: ux 13 [])
def zvR : List Bool := zhH 3
noncomputable def zvQ : Code := zap [1, 1, 0, 1, 0, 0] zld
def zvP (K : Kt) : AExit → List AV → zaa → Prop := zaq tP zhH [1, 1, 0, 1, 0] zld (zal tP zvS K)
def zp3 (t0 t3 t4 : AV) (H : zaa) (K : Kt) : Prop := ALoop tP zvQ (zvP K) (zfF t0 t3 t4) H
def zjc (t0 t3 t4 : AV) (H : zaa) (K : Kt) (Kb3 : Lt) : Prop :=
 zak 1 t3 fun t8 =>
 zad .lss false t4 t8 fun t9 =>
 zag t9
 (zaj 1 t3 t4 fun t14 =>
 zae false 1 t14 H fun t15 =>
 zad .eql false t15 t0 fun t17 =>
 zag t17
 (K (.bool true) H)
 (zad .add false t4 (.int .i64 1) fun t11 =>
 Kb3 (zfF t0 t3 t11) H))
 (K (.bool false) H)
def zp2 (t0 : AV) (H : zaa) (K : Kt) : Prop :=
 zaA 1 [(.str [])] 28 [(0, (.str [97, 114, 114, 97, 121])), (1, (.str [98, 111, 111, 108])), (2, (.str [99, 97, 116, 99, 104])), (3, (.str [100, 97, 116, 97])), (4, (.str [101, 108, 115, 101])), (5, (.str [101, 110, 100])), (6, (.str [102, 97, 108, 115, 101])), (7, (.str [102, 110])), (8, (.str [102, 117, 110])), (9, (.str [103, 101, 116])), (10, (.str [105, 102])), (11, (.str [105, 110])), (12, (.str [105, 110, 116])), (13, (.str [108, 101, 110])), (14, (.str [108, 101, 116])), (15, (.str [109, 97, 116, 99, 104])), (16, (.str [110, 101, 119])), (17, (.str [114, 97, 105, 115, 101])), (18, (.str [114, 101, 97, 100])), (19, (.str [114, 101, 102])), (20, (.str [115, 101, 116])), (21, (.str [116, 104, 101, 110])), (22, (.str [116, 105, 99, 107])), (23, (.str [116, 114, 117, 101])), (24, (.str [116, 114, 121])), (25, (.str [117, 110, 105, 116])), (26, (.str [119, 105, 116, 104])), (27, (.str [119, 114, 105, 116, 101]))] fun t5 =>
 zp3 t0 t5 (.int .i64 0) H K
theorem zH3 (t0 t3 t4 : AV) (H : zaa) (K : Kt) (Kb3 : Lt) : awp tP zhH zvQ (zat zvR Kb3 (zvP K)) (zfF t0 t3 t4) H = zjc t0 t3 t4 H K Kb3 := by kernel_rfl
theorem zH5 {t0 t3 t4 : AV} {H : zaa} {K : Kt} (Inv : Nat → AV → zaa → Prop) (n : Nat) (h0 : HSc H → Inv n t4 H)
  (round : ∀ n t4 H', Inv n t4 H' → HSc H' → H.length ≤ H'.length → (zfF t0 t3 t4).all (AV.sc H'.length) = true → ∀ Kb3 : Lt, (∀ F'' H'', (∃ n', n' < n ∧ Back H.length (fun F2 H2 => ∃ t4, F2 = zfF t0 t3 t4 ∧ Inv n' t4 H2) F'' H'') → Kb3 F'' H'') → zjc t0 t3 t4 H' K Kb3) : zp3 t0 t3 t4 H K :=
 zav (M := zhH) zvR (fun n F H => ∃ t4, F = zfF t0 t3 t4 ∧ Inv n t4 H) n (fun hs _ => ⟨t4, rfl, h0 hs⟩) (fun n F H' ⟨t4, hF, hI⟩ h1 h2 h3 => by subst hF; rw [zH3]; exact round n t4 H' hI h1 h2 h3 _ (fun _ _ h => h))
theorem zH4 (t0 : AV) (H : zaa) (K : Kt) : awp tP zhH zld (zal tP zvS K) (t0 :: List.replicate 17 .unk) H = zp2 t0 H K := by kernel_rfl
theorem zH6 {t0 : AV} {H : zaa} {K : Kt} (h : HSc H → zp2 t0 H K) : ACalls tP zkc [t0] H K :=
 zaw (M := zhH) Try.func112 (c := zld) (by kernel_rfl) (fun hs => (zH4 t0 H K).mpr (h hs))
def zhI : Nat → List Bool
 | 3 => rl false [0,1,3,2,17]
 | _ => []
noncomputable def zlf : Code := Try.f113.body.getD .skip
noncomputable def zvX : List ResultVar := Try.f113.results.toList
def zfG (t0 t4 t5 : AV) : List AV := t0 :: ux 3 (t4 :: t5 :: ux 17 [])
def zvW : List Bool := zhI 3
noncomputable def zvU : Code := zap [1, 1, 0, 1, 0, 0] zlf
def zvT (K : Kt) : AExit → List AV → zaa → Prop := zaq tP zhI [1, 1, 0, 1, 0] zlf (zal tP zvX K)
def zvV (t0 t4 t5 : AV) (H : zaa) (K : Kt) : Prop := ALoop tP zvU (zvT K) (zfG t0 t4 t5) H
def zle (t0 t4 t5 : AV) (H : zaa) (K : Kt) (Kb3 : Lt) : Prop :=
 zak 0 t0 fun t8 =>
 zad .lss false t5 t8 fun t9 =>
 zag t9
 (zad .mul false t4 (.int .i64 10) fun t13 =>
 zbF t0 t5 fun t16 =>
 zad .sub false t16 (.int .u8 48) fun t17 =>
 zc6 .i64 t17 fun t18 =>
 zad .add false t13 t18 fun t19 =>
 zad .gtr false t19 (.int .i64 1000000) fun t21 =>
 zag t21
 (zaY [(.int .i64 0), (.bool false)] (K · H))
 (zad .add false t5 (.int .i64 1) fun t11 =>
 Kb3 (zfG t0 t19 t11) H))
 (zaY [t4, (.bool true)] (K · H))
def zp4 (t0 : AV) (H : zaa) (K : Kt) : Prop :=
 zvV t0 (.int .i64 0) (.int .i64 0) H K
theorem zH7 (t0 t4 t5 : AV) (H : zaa) (K : Kt) (Kb3 : Lt) : awp tP zhI zvU (zat zvW Kb3 (zvT K)) (zfG t0 t4 t5) H = zle t0 t4 t5 H K Kb3 := by kernel_rfl
theorem zH9 {t0 t4 t5 : AV} {H : zaa} {K : Kt} (Inv : Nat → AV → AV → zaa → Prop) (n : Nat) (h0 : HSc H → Inv n t4 t5 H)
  (round : ∀ n t4 t5 H', Inv n t4 t5 H' → HSc H' → H.length ≤ H'.length → (zfG t0 t4 t5).all (AV.sc H'.length) = true → ∀ Kb3 : Lt, (∀ F'' H'', (∃ n', n' < n ∧ Back H.length (fun F2 H2 => ∃ t4 t5, F2 = zfG t0 t4 t5 ∧ Inv n' t4 t5 H2) F'' H'') → Kb3 F'' H'') → zle t0 t4 t5 H' K Kb3) : zvV t0 t4 t5 H K :=
 zav (M := zhI) zvW (fun n F H => ∃ t4 t5, F = zfG t0 t4 t5 ∧ Inv n t4 t5 H) n (fun hs _ => ⟨t4, t5, rfl, h0 hs⟩) (fun n F H' ⟨t4, t5, hF, hI⟩ h1 h2 h3 => by subst hF; rw [zH7]; exact round n t4 t5 H' hI h1 h2 h3 _ (fun _ _ h => h))
theorem zH8 (t0 : AV) (H : zaa) (K : Kt) : awp tP zhI zlf (zal tP zvX K) (t0 :: List.replicate 22 .unk) H = zp4 t0 H K := by kernel_rfl
theorem zIa {t0 : AV} {H : zaa} {K : Kt} (h : HSc H → zp4 t0 H K) : ACalls tP zhj [t0] H K :=
 zaw (M := zhI) Try.func113 (c := zlf) (by kernel_rfl) (fun hs => (zH8 t0 H K).mpr (h hs))
def zhJ : Nat → List Bool
 | 5 => rl false [0,1,2,2,30]
 | _ => []
noncomputable def zlg : Code := Try.f114.body.getD .skip
noncomputable def zv1 : List ResultVar := Try.f114.results.toList
def zfI (t0 t3 t4 : AV) : List AV := t0 :: ux 2 (t3 :: t4 :: ux 30 [])
def zv0 : List Bool := zhJ 5
noncomputable def zvZ : Code := zap [1, 1, 1, 0, 1, 0, 0] zlg
def zvY (K : Kt) : AExit → List AV → zaa → Prop := zaq tP zhJ [1, 1, 1, 0, 1, 0] zlg (zal tP zv1 K)
def zp5 (t0 t3 t4 : AV) (H : zaa) (K : Kt) : Prop := ALoop tP zvZ (zvY K) (zfI t0 t3 t4) H
def zjd (t0 t3 t4 : AV) (H : zaa) (K : Kt) (Kb5 : Lt) : Prop :=
 zak 0 t3 fun t25 =>
 zad .lss false t4 t25 fun t26 =>
 zag t26
 (zac H (fun K' => K' t0 H) fun t29 =>
 zac H (fun K' => zbF t29 (.int .i64 0) (K' · H)) fun t30 =>
 zac H (fun K' => K' t3 H) fun t31 =>
 zac H (fun K' => K' t4 H) fun t32 =>
 zac H (fun K' => zbF t31 t32 (K' · H)) fun t33 =>
 zac H (fun K' => zad .eql false t30 t33 (K' · H)) fun t34 =>
 zag t34
 (K (.int .i64 1) H)
 (zad .add false t4 (.int .i64 1) fun t28 =>
 Kb5 (zfI t0 t3 t28) H))
 (K (.int .i64 0) H)
def zfH (t0 : AV) (H : zaa) (K : Kt) : Prop :=
 zak 0 t0 fun t6 =>
 zad .geq false t6 (.int .i64 2) fun t7 =>
 zab t7 true H (fun K' => K' t0 H) fun t9 H =>
 zab t7 true H (fun K' => za0 0 0 t9 none (some (.int .i64 2)) (K' · H)) fun t10 H =>
 zab t7 true H (fun K' => zad .eql false t10 (.str [45, 62]) (K' · H)) fun t11 H =>
 zab t7 true H (fun K' => K' t11 H) fun t12 H =>
 zab t12 false H (fun K' => K' t0 H) fun t13 H =>
 zab t12 false H (fun K' => za0 0 0 t13 none (some (.int .i64 2)) (K' · H)) fun t14 H =>
 zab t12 false H (fun K' => zad .eql false t14 (.str [60, 61]) (K' · H)) fun t15 H =>
 zab t7 true H (fun K' => zah t12 (.bool true) t15 (K' · H)) fun t16 H =>
 zab t7 true H (fun K' => K' t16 H) fun t17 H =>
 zab t17 false H (fun K' => K' t0 H) fun t18 H =>
 zab t17 false H (fun K' => za0 0 0 t18 none (some (.int .i64 2)) (K' · H)) fun t19 H =>
 zab t17 false H (fun K' => zad .eql false t19 (.str [61, 61]) (K' · H)) fun t20 H =>
 zab t7 true H (fun K' => zah t17 (.bool true) t20 (K' · H)) fun t21 H =>
 zah t7 t21 (.bool false) fun t22 =>
 zag t22
 (K (.int .i64 2) H)
 (zp5 t0 (.str [40, 41, 44, 61, 124, 43, 45, 42, 47, 37, 60, 59, 95]) (.int .i64 0) H K)
theorem zIb (t0 t3 t4 : AV) (H : zaa) (K : Kt) (Kb5 : Lt) : awp tP zhJ zvZ (zat zv0 Kb5 (zvY K)) (zfI t0 t3 t4) H = zjd t0 t3 t4 H K Kb5 := by kernel_rfl
theorem zId {t0 t3 t4 : AV} {H : zaa} {K : Kt} (Inv : Nat → AV → zaa → Prop) (n : Nat) (h0 : HSc H → Inv n t4 H)
  (round : ∀ n t4 H', Inv n t4 H' → HSc H' → H.length ≤ H'.length → (zfI t0 t3 t4).all (AV.sc H'.length) = true → ∀ Kb5 : Lt, (∀ F'' H'', (∃ n', n' < n ∧ Back H.length (fun F2 H2 => ∃ t4, F2 = zfI t0 t3 t4 ∧ Inv n' t4 H2) F'' H'') → Kb5 F'' H'') → zjd t0 t3 t4 H' K Kb5) : zp5 t0 t3 t4 H K :=
 zav (M := zhJ) zv0 (fun n F H => ∃ t4, F = zfI t0 t3 t4 ∧ Inv n t4 H) n (fun hs _ => ⟨t4, rfl, h0 hs⟩) (fun n F H' ⟨t4, hF, hI⟩ h1 h2 h3 => by subst hF; rw [zIb]; exact round n t4 H' hI h1 h2 h3 _ (fun _ _ h => h))
theorem zIc (t0 : AV) (H : zaa) (K : Kt) : awp tP zhJ zlg (zal tP zv1 K) (t0 :: List.replicate 34 .unk) H = zfH t0 H K := by kernel_rfl
theorem zIe {t0 : AV} {H : zaa} {K : Kt} (h : HSc H → zfH t0 H K) : ACalls tP zoB [t0] H K :=
 zaw (M := zhJ) Try.func114 (c := zlg) (by kernel_rfl) (fun hs => (zIc t0 H K).mpr (h hs))
def zv7 (_ : Nat) : List Bool := []
noncomputable def zv8 : Code := Try.f116.body.getD .skip
noncomputable def zIl : List ResultVar := Try.f116.results.toList
def zp7 (t0 : AV) (H : zaa) (K : Kt) : Prop :=
 zad .geq false t0 (.int .u8 97) fun t4 =>
 zab t4 true H (fun K' => K' t0 H) fun t6 H =>
 zab t4 true H (fun K' => zad .leq false t6 (.int .u8 122) (K' · H)) fun t7 H =>
 zah t4 t7 (.bool false) fun t8 =>
 K t8 H
theorem zIj (t0 : AV) (H : zaa) (K : Kt) : awp tP zv7 zv8 (zal tP zIl K) (t0 :: List.replicate 8 .unk) H = zp7 t0 H K := by kernel_rfl
theorem zIk {t0 : AV} {H : zaa} {K : Kt} (h : HSc H → zp7 t0 H K) : ACalls tP zke [t0] H K :=
 zaw (M := zv7) Try.func116 (c := zv8) (by kernel_rfl) (fun hs => (zIj t0 H K).mpr (h hs))
def zv9 (_ : Nat) : List Bool := []
noncomputable def zwa : Code := Try.f117.body.getD .skip
noncomputable def zIo : List ResultVar := Try.f117.results.toList
def zp8 (t0 : AV) (H : zaa) (K : Kt) : Prop :=
 zad .geq false t0 (.int .u8 65) fun t4 =>
 zab t4 true H (fun K' => K' t0 H) fun t6 H =>
 zab t4 true H (fun K' => zad .leq false t6 (.int .u8 90) (K' · H)) fun t7 H =>
 zah t4 t7 (.bool false) fun t8 =>
 K t8 H
theorem zIm (t0 : AV) (H : zaa) (K : Kt) : awp tP zv9 zwa (zal tP zIo K) (t0 :: List.replicate 8 .unk) H = zp8 t0 H K := by kernel_rfl
theorem zIn {t0 : AV} {H : zaa} {K : Kt} (h : HSc H → zp8 t0 H K) : ACalls tP ziT [t0] H K :=
 zaw (M := zv9) Try.func117 (c := zwa) (by kernel_rfl) (fun hs => (zIm t0 H K).mpr (h hs))
def zhL : Nat → List Bool
 | 2 => rl false [0,2,3,1,16]
 | _ => []
noncomputable def zlk : Code := Try.f118.body.getD .skip
noncomputable def zwf : List ResultVar := Try.f118.results.toList
def zfK (t0 t1 t5 : AV) : List AV := t0 :: t1 :: ux 3 (t5 :: ux 16 [])
def zwe : List Bool := zhL 2
noncomputable def zwc : Code := zap [1, 1, 0, 0, 0] zlk
def zwb (K : Kt) : AExit → List AV → zaa → Prop := zaq tP zhL [1, 1, 0, 0] zlk (zal tP zwf K)
def zwd (t0 t1 t5 : AV) (H : zaa) (K : Kt) : Prop := ALoop tP zwc (zwb K) (zfK t0 t1 t5) H
def zlj (t0 t1 t5 : AV) (H : zaa) (K : Kt) (Kb2 : Lt) : Prop :=
 zak 0 t0 fun t8 =>
 zad .lss false t5 t8 fun t9 =>
 zab t9 true H (fun K' => K' t1 H) fun t11 H =>
 zab t9 true H (fun K' => K' t0 H) fun t12 H =>
 zab t9 true H (fun K' => K' t5 H) fun t13 H =>
 zab t9 true H (fun K' => zbF t12 t13 (K' · H)) fun t14 H =>
 zab t9 true H (fun K' => aCallV tP t11 [t14] H K') fun t15 H =>
 zah t9 t15 (.bool false) fun t16 =>
 zag t16
 (zad .add false t5 (.int .i64 1) fun t18 =>
 Kb2 (zfK t0 t1 t18) H)
 (za0 0 0 t0 none (some t5) fun t21 =>
 K t21 H)
def zp9 (t0 t1 : AV) (H : zaa) (K : Kt) : Prop :=
 zwd t0 t1 (.int .i64 0) H K
theorem zIp (t0 t1 t5 : AV) (H : zaa) (K : Kt) (Kb2 : Lt) : awp tP zhL zwc (zat zwe Kb2 (zwb K)) (zfK t0 t1 t5) H = zlj t0 t1 t5 H K Kb2 := by kernel_rfl
theorem zIr {t0 t1 t5 : AV} {H : zaa} {K : Kt} (Inv : Nat → AV → zaa → Prop) (n : Nat) (h0 : HSc H → Inv n t5 H)
  (round : ∀ n t5 H', Inv n t5 H' → HSc H' → H.length ≤ H'.length → (zfK t0 t1 t5).all (AV.sc H'.length) = true → ∀ Kb2 : Lt, (∀ F'' H'', (∃ n', n' < n ∧ Back H.length (fun F2 H2 => ∃ t5, F2 = zfK t0 t1 t5 ∧ Inv n' t5 H2) F'' H'') → Kb2 F'' H'') → zlj t0 t1 t5 H' K Kb2) : zwd t0 t1 t5 H K :=
 zav (M := zhL) zwe (fun n F H => ∃ t5, F = zfK t0 t1 t5 ∧ Inv n t5 H) n (fun hs _ => ⟨t5, rfl, h0 hs⟩) (fun n F H' ⟨t5, hF, hI⟩ h1 h2 h3 => by subst hF; rw [zIp]; exact round n t5 H' hI h1 h2 h3 _ (fun _ _ h => h))
theorem zIq (t0 t1 : AV) (H : zaa) (K : Kt) : awp tP zhL zlk (zal tP zwf K) (t0 :: t1 :: List.replicate 20 .unk) H = zp9 t0 t1 H K := by kernel_rfl
theorem zIs {t0 t1 : AV} {H : zaa} {K : Kt} (h : HSc H → zp9 t0 t1 H K) : ACalls tP zkf [t0, t1] H K :=
 zaw (M := zhL) Try.func118 (c := zlk) (by kernel_rfl) (fun hs => (zIq t0 t1 H K).mpr (h hs))
def zwg (_ : Nat) : List Bool := []
noncomputable def zwh : Code := Try.f119.body.getD .skip
noncomputable def zIv : List ResultVar := Try.f119.results.toList
def zqa (t0 : AV) (H : zaa) (K : Kt) : Prop :=
 ACalls tP zke [t0] H fun t4 H =>
 zab t4 false H (fun K' => K' t0 H) fun t6 H =>
 zab t4 false H (fun K' => ACalls tP ziT [t6] H K') fun t7 H =>
 zah t4 (.bool true) t7 fun t8 =>
 zab t8 false H (fun K' => K' t0 H) fun t10 H =>
 zab t8 false H (fun K' => ACalls tP zfk [t10] H K') fun t11 H =>
 zah t8 (.bool true) t11 fun t12 =>
 zab t12 false H (fun K' => K' t0 H) fun t14 H =>
 zab t12 false H (fun K' => zad .eql false t14 (.int .u8 95) (K' · H)) fun t15 H =>
 zah t12 (.bool true) t15 fun t16 =>
 K t16 H
theorem zIt (t0 : AV) (H : zaa) (K : Kt) : awp tP zwg zwh (zal tP zIv K) (t0 :: List.replicate 16 .unk) H = zqa t0 H K := by kernel_rfl
theorem zIu {t0 : AV} {H : zaa} {K : Kt} (h : HSc H → zqa t0 H K) : ACalls tP ziU [t0] H K :=
 zaw (M := zwg) Try.func119 (c := zwh) (by kernel_rfl) (fun hs => (zIt t0 H K).mpr (h hs))
def zwi (_ : Nat) : List Bool := []
noncomputable def zwj : Code := Try.f120.body.getD .skip
noncomputable def zIy : List ResultVar := Try.f120.results.toList
def zbg (t4 : AV) (H : zaa) (K : Kt) : Prop :=
 zag t4
 (K (.bool true) H)
 (K (.bool false) H)
def zqb (t0 : AV) (H : zaa) (K : Kt) : Prop :=
 zad .eql false t0 (.str [97, 114, 114, 97, 121]) fun t5 =>
 zag t5
 (zbg t5 H K)
 (zad .eql false t0 (.str [98, 111, 111, 108]) fun t6 =>
 zag t6
 (zbg t6 H K)
 (zad .eql false t0 (.str [99, 97, 116, 99, 104]) fun t7 =>
 zag t7
 (zbg t7 H K)
 (zad .eql false t0 (.str [100, 97, 116, 97]) fun t8 =>
 zag t8
 (zbg t8 H K)
 (zad .eql false t0 (.str [101, 108, 115, 101]) fun t9 =>
 zag t9
 (zbg t9 H K)
 (zad .eql false t0 (.str [101, 110, 100]) fun t10 =>
 zag t10
 (zbg t10 H K)
 (zad .eql false t0 (.str [102, 97, 108, 115, 101]) fun t11 =>
 zag t11
 (zbg t11 H K)
 (zad .eql false t0 (.str [102, 110]) fun t12 =>
 zag t12
 (zbg t12 H K)
 (zad .eql false t0 (.str [102, 117, 110]) fun t13 =>
 zag t13
 (zbg t13 H K)
 (zad .eql false t0 (.str [103, 101, 116]) fun t14 =>
 zag t14
 (zbg t14 H K)
 (zad .eql false t0 (.str [105, 102]) fun t15 =>
 zag t15
 (zbg t15 H K)
 (zad .eql false t0 (.str [105, 110]) fun t16 =>
 zag t16
 (zbg t16 H K)
 (zad .eql false t0 (.str [105, 110, 116]) fun t17 =>
 zag t17
 (zbg t17 H K)
 (zad .eql false t0 (.str [108, 101, 110]) fun t18 =>
 zag t18
 (zbg t18 H K)
 (zad .eql false t0 (.str [108, 101, 116]) fun t19 =>
 zag t19
 (zbg t19 H K)
 (zad .eql false t0 (.str [109, 97, 116, 99, 104]) fun t20 =>
 zag t20
 (zbg t20 H K)
 (zad .eql false t0 (.str [110, 101, 119]) fun t21 =>
 zag t21
 (zbg t21 H K)
 (zad .eql false t0 (.str [114, 97, 105, 115, 101]) fun t22 =>
 zag t22
 (zbg t22 H K)
 (zad .eql false t0 (.str [114, 101, 97, 100]) fun t23 =>
 zag t23
 (zbg t23 H K)
 (zad .eql false t0 (.str [114, 101, 102]) fun t24 =>
 zag t24
 (zbg t24 H K)
 (zad .eql false t0 (.str [115, 101, 116]) fun t25 =>
 zag t25
 (zbg t25 H K)
 (zad .eql false t0 (.str [116, 104, 101, 110]) fun t26 =>
 zag t26
 (zbg t26 H K)
 (zad .eql false t0 (.str [116, 105, 99, 107]) fun t27 =>
 zag t27
 (zbg t27 H K)
 (zad .eql false t0 (.str [116, 114, 117, 101]) fun t28 =>
 zag t28
 (zbg t28 H K)
 (zad .eql false t0 (.str [116, 114, 121]) fun t29 =>
 zag t29
 (zbg t29 H K)
 (zad .eql false t0 (.str [117, 110, 105, 116]) fun t30 =>
 zag t30
 (zbg t30 H K)
 (zad .eql false t0 (.str [119, 105, 116, 104]) fun t31 =>
 zag t31
 (zbg t31 H K)
 (zad .eql false t0 (.str [119, 114, 105, 116, 101]) fun t32 =>
 zbg t32 H K)))))))))))))))))))))))))))
theorem zIw (t0 : AV) (H : zaa) (K : Kt) : awp tP zwi zwj (zal tP zIy K) (t0 :: List.replicate 32 .unk) H = zqb t0 H K := by kernel_rfl
theorem zIx {t0 : AV} {H : zaa} {K : Kt} (h : HSc H → zqb t0 H K) : ACalls tP zoC [t0] H K :=
 zaw (M := zwi) Try.func120 (c := zwj) (by kernel_rfl) (fun hs => (zIw t0 H K).mpr (h hs))
def zwk (_ : Nat) : List Bool := []
noncomputable def zwl : Code := Try.f121.body.getD .skip
noncomputable def zIB : List ResultVar := Try.f121.results.toList
def zqc (t0 : AV) (H : zaa) (K : Kt) : Prop :=
 zad .geq false t0 (.int .u8 48) fun t4 =>
 zab t4 true H (fun K' => K' t0 H) fun t6 H =>
 zab t4 true H (fun K' => zad .leq false t6 (.int .u8 57) (K' · H)) fun t7 H =>
 zah t4 t7 (.bool false) fun t8 =>
 K t8 H
theorem zIz (t0 : AV) (H : zaa) (K : Kt) : awp tP zwk zwl (zal tP zIB K) (t0 :: List.replicate 8 .unk) H = zqc t0 H K := by kernel_rfl
theorem zIA {t0 : AV} {H : zaa} {K : Kt} (h : HSc H → zqc t0 H K) : ACalls tP zfk [t0] H K :=
 zaw (M := zwk) Try.func121 (c := zwl) (by kernel_rfl) (fun hs => (zIz t0 H K).mpr (h hs))
def zhM : Nat → List Bool
 | 3 => rl false [0,1,2,1,2,2,13]
 | _ => []
noncomputable def zlm : Code := Try.f122.body.getD .skip
noncomputable def zws : List ResultVar := Try.f122.results.toList
def zfL (t0 t3 t6 t7 : AV) : List AV := t0 :: ux 2 (t3 :: ux 2 (t6 :: t7 :: ux 13 []))
def zwr : List Bool := zhM 3
noncomputable def zwp : Code := zap [1, 1, 0, 1, 0, 0] zlm
def zwo (K : Kt) : AExit → List AV → zaa → Prop := zaq tP zhM [1, 1, 0, 1, 0] zlm (zal tP zws K)
def zwq (t0 t3 t6 t7 : AV) (H : zaa) (K : Kt) : Prop := ALoop tP zwp (zwo K) (zfL t0 t3 t6 t7) H
def zll (t0 t3 t6 t7 : AV) (H : zaa) (K : Kt) (Kb3 : Lt) : Prop :=
 zad .lss false t7 t6 fun t8 =>
 zag t8
 (zad .mul false t3 (.int .i64 10) fun t11 =>
 zbF t0 t7 fun t14 =>
 zad .sub false t14 (.int .u8 48) fun t15 =>
 zc6 .i64 t15 fun t16 =>
 zad .add false t11 t16 fun t17 =>
 zad .gtr false t17 (.int .i64 1000000) fun t19 =>
 zag t19
 (K (.bool false) H)
 (zad .add false t7 (.int .i64 1) fun t20 =>
 Kb3 (zfL t0 t17 t6 t20) H))
 (K (.bool true) H)
def zqf (t0 : AV) (H : zaa) (K : Kt) : Prop :=
 zak 0 t0 fun t6 =>
 zwq t0 (.int .i64 0) t6 (.int .i64 0) H K
theorem zIG (t0 t3 t6 t7 : AV) (H : zaa) (K : Kt) (Kb3 : Lt) : awp tP zhM zwp (zat zwr Kb3 (zwo K)) (zfL t0 t3 t6 t7) H = zll t0 t3 t6 t7 H K Kb3 := by kernel_rfl
theorem zII {t0 t3 t6 t7 : AV} {H : zaa} {K : Kt} (Inv : Nat → AV → AV → zaa → Prop) (n : Nat) (h0 : HSc H → Inv n t3 t7 H)
  (round : ∀ n t3 t7 H', Inv n t3 t7 H' → HSc H' → H.length ≤ H'.length → (zfL t0 t3 t6 t7).all (AV.sc H'.length) = true → ∀ Kb3 : Lt, (∀ F'' H'', (∃ n', n' < n ∧ Back H.length (fun F2 H2 => ∃ t3 t7, F2 = zfL t0 t3 t6 t7 ∧ Inv n' t3 t7 H2) F'' H'') → Kb3 F'' H'') → zll t0 t3 t6 t7 H' K Kb3) : zwq t0 t3 t6 t7 H K :=
 zav (M := zhM) zwr (fun n F H => ∃ t3 t7, F = zfL t0 t3 t6 t7 ∧ Inv n t3 t7 H) n (fun hs _ => ⟨t3, t7, rfl, h0 hs⟩) (fun n F H' ⟨t3, t7, hF, hI⟩ h1 h2 h3 => by subst hF; rw [zIG]; exact round n t3 t7 H' hI h1 h2 h3 _ (fun _ _ h => h))
theorem zIH (t0 : AV) (H : zaa) (K : Kt) : awp tP zhM zlm (zal tP zws K) (t0 :: List.replicate 20 .unk) H = zqf t0 H K := by kernel_rfl
theorem zIJ {t0 : AV} {H : zaa} {K : Kt} (h : HSc H → zqf t0 H K) : ACalls tP ziV [t0] H K :=
 zaw (M := zhM) Try.func122 (c := zlm) (by kernel_rfl) (fun hs => (zIH t0 H K).mpr (h hs))
def zwt (_ : Nat) : List Bool := []
noncomputable def zwu : Code := Try.f123.body.getD .skip
noncomputable def zIM : List ResultVar := Try.f123.results.toList
def zci (t0 t16 : AV) (H : zaa) (K : Kt) : Prop :=
 zag t16
 (za0 0 0 t0 none (some (.int .i64 1)) fun t31 =>
 K t31 H)
 (K (.str []) H)
def zln (t0 : AV) (H : zaa) (K : Kt) : Prop :=
 za0 0 0 t0 none (some (.int .i64 1)) fun t15 =>
 zad .eql false t15 (.str [40]) fun t17 =>
 zag t17
 (zci t0 t17 H K)
 (zad .eql false t15 (.str [41]) fun t18 =>
 zag t18
 (zci t0 t18 H K)
 (zad .eql false t15 (.str [44]) fun t19 =>
 zag t19
 (zci t0 t19 H K)
 (zad .eql false t15 (.str [61]) fun t20 =>
 zag t20
 (zci t0 t20 H K)
 (zad .eql false t15 (.str [124]) fun t21 =>
 zag t21
 (zci t0 t21 H K)
 (zad .eql false t15 (.str [43]) fun t22 =>
 zag t22
 (zci t0 t22 H K)
 (zad .eql false t15 (.str [45]) fun t23 =>
 zag t23
 (zci t0 t23 H K)
 (zad .eql false t15 (.str [42]) fun t24 =>
 zag t24
 (zci t0 t24 H K)
 (zad .eql false t15 (.str [47]) fun t25 =>
 zag t25
 (zci t0 t25 H K)
 (zad .eql false t15 (.str [37]) fun t26 =>
 zag t26
 (zci t0 t26 H K)
 (zad .eql false t15 (.str [60]) fun t27 =>
 zag t27
 (zci t0 t27 H K)
 (zad .eql false t15 (.str [59]) fun t28 =>
 zag t28
 (zci t0 t28 H K)
 (zad .eql false t15 (.str [95]) fun t29 =>
 zci t0 t29 H K))))))))))))
def zfN (t0 t8 : AV) (H : zaa) (K : Kt) : Prop :=
 zag t8
 (za0 0 0 t0 none (some (.int .i64 2)) fun t13 =>
 K t13 H)
 (zln t0 H K)
def zfM (t0 : AV) (H : zaa) (K : Kt) : Prop :=
 zak 0 t0 fun t4 =>
 zad .geq false t4 (.int .i64 2) fun t5 =>
 zag t5
 (za0 0 0 t0 none (some (.int .i64 2)) fun t7 =>
 zad .eql false t7 (.str [45, 62]) fun t9 =>
 zag t9
 (zfN t0 t9 H K)
 (zad .eql false t7 (.str [60, 61]) fun t10 =>
 zag t10
 (zfN t0 t10 H K)
 (zad .eql false t7 (.str [61, 61]) fun t11 =>
 zfN t0 t11 H K)))
 (zln t0 H K)
theorem zIK (t0 : AV) (H : zaa) (K : Kt) : awp tP zwt zwu (zal tP zIM K) (t0 :: List.replicate 31 .unk) H = zfM t0 H K := by kernel_rfl
theorem zIL {t0 : AV} {H : zaa} {K : Kt} (h : HSc H → zfM t0 H K) : ACalls tP zoD [t0] H K :=
 zaw (M := zwt) Try.func123 (c := zwu) (by kernel_rfl) (fun hs => (zIK t0 H K).mpr (h hs))
def zAw (_ : Nat) : List Bool := []
noncomputable def zAx : Code := Try.f66.body.getD .skip
noncomputable def zMB : List ResultVar := Try.f66.results.toList
def zrE (t0 : AV) (H : zaa) (K : Kt) : Prop :=
 ACalls tP zoW [t0] H fun t8 H =>
 za3 t8 0 fun t9 =>
 za3 t8 1 fun t10 =>
 za3 t8 2 fun t11 =>
 zad .eql false t11 (.int .i64 0) fun t13 =>
 zab t13 true H (fun K' => K' t9 H) fun t15 H =>
 zab t13 true H (fun K' => zak 1 t15 (K' · H)) fun t16 H =>
 zab t13 true H (fun K' => zad .eql false t16 (.int .i64 2) (K' · H)) fun t17 H =>
 zah t13 t17 (.bool false) fun t18 =>
 zab t18 true H (fun K' => K' t9 H) fun t20 H =>
 zab t18 true H (fun K' => zaj 3 t20 (.int .i64 0) (K' · H)) fun t21 H =>
 zab t18 true H (fun K' => zaf 0 t21 (K' · H)) fun t22 H =>
 zab t18 true H (fun K' => zae false 1 t22 H (K' · H)) fun t23 H =>
 zab t18 true H (fun K' => zad .eql false t23 (.int .i64 2) (K' · H)) fun t24 H =>
 zah t18 t24 (.bool false) fun t25 =>
 zab t25 true H (fun K' => K' t9 H) fun t27 H =>
 zab t25 true H (fun K' => zaj 3 t27 (.int .i64 0) (K' · H)) fun t28 H =>
 zab t25 true H (fun K' => zaf 1 t28 (K' · H)) fun t29 H =>
 zab t25 true H (fun K' => zae false 1 t29 H (K' · H)) fun t30 H =>
 zab t25 true H (fun K' => K' t0 H) fun t31 H =>
 zab t25 true H (fun K' => zad .eql false t30 t31 (K' · H)) fun t32 H =>
 zah t25 t32 (.bool false) fun t33 =>
 K t33 H
theorem zMz (t0 : AV) (H : zaa) (K : Kt) : awp tP zAw zAx (zal tP zMB K) (t0 :: List.replicate 33 .unk) H = zrE t0 H K := by kernel_rfl
theorem zMA {t0 : AV} {H : zaa} {K : Kt} (h : HSc H → zrE t0 H K) : ACalls tP zko [t0] H K :=
 zaw (M := zAw) Try.func66 (c := zAx) (by kernel_rfl) (fun hs => (zMz t0 H K).mpr (h hs))
def zBd (_ : Nat) : List Bool := []
noncomputable def zBe : Code := Try.f77.body.getD .skip
noncomputable def zNk : List ResultVar := Try.f77.results.toList
def zrT (t0 : AV) (H : zaa) (K : Kt) : Prop :=
 ACalls tP zo2 [t0] H fun t8 H =>
 za3 t8 0 fun t9 =>
 za3 t8 1 fun t10 =>
 za3 t8 2 fun t11 =>
 zad .eql false t11 (.int .i64 0) fun t13 =>
 zab t13 true H (fun K' => K' t9 H) fun t15 H =>
 zab t13 true H (fun K' => zak 1 t15 (K' · H)) fun t16 H =>
 zab t13 true H (fun K' => zad .eql false t16 (.int .i64 2) (K' · H)) fun t17 H =>
 zah t13 t17 (.bool false) fun t18 =>
 zab t18 true H (fun K' => K' t9 H) fun t20 H =>
 zab t18 true H (fun K' => zaj 3 t20 (.int .i64 0) (K' · H)) fun t21 H =>
 zab t18 true H (fun K' => zaf 0 t21 (K' · H)) fun t22 H =>
 zab t18 true H (fun K' => zae false 1 t22 H (K' · H)) fun t23 H =>
 zab t18 true H (fun K' => zad .eql false t23 (.int .i64 2) (K' · H)) fun t24 H =>
 zah t18 t24 (.bool false) fun t25 =>
 zab t25 true H (fun K' => K' t9 H) fun t27 H =>
 zab t25 true H (fun K' => zaj 3 t27 (.int .i64 0) (K' · H)) fun t28 H =>
 zab t25 true H (fun K' => zaf 1 t28 (K' · H)) fun t29 H =>
 zab t25 true H (fun K' => zae false 1 t29 H (K' · H)) fun t30 H =>
 zab t25 true H (fun K' => K' t0 H) fun t31 H =>
 zab t25 true H (fun K' => zad .eql false t30 t31 (K' · H)) fun t32 H =>
 zah t25 t32 (.bool false) fun t33 =>
 K t33 H
theorem zNi (t0 : AV) (H : zaa) (K : Kt) : awp tP zBd zBe (zal tP zNk K) (t0 :: List.replicate 33 .unk) H = zrT t0 H K := by kernel_rfl
theorem zNj {t0 : AV} {H : zaa} {K : Kt} (h : HSc H → zrT t0 H K) : ACalls tP zkr [t0] H K :=
 zaw (M := zBd) Try.func77 (c := zBe) (by kernel_rfl) (fun hs => (zNi t0 H K).mpr (h hs))
end Go.Proofs.Ytkdmpbhbmmhijaa
namespace Go.Proofs.Ytkdmpbhbmmhijaa
open Go Go.Abs
def kwds : List (List UInt8) := [[97, 114, 114, 97, 121], [98, 111, 111, 108], [99, 97, 116, 99, 104], [100, 97, 116, 97], [101, 108, 115, 101], [101, 110, 100], [102, 97, 108, 115, 101], [102, 110], [102, 117, 110], [103, 101, 116], [105, 102], [105, 110], [105, 110, 116], [108, 101, 110], [108, 101, 116], [109, 97, 116, 99, 104], [110, 101, 119], [114, 97, 105, 115, 101], [114, 101, 97, 100], [114, 101, 102], [115, 101, 116], [116, 104, 101, 110], [116, 105, 99, 107], [116, 114, 117, 101], [116, 114, 121], [117, 110, 105, 116], [119, 105, 116, 104], [119, 114, 105, 116, 101]]
def kwF (ws : List (List UInt8)) (s : List UInt8) : Bool := ws.any (s == ·)
theorem zcE {H : zaa} {K : AV → zaa → Prop} {r : AV} (hsc : HSc H) (hv : r.isV = true) (hr : r.scV H.length = true) (h : K r H) : Out H.length K r H := by
 have := Out.same (J := []) rfl hsc hv hr h
 simpa using this
theorem zcg (b c : UInt8) : ((b.toNat : Int) == (c.toNat : Int)) = (b == c) := by
 rw [Bool.eq_iff_iff]
 simp only [beq_iff_eq]
 constructor
 ·intro h; exact UInt8.toNat_inj.mp (by omega)
 ·rintro rfl; rfl
theorem ztH (b : UInt8) (H : zaa) (K : AV → zaa → Prop) (hK : K (.bool (zbT b)) H) : ACalls tP zkb [.int .u8 b.toNat] H K := by
 refine ACalls.out (zHM fun hs => ?_)
 have hO := zcE (K := K) (H := H) (r := .bool (zbT b)) hs rfl rfl hK
 unfold zbT at hO
 cases h1 : decide (97 ≤ (b.toNat : Int)) <;> simp [zpV, h1] <;> simpa [h1] using hO
theorem zkS (b : UInt8) (H : zaa) (K : AV → zaa → Prop) (hK : K (.bool (bUp b)) H) : ACalls tP zhh [.int .u8 b.toNat] H K := by
 refine ACalls.out (zHP fun hs => ?_)
 have hO := zcE (K := K) (H := H) (r := .bool (bUp b)) hs rfl rfl hK
 unfold bUp at hO
 cases h1 : decide (65 ≤ (b.toNat : Int)) <;> simp [zpW, h1] <;> simpa [h1] using hO
theorem zoc (b : UInt8) (H : zaa) (K : AV → zaa → Prop) (hK : K (.bool (zaZ b)) H) : ACalls tP ziS [.int .u8 b.toNat] H K := by
 refine ACalls.out (zHS fun hs => ?_)
 have hO := zcE (K := K) (H := H) (r := .bool (zaZ b)) hs rfl rfl hK
 unfold zaZ at hO
 cases h1 : decide (48 ≤ (b.toNat : Int)) <;> simp [zpX, h1] <;> simpa [h1] using hO
theorem zox (b : UInt8) (H : zaa) (K : AV → zaa → Prop) (hK : K (.bool (zbT b)) H) : ACalls tP zke [.int .u8 b.toNat] H K := by
 refine ACalls.out (zIk fun hs => ?_)
 have hO := zcE (K := K) (H := H) (r := .bool (zbT b)) hs rfl rfl hK
 unfold zbT at hO
 cases h1 : decide (97 ≤ (b.toNat : Int)) <;> simp [zp7, h1] <;> simpa [h1] using hO
theorem zkT (b : UInt8) (H : zaa) (K : AV → zaa → Prop) (hK : K (.bool (bUp b)) H) : ACalls tP ziT [.int .u8 b.toNat] H K := by
 refine ACalls.out (zIn fun hs => ?_)
 have hO := zcE (K := K) (H := H) (r := .bool (bUp b)) hs rfl rfl hK
 unfold bUp at hO
 cases h1 : decide (65 ≤ (b.toNat : Int)) <;> simp [zp8, h1] <;> simpa [h1] using hO
theorem zod (b : UInt8) (H : zaa) (K : AV → zaa → Prop) (hK : K (.bool (zaZ b)) H) : ACalls tP zfk [.int .u8 b.toNat] H K := by
 refine ACalls.out (zIA fun hs => ?_)
 have hO := zcE (K := K) (H := H) (r := .bool (zaZ b)) hs rfl rfl hK
 unfold zaZ at hO
 cases h1 : decide (48 ≤ (b.toNat : Int)) <;> simp [zqc, h1] <;> simpa [h1] using hO
theorem zDJ (b : UInt8) (H : zaa) (K : AV → zaa → Prop) (hK : K (.bool (zdb b)) H) : ACalls tP zo3 [.int .u8 b.toNat] H K := by
 refine ACalls.out (zPj fun hs => ?_)
 have hO := zcE (K := K) (H := H) (r := .bool (zdb b)) hs rfl rfl hK
 unfold zdb at hO
 have e1 : ((b.toNat : Int) == 9) = (b == 9) := zcg b 9
 have e2 : ((b.toNat : Int) == 10) = (b == 10) := zcg b 10
 have e3 : ((b.toNat : Int) == 13) = (b == 13) := zcg b 13
 have e4 : ((b.toNat : Int) == 32) = (b == 32) := zcg b 32
 cases h1 : (b == 9) <;> cases h2 : (b == 10) <;> cases h3 : (b == 13) <;> simp [zss, e1, e2, e3, e4, h1, h2, h3] <;> simpa [h1, h2, h3] using hO
theorem zHf (b : UInt8) (H : zaa) (K : AV → zaa → Prop) (hK : K (.bool (bIn b)) H) : ACalls tP ziU [.int .u8 b.toNat] H K := by
 refine ACalls.out (zIu fun hs => ?_)
 have hO := zcE (K := K) (H := H) (r := .bool (bIn b)) hs rfl rfl hK
 unfold bIn at hO
 have e1 : ((b.toNat : Int) == 95) = (b == 95) := zcg b 95
 unfold zqa
 refine zox b _ _ ?_
 cases h1 : zbT b with
 | true => simp; simpa [h1] using hO
 | false =>
  simp
  refine zkT b _ _ ?_
  cases h2 : bUp b with
  | true => simp; simpa [h1, h2] using hO
  | false =>
   simp
   refine zod b _ _ ?_
   cases h3 : zaZ b with
   | true => simp; simpa [h1, h2, h3] using hO
   | false => simp [e1]; simpa [h1, h2, h3] using hO
theorem zEN (s : List UInt8) (H : zaa) (K : AV → zaa → Prop) (hK : K (.bool (kwF kwds s)) H) : ACalls tP zoC [.str s] H K := by
 refine ACalls.out (zIx fun hs => ?_)
 have hO := zcE (K := K) (H := H) (r := .bool (kwF kwds s)) hs rfl rfl hK
 have step : ∀ (w : List UInt8) (ws : List (List UInt8)) (rest : Prop), (Out H.length K (.bool (kwF ws s)) H → rest) → Out H.length K (.bool (kwF (w :: ws) s)) H →
   zad .eql false (.str s) (.str w) fun t => zag t (zbg t H (Out H.length K)) rest := by
  intro w ws rest h h'
  simp only [kwF, List.any_cons] at h h'
  cases e : (s == w) with
  | true => simpa [zbg, e] using h'
  | false => rw [e, Bool.false_or] at h'; simpa [zbg, e] using h h'
 unfold zqb
 revert hO
 unfold kwds
 iterate 27 refine step _ _ _ ?_
 intro h'
 simp only [kwF, List.any_cons, List.any_nil, Bool.or_false] at h'
 cases e : (s == [119, 114, 105, 116, 101]) <;> rw [e] at h' <;> simpa [zbg, e] using h'
theorem zEO (s : List UInt8) (H : zaa) (K : AV → zaa → Prop) (hK : K (.bool (kwF kwds s)) H) : ACalls tP zkc [.str s] H K := by
 refine ACalls.out (zH6 fun hs => ?_)
 have hO := zcE (K := K) (H := H) (r := .bool (kwF kwds s)) hs rfl rfl hK
 have e : zp2 (.str s) H (Out H.length K) = zp3 (.str s) (.sl (kwds.map fun w => [.str w]) .full) (.int .i64 0) H (Out H.length K) := rfl
 rw [e]
 have hlen : kwds.length = 28 := rfl
 generalize kwds = ws at *
 refine zH5 (Inv := fun q t4 H' => ∃ i : Nat, i ≤ ws.length ∧ q = ws.length - i ∧ t4 = .int .i64 i ∧ kwF (ws.drop i) s = kwF ws s ∧ H' = H) ws.length ?_ ?_
 ·intro _; exact ⟨0, by omega, by omega, rfl, by simp, rfl⟩
 ·rintro q t8 H' ⟨i, hi, rfl, rfl, ho, rfl⟩ hsc _ hsF Kb hKb
  by_cases hlt : i < ws.length
  ·rw [List.drop_eq_getElem_cons hlt] at ho
   simp only [kwF, List.any_cons] at ho
   cases hz : (ws[i] == s) with
   | true =>
    have hz' : (s == ws[i]) = true := by rw [beq_iff_eq] at hz ⊢; exact hz.symm
    rw [hz', Bool.true_or] at ho
    simp [zjc, hlt, hz]
    unfold kwF at hO
    rw [← ho] at hO
    exact hO
   | false =>
    have hz' : (s == ws[i]) = false := by rw [beq_eq_false_iff_ne] at hz ⊢; exact fun h => hz h.symm
    rw [hz', Bool.false_or] at ho
    simp [zjc, hlt, hz]
    rw [zar (by omega) (by omega)]
    refine hKb _ _ ⟨ws.length - (i + 1), by omega, Back.here (Nat.le_refl _) hs ?_ ⟨_, rfl, i + 1, by omega, rfl, by simp, ho, rfl⟩⟩
    simp [zfF, AV.sc, AV.scV, AV.scA, AV.scB]
  ·simp [zjc, hlt]
   obtain rfl : i = ws.length := by omega
   rw [List.drop_length] at ho
   rw [← ho] at hO
   exact hO
theorem zsK {b : UInt8} (h : zaZ b = true) : 48 ≤ (b.toNat : Int) ∧ (b.toNat : Int) ≤ 57 := by simpa [zaZ] using h
theorem zGf (s : List UInt8) (hd : ∀ b ∈ s, zaZ b = true) (hl : s.length ≤ 1000000) (H : zaa) (K : AV → zaa → Prop) (hK : K (.bool (zb1 s 0)) H) : ACalls tP ziV [.str s] H K := by
 refine ACalls.out (zIJ fun hs => ?_)
 have hO := zcE (K := K) (H := H) (r := .bool (zb1 s 0)) hs rfl rfl hK
 simp [zqf]
 refine zII (Inv := fun q t3 t7 H' => ∃ (i : Nat) (n : Int), i ≤ s.length ∧ q = s.length - i ∧ t7 = .int .i64 i ∧ t3 = .int .i64 n ∧ 0 ≤ n ∧ n ≤ 1000000 ∧ zb1 (s.drop i) n = zb1 s 0 ∧ H' = H) s.length ?_ ?_
 ·intro _; exact ⟨0, 0, by omega, by omega, rfl, rfl, by omega, by omega, by simp, rfl⟩
 ·rintro q t3 t7 H' ⟨i, n, hi, rfl, rfl, rfl, hn0, hn1, ho, rfl⟩ hsc _ hsF Kb hKb
  by_cases hlt : i < s.length
  ·have hb := zsK (hd s[i] (List.getElem_mem hlt))
   rw [List.drop_eq_getElem_cons hlt, zb1] at ho
   simp [zll, hlt]
   rw [IntWalk.u8_in _ (by omega), zar (n := n * 10) (by omega) (by omega), zar (n := (s[i].toNat : Int) - 48) (by omega) (by omega), zar (by omega) (by omega), zar (by omega) (by omega)]
   by_cases hg : 1000000 < n * 10 + ((s[i].toNat : Int) - 48)
   ·rw [if_pos hg] at ho
    have hg' : decide (1000000 < n * 10 + ((s[i].toNat : Int) - 48)) = true := by simpa using hg
    rw [← ho] at hO
    rw [hg']
    simpa using hO
   ·rw [if_neg hg] at ho
    have hg' : decide (1000000 < n * 10 + ((s[i].toNat : Int) - 48)) = false := by simpa using hg
    rw [hg']
    simp only [zsA, Bool.false_eq_true, if_false]
    refine hKb _ _ ⟨s.length - (i + 1), by omega, Back.here (Nat.le_refl _) hs ?_ ⟨_, _, rfl, i + 1, _, by omega, rfl, by simp, rfl, by omega, by omega, ho, rfl⟩⟩
    simp [zfL, AV.sc, AV.scV, AV.scA, AV.scB]
  ·simp [zll, hlt]
   obtain rfl : i = s.length := by omega
   rw [List.drop_length, zb1] at ho
   rw [← ho] at hO
   exact hO
theorem zud (cl : UInt8 → Bool) (f : FuncId) (hcl : zcy tP f = true) (hf : ∀ (b : UInt8) (H : zaa) (K : AV → zaa → Prop), K (.bool (cl b)) H → ACalls tP f [.int .u8 b.toNat] H K)
  (s : List UInt8) (hl : s.length ≤ 1000000) (H : zaa) (K : AV → zaa → Prop) (hK : K (.str (s.takeWhile cl)) H) : ACalls tP zkf [.str s, .fn f []] H K := by
 refine ACalls.out (zIs fun hs => ?_)
 have hO := zcE (K := K) (H := H) (r := .str (s.takeWhile cl)) hs rfl rfl hK
 simp [zp9]
 refine zIr (Inv := fun q t5 H' => ∃ i : Nat, i ≤ s.length ∧ q = s.length - i ∧ t5 = .int .i64 i ∧ s.take i ++ (s.drop i).takeWhile cl = s.takeWhile cl ∧ H' = H) s.length ?_ ?_
 ·intro _; exact ⟨0, by omega, by omega, rfl, by simp, rfl⟩
 ·rintro q t5 H' ⟨i, hi, rfl, rfl, ho, rfl⟩ hsc _ hsF Kb hKb
  by_cases hlt : i < s.length
  ·rw [List.drop_eq_getElem_cons hlt, List.takeWhile_cons] at ho
   simp [zlj, hlt]
   simp only [aCallV, hcl, List.append_nil]
   refine hf _ _ _ ?_
   cases hc : cl s[i] with
   | true =>
    rw [hc, if_pos rfl, List.append_cons, ← List.take_succ_eq_append_getElem hlt] at ho
    simp
    rw [zar (by omega) (by omega)]
    refine hKb _ _ ⟨s.length - (i + 1), by omega, Back.here (Nat.le_refl _) hs ?_ ⟨_, rfl, i + 1, by omega, rfl, by simp, ho, rfl⟩⟩
    simp [zfK, AV.sc, AV.scV, AV.scA, AV.scB]
   | false =>
    rw [hc, if_neg (by simp), List.append_nil] at ho
    rw [← ho] at hO
    simp [hi]
    exact hO
  ·simp [zlj, hlt]
   obtain rfl : i = s.length := by omega
   rw [List.drop_length, List.takeWhile_nil, List.append_nil, List.take_length] at ho
   rw [← ho] at hO
   simpa using hO
theorem zG1 (s : List UInt8) (hd : ∀ b ∈ s, zaZ b = true) (hl : s.length ≤ 1000000) (H : zaa) (K : AV → zaa → Prop) (hK : ∀ n, K (.tup [.int .i64 n, .bool (zb1 s 0)]) H) : ACalls tP zhj [.str s] H K := by
 refine ACalls.out (zIa fun hs => ?_)
 have hO : ∀ n, Out H.length K (.tup [.int .i64 n, .bool (zb1 s 0)]) H := fun n => Out.tup0 hs (hK n) ⟨zb7 rfl rfl, zb7 rfl rfl, trivial⟩
 simp only [zp4]
 refine zH9 (Inv := fun q t3 t7 H' => ∃ (i : Nat) (n : Int), i ≤ s.length ∧ q = s.length - i ∧ t7 = .int .i64 i ∧ t3 = .int .i64 n ∧ 0 ≤ n ∧ n ≤ 1000000 ∧ zb1 (s.drop i) n = zb1 s 0 ∧ H' = H) s.length ?_ ?_
 ·intro _; exact ⟨0, 0, by omega, by omega, rfl, rfl, by omega, by omega, by simp, rfl⟩
 ·rintro q t3 t7 H' ⟨i, n, hi, rfl, rfl, rfl, hn0, hn1, ho, rfl⟩ hsc _ hsF Kb hKb
  by_cases hlt : i < s.length
  ·have hb := zsK (hd s[i] (List.getElem_mem hlt))
   rw [List.drop_eq_getElem_cons hlt, zb1] at ho
   simp [zle, hlt]
   rw [IntWalk.u8_in _ (by omega), zar (n := n * 10) (by omega) (by omega), zar (n := (s[i].toNat : Int) - 48) (by omega) (by omega), zar (by omega) (by omega), zar (by omega) (by omega)]
   by_cases hg : 1000000 < n * 10 + ((s[i].toNat : Int) - 48)
   ·rw [if_pos hg] at ho
    have hg' : decide (1000000 < n * 10 + ((s[i].toNat : Int) - 48)) = true := by simpa using hg
    rw [← ho] at hO
    rw [hg']
    simpa [AV.isV] using hO 0
   ·rw [if_neg hg] at ho
    have hg' : decide (1000000 < n * 10 + ((s[i].toNat : Int) - 48)) = false := by simpa using hg
    rw [hg']
    simp only [zsA, Bool.false_eq_true, if_false]
    refine hKb _ _ ⟨s.length - (i + 1), by omega, Back.here (Nat.le_refl _) hs ?_ ⟨_, _, rfl, i + 1, _, by omega, rfl, by simp, rfl, by omega, by omega, ho, rfl⟩⟩
    simp [zfG, AV.sc, AV.scV, AV.scA, AV.scB]
  ·simp [zle, hlt, AV.isV]
   obtain rfl : i = s.length := by omega
   rw [List.drop_length, zb1] at ho
   rw [← ho] at hO
   exact hO n
theorem zGP (b : UInt8) (r : List UInt8) : (b :: r).take 1 = [b] := by simp
theorem zpr {s : List UInt8} (h : ¬ 2 ≤ s.length) : zdi s = false := by
 match s, h with
 | [], _ => rfl
 | [b], _ => simp [zdi]
 | _ :: _ :: _, h => simp at h
theorem zuu (b : UInt8) (r : List UInt8) (h : zdi (b :: r) = false) : sgn (b :: r) = if sgns.contains b = true then 1 else 0 := by simp [sgn, h]
theorem zGc (b : UInt8) (r : List UInt8) (H : zaa) (K : AV → zaa → Prop) (hK : K (.str ((b :: r).take (sgn (b :: r)))) H) : ACalls tP zoD [.str (b :: r)] H K := by
 refine ACalls.out (zIL fun hs => ?_)
 have hO := zcE (K := K) (H := H) (r := .str ((b :: r).take (sgn (b :: r)))) hs rfl rfl hK
 have one : zdi (b :: r) = false → zln (.str (b :: r)) H (Out H.length K) := by
  intro h2
  rw [zuu b r h2] at hO
  have hO : Out H.length K (.str (if sgns.contains b = true then [b] else [])) H := by
   cases hc : sgns.contains b <;> rw [hc] at hO <;> simpa using hO
  have step : ∀ (c : UInt8) (cs : List UInt8) (rest : Prop), (Out H.length K (.str (if cs.contains b = true then [b] else [])) H → rest) → Out H.length K (.str (if (c :: cs).contains b = true then [b] else [])) H →
    zad .eql false (.str [b]) (.str [c]) fun t => zag t (zci (.str (b :: r)) t H (Out H.length K)) rest := by
   intro c cs rest h h'
   rw [List.contains_cons] at h'
   cases e : (b == c) with
   | true => rw [e] at h'; simpa [zci, e] using h'
   | false =>
    rw [e, Bool.false_or] at h'
    simpa [zci, e] using h h'
  unfold zln
  simp only [zDm, zDi, zDh, Int.toNat_one, zGP, List.drop_zero]
  refine ⟨by decide, ⟨by omega, by simp⟩, ?_⟩
  revert hO
  unfold sgns
  iterate 12 refine step _ _ _ ?_
  intro h'
  rw [List.contains_cons] at h'
  cases e : (b == 95) <;> rw [e] at h' <;> simpa [zci, e] using h'
 by_cases hl : 2 ≤ (b :: r).length
 ·have hl' : (2 : Int) ≤ r.length + 1 := by simp only [List.length_cons] at hl; omega
  have hl2 : 1 ≤ r.length := by simp only [List.length_cons] at hl; omega
  cases h2 : zdi (b :: r) with
  | true =>
   have h3 : sgn (b :: r) = 2 := by simp [sgn, h2]
   rw [h3] at hO
   unfold zdi at h2
   simp only [List.take_succ_cons] at h2 hO
   cases e1 : (b :: List.take 1 r == [45, 62]) with
   | true => simpa [zfM, hl', hl2, zfN, e1] using hO
   | false =>
    cases e2 : (b :: List.take 1 r == [60, 61]) with
    | true => simpa [zfM, hl', hl2, zfN, e1, e2] using hO
    | false =>
     rw [e1, e2] at h2
     simp only [Bool.false_or] at h2
     simpa [zfM, hl', hl2, zfN, e1, e2, h2] using hO
  | false =>
   have ho := one h2
   unfold zdi at h2
   simp only [List.take_succ_cons] at h2
   rw [Bool.or_eq_false_iff, Bool.or_eq_false_iff] at h2
   simpa [zfM, hl', hl2, zfN, h2.1.1, h2.1.2, h2.2] using ho
 ·have ho := one (zpr hl)
  have : ¬ ((2 : Int) ≤ r.length + 1) := by simp only [List.length_cons] at hl; omega
  simpa [zfM, this] using ho
end Go.Proofs.Ytkdmpbhbmmhijaa
namespace Go.Proofs.Ytkdmpbhbmmhijaa
open Go Go.Abs
set_option maxRecDepth 4000
theorem zGb (b : UInt8) (r : List UInt8) (H : zaa) (K : AV → zaa → Prop) (hK : K (.int .i64 (sgn (b :: r))) H) : ACalls tP zoB [.str (b :: r)] H K := by
 refine ACalls.out (zIe fun hs => ?_)
 have hO := zcE (K := K) (H := H) (r := .int .i64 (sgn (b :: r))) hs rfl rfl hK
 have one : zdi (b :: r) = false → zp5 (.str (b :: r)) (.str sgns) (.int .i64 0) H (Out H.length K) := by
  intro h2
  rw [zuu b r h2] at hO
  have hlen : sgns.length = 13 := rfl
  generalize sgns = ws at *
  refine zId (Inv := fun q t4 H' => ∃ i : Nat, i ≤ ws.length ∧ q = ws.length - i ∧ t4 = .int .i64 i ∧ (ws.drop i).contains b = ws.contains b ∧ H' = H) ws.length ?_ ?_
  ·intro _; exact ⟨0, by omega, by omega, rfl, by simp, rfl⟩
  ·rintro q t8 H' ⟨i, hi, rfl, rfl, ho, rfl⟩ hsc _ hsF Kb hKb
   by_cases hlt : i < ws.length
   ·rw [List.drop_eq_getElem_cons hlt, List.contains_cons] at ho
    have e1 := zcg b ws[i]
    cases hz : (b == ws[i]) with
    | true =>
     rw [hz, Bool.true_or] at ho
     rw [← ho] at hO
     simpa [zjd, hlt, e1, hz] using hO
    | false =>
     rw [hz, Bool.false_or] at ho
     simp [zjd, hlt, e1, hz]
     rw [zar (by omega) (by omega)]
     refine hKb _ _ ⟨ws.length - (i + 1), by omega, Back.here (Nat.le_refl _) hs ?_ ⟨_, rfl, i + 1, by omega, rfl, by simp, ho, rfl⟩⟩
     simp [zfI, AV.sc, AV.scV, AV.scA, AV.scB]
   ·obtain rfl : i = ws.length := by omega
    rw [List.drop_length] at ho
    rw [← ho] at hO
    simpa [zjd, hlt] using hO
 by_cases hl : 2 ≤ (b :: r).length
 ·have hl' : (2 : Int) ≤ r.length + 1 := by simp only [List.length_cons] at hl; omega
  have hl2 : 1 ≤ r.length := by simp only [List.length_cons] at hl; omega
  cases h2 : zdi (b :: r) with
  | true =>
   have h3 : sgn (b :: r) = 2 := by simp [sgn, h2]
   rw [h3] at hO
   unfold zdi at h2
   simp only [List.take_succ_cons] at h2 hO
   cases e1 : (b :: List.take 1 r == [45, 62]) with
   | true => simpa [zfH, hl', hl2, e1] using hO
   | false =>
    cases e2 : (b :: List.take 1 r == [60, 61]) with
    | true => simpa [zfH, hl', hl2, e1, e2] using hO
    | false =>
     rw [e1, e2] at h2
     simp only [Bool.false_or] at h2
     simpa [zfH, hl', hl2, e1, e2, h2] using hO
  | false =>
   have ho := one h2
   unfold sgns at ho
   unfold zdi at h2
   simp only [List.take_succ_cons] at h2
   rw [Bool.or_eq_false_iff, Bool.or_eq_false_iff] at h2
   simpa [zfH, hl', hl2, h2.1.1, h2.1.2, h2.2] using ho
 ·have ho := one (zpr hl)
  unfold sgns at ho
  have : ¬ ((2 : Int) ≤ r.length + 1) := by simp only [List.length_cons] at hl; omega
  simpa [zfH, this] using ho

def Tk.cs (t : Tk) : List AV := [.int .i64 t.kind, .str t.text, .int .i64 t.pos]
def zkJ (kw : List UInt8 → Bool) (b : UInt8) (r : List UInt8) (i : Nat) : AV :=
 match tok kw b r with
 | .error e => .tup [.agg [.int .i64 0, .str [], .int .i64 0], .int .i64 e]
 | .ok (k, n) => .tup [.agg (Tk.cs ⟨k, (b :: r).take n, i⟩), .int .i64 0]
theorem zkO {p : UInt8 → Bool} (b : UInt8) (r : List UInt8) : (b :: r).take ((r.takeWhile p).length + 1) = b :: r.takeWhile p := by
 rw [List.take_succ_cons]
 congr 1
 induction r with
 | nil => simp
 | cons c r ih => by_cases h : p c = true <;> simp [h, ih]
theorem zEP : zcy tP ziU = true := by kernel_rfl
theorem zEQ : zcy tP zfk = true := by kernel_rfl
theorem zt6 {H J : zaa} {K : AV → zaa → Prop} {k p e : Int} {t : List UInt8} (hs : HSc H) (h : K (.tup [.agg [.int .i64 k, .str t, .int .i64 p], .int .i64 e]) H) :
  Out H.length K (.tup [.agg [.int .i64 k, .str t, .int .i64 p], .int .i64 e]) (H ++ J) := Out.tup hs h ⟨zb7 rfl rfl, zb7 rfl rfl, trivial⟩
def zk1 (t4 t6 : AV) (H : zaa) (K : AV → zaa → Prop) : Prop :=
 zaf 1 t6 fun t69 =>
 zae false 1 t69 H fun t70 =>
 ACalls tP ziV [t70] H fun t71 H =>
 aUn .not t71 fun t72 =>
 zag t72
 (zaL [(.int .i64 0), (.str []), (.int .i64 0)] [(0, 1), (1, 1), (2, 1)] [] fun t73 =>
 zas 3 t4 t73 H fun H =>
 zae true 3 t4 H fun r0 =>
 zaY [r0, (.int .i64 9)] (K · H))
 (zhE t4 t6 H K)
theorem zF2 (s : List UInt8) (hl : s.length ≤ 1000000) (i : Nat) (hi : i < s.length) (H : zaa) (K : AV → zaa → Prop) (hK : K (zkJ (kwF kwds) s[i] (s.drop (i + 1)) i) H) : ACalls tP zoA [.str s, .int .i64 i] H K := by
 refine ACalls.out (zHk fun hs => ?_)
 have hdr := List.drop_eq_getElem_cons hi
 have hrl : (s.drop i).length ≤ 1000000 := by simp; omega
 generalize hb : s[i] = b at *
 generalize hr : s.drop (i + 1) = r at *
 have hb' : s[i]?.getD 0 = b := by simp [hi, hb]
 have post : ∀ (k : Int) (n : Nat), tok (kwF kwds) b r = .ok (k, n) → ∀ t, (b :: r).take n = t → zhE (.ptr H.length 0) (.ptr (H.length + 1) 0) (H ++ [.cells [.int .i64 0, .str [], .int .i64 0], .cells [.int .i64 k, .str t, .int .i64 i]]) (Out H.length K) := by
  intro k n ht t hte
  subst hte
  simp [zkJ, ht, Tk.cs] at hK
  simp [zhE, zvb, AV.known, AV.isV]
  exact zt6 hs hK
 have bad : ∀ e : Int, tok (kwF kwds) b r = .error e → ∀ J, Out H.length K (.tup [.agg [.int .i64 0, .str [], .int .i64 0], .int .i64 e]) (H ++ J) := by
  intro e ht J
  simp [zkJ, ht] at hK
  exact zt6 hs hK
 have hi' := Nat.le_of_lt hi
 by_cases hLU : (zbT b || bUp b) = true
 ·have hin : bIn b = true := by simp [bIn, hLU]
  simp [zk0, hi, hb, hi', zaL, zbw, AV.known]
  refine zox b _ _ ?_
  have hc : zbT b = true ∨ (zbT b = false ∧ bUp b = true) := by cases hL : zbT b <;> simp [hL] at hLU ⊢; exact hLU
  have hpost := fun k => post k ((r.takeWhile bIn).length + 1)
  simp only [tok, hLU, if_true, zkO] at hpost
  rcases hc with hL | ⟨hL, hU⟩
  case' inl => simp [hL]
  case' inr => simp [hL]; refine zkT b _ _ ?_; simp [hU]
  all_goals
   rw [hdr]
   refine zud bIn ziU zEP zHf (b :: r) (by rw [← hdr]; exact hrl) _ _ ?_
   simp [hin, AV.known]
   by_cases hn : (r.takeWhile bIn).length + 1 > 24
   ·have hn' : (24 : Int) < (r.takeWhile bIn).length + 1 := by omega
    have := bad 9 (by simp only [tok, hLU, if_true]; rw [if_pos hn])
    simp [hn', AV.known, AV.isV]
    exact this _
   ·have hn' : ¬ (24 : Int) < (r.takeWhile bIn).length + 1 := by omega
    simp [hn']
    refine zkT b _ _ ?_
    rw [if_neg hn] at hpost
    cases hU : bUp b with
    | true =>
     simp [AV.known, zhD]
     exact hpost 2 (by simp [hU]) _ rfl
    | false =>
     simp [AV.known]
     refine zEN _ _ _ ?_
     cases hkw : kwF kwds (b :: r.takeWhile bIn) with
     | true =>
      simp [AV.known, zhD]
      exact hpost 4 (by simp [hU, hkw]) _ rfl
     | false =>
      simp [AV.known, zhD]
      exact hpost 1 (by simp [hU, hkw]) _ rfl
 ·have hL : zbT b = false := by simp at hLU; exact hLU.1
  have hU : bUp b = false := by simp at hLU; exact hLU.2
  simp [zk0, hi, hb, zaL, zbw, AV.known]
  refine zox b _ _ ?_
  simp [hL]
  refine zkT b _ _ ?_
  simp [hU]
  refine zod b _ _ ?_
  cases hD : zaZ b with
  | true =>
   simp [hi', AV.known]
   rw [hdr]
   refine zud zaZ zfk zEQ zod (b :: r) (by rw [← hdr]; exact hrl) _ _ ?_
   have e1 : ((b.toNat : Int) == 48) = (b == 48) := zcg b 48
   have htk : tok (kwF kwds) b r = if (b == 48 && decide ((r.takeWhile zaZ).length + 1 > 1)) = true then .error 2 else if zb1 (b :: r.takeWhile zaZ) 0 = true then .ok (3, (r.takeWhile zaZ).length + 1) else .error 9 := by
    simp only [tok, hLU, hD, if_true, zkO]
    rfl
   have hsm : ∀ J, ACalls tP ziV [.str (b :: r.takeWhile zaZ)] (H ++ J) fun t H' => t = .bool (zb1 (b :: r.takeWhile zaZ) 0) ∧ H' = H ++ J := by
    intro J
    refine zGf _ ?_ ?_ _ _ ⟨rfl, rfl⟩
    ·intro c hc
     rcases List.mem_cons.1 hc with rfl | hc
     ·exact hD
     ·exact List.all_eq_true.1 (List.all_takeWhile) c hc
    ·have h1 : (r.takeWhile zaZ).length ≤ r.length := (List.takeWhile_sublist _).length_le
     rw [hdr] at hrl
     simp at hrl ⊢
     omega
   simp [hD, AV.known, e1]
   have hpost := post 3 ((r.takeWhile zaZ).length + 1)
   rw [zkO] at hpost
   rw [htk] at hpost bad
   have last : ∀ J, (¬ (b == 48 && decide ((r.takeWhile zaZ).length + 1 > 1)) = true) → J = [.cells [.int .i64 0, .str [], .int .i64 0], .cells [.int .i64 3, .str (b :: r.takeWhile zaZ), .int .i64 i]] → zk1 (.ptr H.length 0) (.ptr (H.length + 1) 0) (H ++ J) (Out H.length K) := by
    rintro J hne rfl
    rw [if_neg hne] at hpost bad
    simp [zk1]
    refine (hsm _).mono ?_
    rintro _ _ ⟨rfl, rfl⟩
    cases hv : zb1 (b :: r.takeWhile zaZ) 0 with
    | true =>
     simp
     exact hpost (by simp [hv]) _ rfl
    | false =>
     simp [AV.known, zaL, zbw, AV.isV]
     exact bad 9 (by simp [hv]) _
   cases hz : (b == 48) with
   | true =>
    simp [hz]
    by_cases hn : 1 < (r.takeWhile zaZ).length + 1
    ·have hn' : (1 : Int) < (r.takeWhile zaZ).length + 1 := by omega
     have hd : decide ((r.takeWhile zaZ).length + 1 > 1) = true := decide_eq_true hn
     have := bad 2 (by rw [hz, hd]; rfl)
     simp [hn', AV.known, AV.isV]
     exact this _
    ·have hn' : ¬ (1 : Int) < (r.takeWhile zaZ).length + 1 := by omega
     have hd : decide ((r.takeWhile zaZ).length + 1 > 1) = false := decide_eq_false hn
     have := last _ (by rw [hz, hd]; decide) rfl
     simp [zk1, zaL, zbw] at this
     simp [hn']
     exact this
   | false =>
    have := last _ (by simp [hz]) rfl
    simp [zk1, zaL, zbw] at this
    simp [hz]
    exact this
  | false => 
   simp [hi', AV.known]
   rw [hdr]
   refine zGc b r _ _ ?_
   simp [AV.known]
   have htk : tok (kwF kwds) b r = if sgn (b :: r) = 0 then .error 2 else .ok (5, sgn (b :: r)) := by
    simp only [tok, hLU, hD]
    rfl
   by_cases hz : sgn (b :: r) = 0
   ·have := bad 2 (by rw [htk, if_pos hz])
    simp [hz, AV.isV]
    exact this _
   ·have := post 5 (sgn (b :: r)) (by rw [htk, if_neg hz]) _ rfl
    have he : (List.take (sgn (b :: r)) (b :: r)).isEmpty = false := by
     cases h : sgn (b :: r) with
     | zero => exact absurd h hz
     | succ n => simp
    simp [he]
    exact this
end Go.Proofs.Ytkdmpbhbmmhijaa
