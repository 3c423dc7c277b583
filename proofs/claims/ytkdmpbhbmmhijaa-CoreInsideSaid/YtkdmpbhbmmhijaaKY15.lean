import Derived.Test.YtkdmpbhbmmhijaaKNum
import Derived.Test.YtkdmpbhbmmhijaaProg
import Derived.KernelRfl
import Derived.Test.YtkdmpbhbmmhijaaKY14
set_option linter.unusedSimpArgs false
set_option linter.unusedVariables false
namespace Go.Proofs.Ytkdmpbhbmmhijaa
open Go Go.Abs
set_option maxRecDepth 100000
def zdS : Nat → List Bool
 | 5 => rl false [0,1,2,2,9,2,89]
 | 13 => rl false [0,1,2,3,8,2,60,3,26]
 | _ => []
noncomputable def zl3 : Code := Try.f41.body.getD .skip
noncomputable def zyh : List ResultVar := Try.f41.results.toList
def zge (t0 t3 t4 t14 t15 : AV) : List AV := t0 :: ux 2 (t3 :: t4 :: ux 9 (t14 :: t15 :: ux 89 []))
def zqS : List Bool := zdS 5
noncomputable def zl4 : Code := zap [1, 1, 1, 0, 1, 0, 0] zl3
def zqR (K : Kt) : AExit → List AV → zaa → Prop := zaq tP zdS [1, 1, 1, 0, 1, 0] zl3 (zal tP zyh K)
def zyf (t0 t3 t4 t14 t15 : AV) (H : zaa) (K : Kt) : Prop := ALoop tP zl4 (zqR K) (zge t0 t3 t4 t14 t15) H
def zgd (t0 t3 t4 t5 t14 t15 t76 t77 t78 : AV) : List AV := t0 :: ux 2 (t3 :: t4 :: t5 :: ux 8 (t14 :: t15 :: ux 60 (t76 :: t77 :: t78 :: ux 26 [])))
def zyg : List Bool := zdS 13
noncomputable def zyd : Code := zap [1, 1, 0, 0, 1, 1, 1, 1, 1, 0, 0] zl4
def zyc (K : Kt) (Kb5 : Lt) : AExit → List AV → zaa → Prop := zaq tP zdS [1, 1, 0, 0, 1, 1, 1, 1, 1, 0] zl4 (zat zqS Kb5 (zqR K))
def zye (t0 t3 t4 t5 t14 t15 t76 t77 t78 : AV) (H : zaa) (K : Kt) (Kb5 : Lt) : Prop := ALoop tP zyd (zyc K Kb5) (zgd t0 t3 t4 t5 t14 t15 t76 t77 t78) H
def zl1 (t0 t3 t4 t5 t14 t15 t76 t77 t78 : AV) (H : zaa) (K : Kt) (Kb5 : Lt) (Kb13 : Lt) : Prop :=
 zad .lss false t78 t77 fun t79 =>
 zag t79
 (zaj 2 t76 t78 fun t81 =>
 zae true 2 t81 H fun t82 =>
 zaC [(.str []), .snil] H fun t7 H =>
 zas 2 t7 t82 H fun H =>
 zaf 0 t7 fun t83 =>
 zae false 1 t83 H fun t84 =>
 ACalls tP zko [t84] H fun t85 H =>
 aUn .not t85 fun t86 =>
 zab t86 false H (fun K' => K' t4 H) fun t88 H =>
 zab t86 false H (fun K' => zaf 0 t7 (K' · H)) fun t89 H =>
 zab t86 false H (fun K' => zae false 1 t89 H (K' · H)) fun t90 H =>
 zab t86 false H (fun K' => zdC (.bool false) false t88 t90 H (K' · H)) fun t91 H =>
 zah t86 (.bool true) t91 fun t92 =>
 zab t92 false H (fun K' => K' t0 H) fun t94 H =>
 zab t92 false H (fun K' => K' t5 H) fun t95 H =>
 zab t92 false H (fun K' => K' t78 H) fun t96 H =>
 zab t92 false H (fun K' => ACalls tP zoS [t94, t95, t96] H K') fun t97 H =>
 zab t92 false H (fun K' => aUn .not t97 (K' · H)) fun t98 H =>
 zah t92 (.bool true) t98 fun t99 =>
 zag t99
 (K (.bool false) H)
 (zaf 0 t7 fun t101 =>
 zae false 1 t101 H fun t102 =>
 zcX t4 t102 (.bool true) H fun H =>
 zad .add false t78 (.int .i64 1) fun t103 =>
 Kb13 (zgd t0 t3 t4 t5 t14 t15 t76 t77 t103) H))
 (zad .add false t15 (.int .i64 1) fun t104 =>
 Kb5 (zge t0 t3 t4 t14 t104) H)
def zl2 (t0 t3 t4 t14 t15 : AV) (H : zaa) (K : Kt) (Kb5 : Lt) : Prop :=
 zad .lss false t15 t14 fun t16 =>
 zag t16
 (zaj 3 t0 t15 fun t20 =>
 zaf 0 t20 fun t21 =>
 zae false 1 t21 H fun t22 =>
 ACalls tP zko [t22] H fun t23 H =>
 aUn .not t23 fun t24 =>
 zab t24 false H (fun K' => K' t3 H) fun t26 H =>
 zab t24 false H (fun K' => K' t0 H) fun t27 H =>
 zab t24 false H (fun K' => K' t15 H) fun t28 H =>
 zab t24 false H (fun K' => zaj 3 t27 t28 (K' · H)) fun t29 H =>
 zab t24 false H (fun K' => zaf 0 t29 (K' · H)) fun t30 H =>
 zab t24 false H (fun K' => zae false 1 t30 H (K' · H)) fun t31 H =>
 zab t24 false H (fun K' => zdC (.bool false) false t26 t31 H (K' · H)) fun t32 H =>
 zah t24 (.bool true) t32 fun t33 =>
 zab t33 false H (fun K' => K' t0 H) fun t35 H =>
 zab t33 false H (fun K' => K' t15 H) fun t36 H =>
 zab t33 false H (fun K' => zaj 3 t35 t36 (K' · H)) fun t37 H =>
 zab t33 false H (fun K' => zaf 1 t37 (K' · H)) fun t38 H =>
 zab t33 false H (fun K' => zae false 1 t38 H (K' · H)) fun t39 H =>
 zab t33 false H (fun K' => zad .lss false t39 (.int .i64 0) (K' · H)) fun t40 H =>
 zah t33 (.bool true) t40 fun t41 =>
 zab t41 false H (fun K' => K' t0 H) fun t43 H =>
 zab t41 false H (fun K' => K' t15 H) fun t44 H =>
 zab t41 false H (fun K' => zaj 3 t43 t44 (K' · H)) fun t45 H =>
 zab t41 false H (fun K' => zaf 1 t45 (K' · H)) fun t46 H =>
 zab t41 false H (fun K' => zae false 1 t46 H (K' · H)) fun t47 H =>
 zab t41 false H (fun K' => zad .gtr false t47 (.int .i64 6) (K' · H)) fun t48 H =>
 zah t41 (.bool true) t48 fun t49 =>
 zag t49
 (K (.bool false) H)
 (zaj 3 t0 t15 fun t53 =>
 zaf 0 t53 fun t54 =>
 zae false 1 t54 H fun t55 =>
 zcX t3 t55 (.bool true) H fun H =>
 zaj 3 t0 t15 fun t58 =>
 zaf 2 t58 fun t59 =>
 zae false 1 t59 H fun t60 =>
 zak 1 t60 fun t61 =>
 zad .lss false t61 (.int .i64 1) fun t62 =>
 zab t62 false H (fun K' => K' t0 H) fun t64 H =>
 zab t62 false H (fun K' => K' t15 H) fun t65 H =>
 zab t62 false H (fun K' => zaj 3 t64 t65 (K' · H)) fun t66 H =>
 zab t62 false H (fun K' => zaf 2 t66 (K' · H)) fun t67 H =>
 zab t62 false H (fun K' => zae false 1 t67 H (K' · H)) fun t68 H =>
 zab t62 false H (fun K' => zak 1 t68 (K' · H)) fun t69 H =>
 zab t62 false H (fun K' => zad .gtr false t69 (.int .i64 8) (K' · H)) fun t70 H =>
 zah t62 (.bool true) t70 fun t71 =>
 zag t71
 (K (.bool false) H)
 (zaj 3 t0 t15 fun t74 =>
 zaf 2 t74 fun t75 =>
 zae false 1 t75 H fun t76 =>
 zak 1 t76 fun t77 =>
 zye t0 t3 t4 t15 t14 t15 t76 t77 (.int .i64 0) H K Kb5)))
 (K (.bool true) H)
def zl0 (t0 : AV) (H : zaa) (K : Kt) : Prop :=
 zak 1 t0 fun t9 =>
 zad .gtr false t9 (.int .i64 12) fun t10 =>
 zag t10
 (K (.bool false) H)
 (zem H fun t11 H =>
 zem H fun t12 H =>
 zak 1 t0 fun t14 =>
 zyf t0 t11 t12 t14 (.int .i64 0) H K)
theorem zKp (t0 t3 t4 t5 t14 t15 t76 t77 t78 : AV) (H : zaa) (K : Kt) (Kb5 : Lt) (Kb13 : Lt) : awp tP zdS zyd (zat zyg Kb13 (zyc K Kb5)) (zgd t0 t3 t4 t5 t14 t15 t76 t77 t78) H = zl1 t0 t3 t4 t5 t14 t15 t76 t77 t78 H K Kb5 Kb13 := by kernel_rfl
theorem zKs {t0 t3 t4 t5 t14 t15 t76 t77 t78 : AV} {H : zaa} {K : Kt} {Kb5 : Lt} (Inv : Nat → AV → zaa → Prop) (n : Nat) (h0 : HSc H → Inv n t78 H)
  (round : ∀ n t78 H', Inv n t78 H' → HSc H' → H.length ≤ H'.length → (zgd t0 t3 t4 t5 t14 t15 t76 t77 t78).all (AV.sc H'.length) = true → ∀ Kb13 : Lt, (∀ F'' H'', (∃ n', n' < n ∧ Back H.length (fun F2 H2 => ∃ t78, F2 = zgd t0 t3 t4 t5 t14 t15 t76 t77 t78 ∧ Inv n' t78 H2) F'' H'') → Kb13 F'' H'') → zl1 t0 t3 t4 t5 t14 t15 t76 t77 t78 H' K Kb5 Kb13) : zye t0 t3 t4 t5 t14 t15 t76 t77 t78 H K Kb5 :=
 zav (M := zdS) zyg (fun n F H => ∃ t78, F = zgd t0 t3 t4 t5 t14 t15 t76 t77 t78 ∧ Inv n t78 H) n (fun hs _ => ⟨t78, rfl, h0 hs⟩) (fun n F H' ⟨t78, hF, hI⟩ h1 h2 h3 => by subst hF; rw [zKp]; exact round n t78 H' hI h1 h2 h3 _ (fun _ _ h => h))
theorem zKq (t0 t3 t4 t14 t15 : AV) (H : zaa) (K : Kt) (Kb5 : Lt) : awp tP zdS zl4 (zat zqS Kb5 (zqR K)) (zge t0 t3 t4 t14 t15) H = zl2 t0 t3 t4 t14 t15 H K Kb5 := by kernel_rfl
theorem zKt {t0 t3 t4 t14 t15 : AV} {H : zaa} {K : Kt} (Inv : Nat → AV → zaa → Prop) (n : Nat) (h0 : HSc H → Inv n t15 H)
  (round : ∀ n t15 H', Inv n t15 H' → HSc H' → H.length ≤ H'.length → (zge t0 t3 t4 t14 t15).all (AV.sc H'.length) = true → ∀ Kb5 : Lt, (∀ F'' H'', (∃ n', n' < n ∧ Back H.length (fun F2 H2 => ∃ t15, F2 = zge t0 t3 t4 t14 t15 ∧ Inv n' t15 H2) F'' H'') → Kb5 F'' H'') → zl2 t0 t3 t4 t14 t15 H' K Kb5) : zyf t0 t3 t4 t14 t15 H K :=
 zav (M := zdS) zqS (fun n F H => ∃ t15, F = zge t0 t3 t4 t14 t15 ∧ Inv n t15 H) n (fun hs _ => ⟨t15, rfl, h0 hs⟩) (fun n F H' ⟨t15, hF, hI⟩ h1 h2 h3 => by subst hF; rw [zKq]; exact round n t15 H' hI h1 h2 h3 _ (fun _ _ h => h))
theorem zKr (t0 : AV) (H : zaa) (K : Kt) : awp tP zdS zl3 (zal tP zyh K) (t0 :: List.replicate 104 .unk) H = zl0 t0 H K := by kernel_rfl
theorem zKu {t0 : AV} {H : zaa} {K : Kt} (h : HSc H → zl0 t0 H K) : ACalls tP zoJ [t0] H K :=
 zaw (M := zdS) Try.func41 (c := zl3) (by kernel_rfl) (fun hs => (zKr t0 H K).mpr (h hs))
def zyi (_ : Nat) : List Bool := []
noncomputable def zyj : Code := Try.f42.body.getD .skip
noncomputable def zKy : List ResultVar := Try.f42.results.toList
def zqT (t0 : AV) (H : zaa) (K : Kt) : Prop :=
 zaH t0 H fun t1 H =>
 zaf 2 t1 fun t3 =>
 zae false 1 t3 H fun t4 =>
 zak 1 t4 fun t5 =>
 zad .leq false t5 (.int .i64 3000) fun t6 =>
 zab t6 true H (fun K' => zaf 2 t1 (K' · H)) fun t8 H =>
 zab t6 true H (fun K' => zae false 1 t8 H (K' · H)) fun t9 H =>
 zab t6 true H (fun K' => zcx zoT [t1] (K' · H)) fun t10 H =>
 zab t6 true H (fun K' => ACalls tP zfm [t9, t10] H K') fun t11 H =>
 zab t6 true H (fun K' => aUn .not t11 (K' · H)) fun t12 H =>
 zah t6 t12 (.bool false) fun t13 =>
 K t13 H
theorem zKw (t0 : AV) (H : zaa) (K : Kt) : awp tP zyi zyj (zal tP zKy K) (t0 :: List.replicate 13 .unk) H = zqT t0 H K := by kernel_rfl
theorem zKx {t0 : AV} {H : zaa} {K : Kt} (h : HSc H → zqT t0 H K) : ACalls tP zoK [t0] H K :=
 zaw (M := zyi) Try.func42 (c := zyj) (by kernel_rfl) (fun hs => (zKw t0 H K).mpr (h hs))
def zhV : Nat → List Bool
 | 6 => rl false [1,1,1,2,14,3,59]
 | _ => []
noncomputable def zl5 : Code := Try.f43.body.getD .skip
noncomputable def zyo : List ResultVar := Try.f43.results.toList
def zgf (t1 t3 t4 t19 t20 t21 : AV) : List AV := ux 1 (t1 :: ux 1 (t3 :: t4 :: ux 14 (t19 :: t20 :: t21 :: ux 59 [])))
def zyn : List Bool := zhV 6
noncomputable def zyl : Code := zap [1, 1, 1, 1, 0, 1, 0, 0] zl5
def zyk (K : Kt) : AExit → List AV → zaa → Prop := zaq tP zhV [1, 1, 1, 1, 0, 1, 0] zl5 (zal tP zyo K)
def zym (t1 t3 t4 t19 t20 t21 : AV) (H : zaa) (K : Kt) : Prop := ALoop tP zyl (zyk K) (zgf t1 t3 t4 t19 t20 t21) H
def zjq (t1 t3 t4 t6 t19 t20 t21 : AV) (H : zaa) (K : Kt) (Kb6 : Lt) : Prop :=
 zaf 0 t6 fun t42 =>
 zae false 1 t42 H fun t43 =>
 zcX t3 t43 (.bool true) H fun H =>
 zaf 1 t6 fun t44 =>
 zae false 1 t44 H fun t45 =>
 zak 1 t45 fun t46 =>
 zad .gtr false t46 (.int .i64 6) fun t47 =>
 zab t47 false H (fun K' => zaf 0 t1 (K' · H)) fun t49 H =>
 zab t47 false H (fun K' => zae false 1 t49 H (K' · H)) fun t50 H =>
 zab t47 false H (fun K' => zaf 3 t6 (K' · H)) fun t51 H =>
 zab t47 false H (fun K' => zae true 3 t51 H (K' · H)) fun t52 H =>
 zab t47 false H (fun K' => ACalls tP zhn [t50, t52, (.int .i64 0)] H K') fun t53 H =>
 zab t47 false H (fun K' => aUn .not t53 (K' · H)) fun t54 H =>
 zah t47 (.bool true) t54 fun t55 =>
 zag t55
 (K (.bool false) H)
 (zac H (fun K' => zaf 6 t6 (K' · H)) fun t56 =>
 zac H (fun K' => zai false 1 t56 H (K' · H)) fun t57 =>
 zac H (fun K' => zad .lss false t57 (.int .i64 0) (K' · H)) fun t58 =>
 zac H (fun K' => K' t58 H) fun t59 =>
 zab t59 false H (fun K' => zac H (fun K'' => zaf 6 t6 (K'' · H)) (K' · H)) fun t60 H =>
 zab t59 false H (fun K' => zac H (fun K'' => zai false 1 t60 H (K'' · H)) (K' · H)) fun t61 H =>
 zab t59 false H (fun K' => zac H (fun K'' => zaf 3 t1 (K'' · H)) (K' · H)) fun t62 H =>
 zab t59 false H (fun K' => zac H (fun K'' => zai false 1 t62 H (K'' · H)) (K' · H)) fun t63 H =>
 zab t59 false H (fun K' => zac H (fun K'' => zak 1 t63 (K'' · H)) (K' · H)) fun t64 H =>
 zab t59 false H (fun K' => zac H (fun K'' => zad .geq false t61 t64 (K'' · H)) (K' · H)) fun t65 H =>
 zac H (fun K' => zah t59 (.bool true) t65 (K' · H)) fun t66 =>
 zac H (fun K' => K' t66 H) fun t67 =>
 zab t67 false H (fun K' => zac H (fun K'' => zaf 3 t1 (K'' · H)) (K' · H)) fun t68 H =>
 zab t67 false H (fun K' => zac H (fun K'' => zai false 1 t68 H (K'' · H)) (K' · H)) fun t69 H =>
 zab t67 false H (fun K' => zac H (fun K'' => zaf 6 t6 (K'' · H)) (K' · H)) fun t70 H =>
 zab t67 false H (fun K' => zac H (fun K'' => zai false 1 t70 H (K'' · H)) (K' · H)) fun t71 H =>
 zab t67 false H (fun K' => zac H (fun K'' => zaj 8 t69 t71 (K'' · H)) (K' · H)) fun t72 H =>
 zab t67 false H (fun K' => zac H (fun K'' => zaf 5 t72 (K'' · H)) (K' · H)) fun t73 H =>
 zab t67 false H (fun K' => zac H (fun K'' => zai true 3 t73 H (K'' · H)) (K' · H)) fun t74 H =>
 zab t67 false H (fun K' => zac H (fun K'' => zaf 3 t6 (K'' · H)) (K' · H)) fun t75 H =>
 zab t67 false H (fun K' => zac H (fun K'' => zai true 3 t75 H (K'' · H)) (K' · H)) fun t76 H =>
 zab t67 false H (fun K' => zay H (fun H K'' => ACalls tP zbG [t74, t76] H K'') (K' · H)) fun t77 H =>
 zab t67 false H (fun K' => zac H (fun K'' => aUn .not t77 (K'' · H)) (K' · H)) fun t78 H =>
 zac H (fun K' => zah t67 (.bool true) t78 (K' · H)) fun t79 =>
 zag t79
 (K (.bool false) H)
 (zad .add false t21 (.int .i64 1) fun t80 =>
 Kb6 (zgf t1 t3 t4 t19 t20 t80) H))
def zeR (t1 t3 t4 t19 t20 t21 : AV) (H : zaa) (K : Kt) (Kb6 : Lt) : Prop :=
 zad .lss false t21 t20 fun t22 =>
 zag t22
 (zaj 7 t19 t21 fun t23 =>
 zae true 7 t23 H fun t24 =>
 zaC [(.str []), .snil, .snil, (.int .i64 0), (.int .i64 0), .snil, (.int .i64 0)] H fun t6 H =>
 zas 7 t6 t24 H fun H =>
 zaf 0 t6 fun t25 =>
 zae false 1 t25 H fun t26 =>
 zad .eql false t26 (.str []) fun t27 =>
 zag t27
 (zjq t1 t3 (.bool true) t6 t19 t20 t21 H K Kb6)
 (zab t4 false H (fun K' => K' t3 H) fun t30 H =>
 zab t4 false H (fun K' => zaf 0 t6 (K' · H)) fun t31 H =>
 zab t4 false H (fun K' => zae false 1 t31 H (K' · H)) fun t32 H =>
 zab t4 false H (fun K' => zdC (.bool false) false t30 t32 H (K' · H)) fun t33 H =>
 zah t4 (.bool true) t33 fun t34 =>
 zab t34 false H (fun K' => zaf 2 t6 (K' · H)) fun t36 H =>
 zab t34 false H (fun K' => zae false 1 t36 H (K' · H)) fun t37 H =>
 zab t34 false H (fun K' => zak 1 t37 (K' · H)) fun t38 H =>
 zab t34 false H (fun K' => zad .gtr false t38 (.int .i64 0) (K' · H)) fun t39 H =>
 zah t34 (.bool true) t39 fun t40 =>
 zag t40
 (K (.bool false) H)
 (zjq t1 t3 t4 t6 t19 t20 t21 H K Kb6)))
 (K (.bool true) H)
def zqU (t0 : AV) (H : zaa) (K : Kt) : Prop :=
 zaH t0 H fun t1 H =>
 zaf 1 t1 fun t7 =>
 zae false 1 t7 H fun t8 =>
 zak 1 t8 fun t9 =>
 zad .gtr false t9 (.int .i64 64) fun t10 =>
 zab t10 false H (fun K' => zaf 3 t1 (K' · H)) fun t12 H =>
 zab t10 false H (fun K' => zae false 1 t12 H (K' · H)) fun t13 H =>
 zab t10 false H (fun K' => zak 1 t13 (K' · H)) fun t14 H =>
 zab t10 false H (fun K' => zad .gtr false t14 (.int .i64 3000) (K' · H)) fun t15 H =>
 zah t10 (.bool true) t15 fun t16 =>
 zag t16
 (K (.bool false) H)
 (zem H fun t17 H =>
 zaf 1 t1 fun t18 =>
 zae false 1 t18 H fun t19 =>
 zak 1 t19 fun t20 =>
 zym t1 t17 (.bool false) t19 t20 (.int .i64 0) H K)
theorem zKA (t1 t3 t4 t19 t20 t21 : AV) (H : zaa) (K : Kt) (Kb6 : Lt) : awp tP zhV zyl (zat zyn Kb6 (zyk K)) (zgf t1 t3 t4 t19 t20 t21) H = zeR t1 t3 t4 t19 t20 t21 H K Kb6 := by kernel_rfl
theorem zKC {t1 t3 t4 t19 t20 t21 : AV} {H : zaa} {K : Kt} (Inv : Nat → AV → AV → zaa → Prop) (n : Nat) (h0 : HSc H → Inv n t4 t21 H)
  (round : ∀ n t4 t21 H', Inv n t4 t21 H' → HSc H' → H.length ≤ H'.length → (zgf t1 t3 t4 t19 t20 t21).all (AV.sc H'.length) = true → ∀ Kb6 : Lt, (∀ F'' H'', (∃ n', n' < n ∧ Back H.length (fun F2 H2 => ∃ t4 t21, F2 = zgf t1 t3 t4 t19 t20 t21 ∧ Inv n' t4 t21 H2) F'' H'') → Kb6 F'' H'') → zeR t1 t3 t4 t19 t20 t21 H' K Kb6) : zym t1 t3 t4 t19 t20 t21 H K :=
 zav (M := zhV) zyn (fun n F H => ∃ t4 t21, F = zgf t1 t3 t4 t19 t20 t21 ∧ Inv n t4 t21 H) n (fun hs _ => ⟨t4, t21, rfl, h0 hs⟩) (fun n F H' ⟨t4, t21, hF, hI⟩ h1 h2 h3 => by subst hF; rw [zKA]; exact round n t4 t21 H' hI h1 h2 h3 _ (fun _ _ h => h))
theorem zKB (t0 : AV) (H : zaa) (K : Kt) : awp tP zhV zl5 (zal tP zyo K) (t0 :: List.replicate 80 .unk) H = zqU t0 H K := by kernel_rfl
theorem zKD {t0 : AV} {H : zaa} {K : Kt} (h : HSc H → zqU t0 H K) : ACalls tP zoL [t0] H K :=
 zaw (M := zhV) Try.func43 (c := zl5) (by kernel_rfl) (fun hs => (zKB t0 H K).mpr (h hs))
def zcS : Nat → List Bool
 | 5 => rl false [1,1,2,2,12,3,54]
 | 11 => rl false [1,1,2,2,25,3,41]
 | 16 => rl false [1,1,2,2,2,1,22,3,12,3,26]
 | _ => []
noncomputable def zhX : Code := Try.f44.body.getD .skip
noncomputable def zqY : List ResultVar := Try.f44.results.toList
def zgi (t1 t4 t5 t18 t19 t20 : AV) : List AV := ux 1 (t1 :: ux 2 (t4 :: t5 :: ux 12 (t18 :: t19 :: t20 :: ux 54 [])))
def zyx : List Bool := zcS 5
noncomputable def zys : Code := zap [1, 1, 1, 1, 0, 1, 0, 0] zhX
def zyq (K : Kt) : AExit → List AV → zaa → Prop := zaq tP zcS [1, 1, 1, 1, 0, 1, 0] zhX (zal tP zqY K)
def zyv (t1 t4 t5 t18 t19 t20 : AV) (H : zaa) (K : Kt) : Prop := ALoop tP zys (zyq K) (zgi t1 t4 t5 t18 t19 t20) H
def zgg (t1 t4 t5 t31 t32 t33 : AV) : List AV := ux 1 (t1 :: ux 2 (t4 :: t5 :: ux 25 (t31 :: t32 :: t33 :: ux 41 [])))
def zqX : List Bool := zcS 11
noncomputable def zl7 : Code := zap [1, 1, 1, 1, 1, 0, 1, 0, 0] zhX
def zqW (K : Kt) : AExit → List AV → zaa → Prop := zaq tP zcS [1, 1, 1, 1, 1, 0, 1, 0] zhX (zal tP zqY K)
def zyt (t1 t4 t5 t31 t32 t33 : AV) (H : zaa) (K : Kt) : Prop := ALoop tP zl7 (zqW K) (zgg t1 t4 t5 t31 t32 t33) H
def zgh (t1 t4 t5 t8 t31 t32 t33 t46 t47 t48 : AV) : List AV := ux 1 (t1 :: ux 2 (t4 :: t5 :: ux 2 (t8 :: ux 22 (t31 :: t32 :: t33 :: ux 12 (t46 :: t47 :: t48 :: ux 26 [])))))
def zyw : List Bool := zcS 16
noncomputable def zyr : Code := zap [1, 1, 0, 0, 1, 1, 1, 0, 0] zl7
def zyp (K : Kt) (Kb11 : Lt) : AExit → List AV → zaa → Prop := zaq tP zcS [1, 1, 0, 0, 1, 1, 1, 0] zl7 (zat zqX Kb11 (zqW K))
def zyu (t1 t4 t5 t8 t31 t32 t33 t46 t47 t48 : AV) (H : zaa) (K : Kt) (Kb11 : Lt) : Prop := ALoop tP zyr (zyp K Kb11) (zgh t1 t4 t5 t8 t31 t32 t33 t46 t47 t48) H
def zhW (t1 t4 t5 t8 t31 t32 t33 t46 t47 t48 : AV) (H : zaa) (K : Kt) (Kb11 : Lt) (Kb16 : Lt) : Prop :=
 zad .lss false t48 t47 fun t49 =>
 zag t49
 (zaj 1 t46 t48 fun t50 =>
 zae false 1 t50 H fun t51 =>
 zad .leq false t51 t8 fun t54 =>
 zab t54 false H (fun K' => K' t51 H) fun t56 H =>
 zab t54 false H (fun K' => zaf 3 t1 (K' · H)) fun t57 H =>
 zab t54 false H (fun K' => zae false 1 t57 H (K' · H)) fun t58 H =>
 zab t54 false H (fun K' => zak 1 t58 (K' · H)) fun t59 H =>
 zab t54 false H (fun K' => zad .geq false t56 t59 (K' · H)) fun t60 H =>
 zah t54 (.bool true) t60 fun t61 =>
 zab t61 false H (fun K' => K' t5 H) fun t63 H =>
 zab t61 false H (fun K' => K' t51 H) fun t64 H =>
 zab t61 false H (fun K' => aCallV tP t63 [t64] H K') fun t65 H =>
 zab t61 false H (fun K' => aUn .not t65 (K' · H)) fun t66 H =>
 zah t61 (.bool true) t66 fun t67 =>
 zag t67
 (K (.bool false) H)
 (zad .add false t48 (.int .i64 1) fun t68 =>
 Kb16 (zgh t1 t4 t5 t8 t31 t32 t33 t46 t47 t68) H))
 (zad .add false t33 (.int .i64 1) fun t69 =>
 Kb11 (zgg t1 t4 t5 t31 t32 t69) H)
def zjr (t1 t4 t5 t31 t32 t33 : AV) (H : zaa) (K : Kt) (Kb11 : Lt) : Prop :=
 zad .lss false t33 t32 fun t34 =>
 zag t34
 (zaj 8 t31 t33 fun t36 =>
 zae true 8 t36 H fun t37 =>
 zaC [(.int .i64 0), (.int .i64 0), .snil, .snil, .snil, (.int .i64 0), (.int .i64 0), .snil] H fun t9 H =>
 zas 8 t9 t37 H fun H =>
 zaf 3 t9 fun t38 =>
 zae false 1 t38 H fun t39 =>
 zak 1 t39 fun t40 =>
 zaf 4 t9 fun t41 =>
 zae false 1 t41 H fun t42 =>
 zak 1 t42 fun t43 =>
 zad .neq false t40 t43 fun t44 =>
 zag t44
 (K (.bool false) H)
 (zaf 4 t9 fun t45 =>
 zae false 1 t45 H fun t46 =>
 zak 1 t46 fun t47 =>
 zyu t1 t4 t5 t33 t31 t32 t33 t46 t47 (.int .i64 0) H K Kb11))
 (zae false 1 t4 H fun t70 =>
 zaf 3 t1 fun t71 =>
 zae false 1 t71 H fun t72 =>
 zak 1 t72 fun t73 =>
 zad .eql false t70 t73 fun t74 =>
 K t74 H)
def zl6 (t1 t4 t5 t18 t19 t20 : AV) (H : zaa) (K : Kt) (Kb5 : Lt) : Prop :=
 zad .lss false t20 t19 fun t21 =>
 zag t21
 (zaj 7 t18 t20 fun t22 =>
 zae true 7 t22 H fun t23 =>
 zaC [(.str []), .snil, .snil, (.int .i64 0), (.int .i64 0), .snil, (.int .i64 0)] H fun t7 H =>
 zas 7 t7 t23 H fun H =>
 zaf 6 t7 fun t25 =>
 zae false 1 t25 H fun t26 =>
 aCallV tP t5 [t26] H fun t27 H =>
 aUn .not t27 fun t28 =>
 zag t28
 (K (.bool false) H)
 (zad .add false t20 (.int .i64 1) fun t29 =>
 Kb5 (zgi t1 t4 t5 t18 t19 t29) H))
 (zaf 3 t1 fun t30 =>
 zae false 1 t30 H fun t31 =>
 zak 1 t31 fun t32 =>
 zyt t1 t4 t5 t31 t32 (.int .i64 0) H K)
def zqV (t0 : AV) (H : zaa) (K : Kt) : Prop :=
 zaH t0 H fun t1 H =>
 zaf 3 t1 fun t12 =>
 zae false 1 t12 H fun t13 =>
 zak 1 t13 fun t14 =>
 zbd 1 [(.bool false)] t14 t14 H fun t15 H =>
 zaC [.snil] H fun t3 H =>
 zas 1 t3 t15 H fun H =>
 zaC [(.int .i64 0)] H fun t4 H =>
 zas 1 t4 (.int .i64 0) H fun H =>
 zcx zkp [t3, t4] fun t16 =>
 zaf 1 t1 fun t17 =>
 zae false 1 t17 H fun t18 =>
 zak 1 t18 fun t19 =>
 zyv t1 t4 t16 t18 t19 (.int .i64 0) H K
theorem zKG (t1 t4 t5 t8 t31 t32 t33 t46 t47 t48 : AV) (H : zaa) (K : Kt) (Kb11 : Lt) (Kb16 : Lt) : awp tP zcS zyr (zat zyw Kb16 (zyp K Kb11)) (zgh t1 t4 t5 t8 t31 t32 t33 t46 t47 t48) H = zhW t1 t4 t5 t8 t31 t32 t33 t46 t47 t48 H K Kb11 Kb16 := by kernel_rfl
theorem zKK {t1 t4 t5 t8 t31 t32 t33 t46 t47 t48 : AV} {H : zaa} {K : Kt} {Kb11 : Lt} (Inv : Nat → AV → zaa → Prop) (n : Nat) (h0 : HSc H → Inv n t48 H)
  (round : ∀ n t48 H', Inv n t48 H' → HSc H' → H.length ≤ H'.length → (zgh t1 t4 t5 t8 t31 t32 t33 t46 t47 t48).all (AV.sc H'.length) = true → ∀ Kb16 : Lt, (∀ F'' H'', (∃ n', n' < n ∧ Back H.length (fun F2 H2 => ∃ t48, F2 = zgh t1 t4 t5 t8 t31 t32 t33 t46 t47 t48 ∧ Inv n' t48 H2) F'' H'') → Kb16 F'' H'') → zhW t1 t4 t5 t8 t31 t32 t33 t46 t47 t48 H' K Kb11 Kb16) : zyu t1 t4 t5 t8 t31 t32 t33 t46 t47 t48 H K Kb11 :=
 zav (M := zcS) zyw (fun n F H => ∃ t48, F = zgh t1 t4 t5 t8 t31 t32 t33 t46 t47 t48 ∧ Inv n t48 H) n (fun hs _ => ⟨t48, rfl, h0 hs⟩) (fun n F H' ⟨t48, hF, hI⟩ h1 h2 h3 => by subst hF; rw [zKG]; exact round n t48 H' hI h1 h2 h3 _ (fun _ _ h => h))
theorem zKF (t1 t4 t5 t31 t32 t33 : AV) (H : zaa) (K : Kt) (Kb11 : Lt) : awp tP zcS zl7 (zat zqX Kb11 (zqW K)) (zgg t1 t4 t5 t31 t32 t33) H = zjr t1 t4 t5 t31 t32 t33 H K Kb11 := by kernel_rfl
theorem zKJ {t1 t4 t5 t31 t32 t33 : AV} {H : zaa} {K : Kt} (Inv : Nat → AV → zaa → Prop) (n : Nat) (h0 : HSc H → Inv n t33 H)
  (round : ∀ n t33 H', Inv n t33 H' → HSc H' → H.length ≤ H'.length → (zgg t1 t4 t5 t31 t32 t33).all (AV.sc H'.length) = true → ∀ Kb11 : Lt, (∀ F'' H'', (∃ n', n' < n ∧ Back H.length (fun F2 H2 => ∃ t33, F2 = zgg t1 t4 t5 t31 t32 t33 ∧ Inv n' t33 H2) F'' H'') → Kb11 F'' H'') → zjr t1 t4 t5 t31 t32 t33 H' K Kb11) : zyt t1 t4 t5 t31 t32 t33 H K :=
 zav (M := zcS) zqX (fun n F H => ∃ t33, F = zgg t1 t4 t5 t31 t32 t33 ∧ Inv n t33 H) n (fun hs _ => ⟨t33, rfl, h0 hs⟩) (fun n F H' ⟨t33, hF, hI⟩ h1 h2 h3 => by subst hF; rw [zKF]; exact round n t33 H' hI h1 h2 h3 _ (fun _ _ h => h))
theorem zKH (t1 t4 t5 t18 t19 t20 : AV) (H : zaa) (K : Kt) (Kb5 : Lt) : awp tP zcS zys (zat zyx Kb5 (zyq K)) (zgi t1 t4 t5 t18 t19 t20) H = zl6 t1 t4 t5 t18 t19 t20 H K Kb5 := by kernel_rfl
theorem zKL {t1 t4 t5 t18 t19 t20 : AV} {H : zaa} {K : Kt} (Inv : Nat → AV → zaa → Prop) (n : Nat) (h0 : HSc H → Inv n t20 H)
  (round : ∀ n t20 H', Inv n t20 H' → HSc H' → H.length ≤ H'.length → (zgi t1 t4 t5 t18 t19 t20).all (AV.sc H'.length) = true → ∀ Kb5 : Lt, (∀ F'' H'', (∃ n', n' < n ∧ Back H.length (fun F2 H2 => ∃ t20, F2 = zgi t1 t4 t5 t18 t19 t20 ∧ Inv n' t20 H2) F'' H'') → Kb5 F'' H'') → zl6 t1 t4 t5 t18 t19 t20 H' K Kb5) : zyv t1 t4 t5 t18 t19 t20 H K :=
 zav (M := zcS) zyx (fun n F H => ∃ t20, F = zgi t1 t4 t5 t18 t19 t20 ∧ Inv n t20 H) n (fun hs _ => ⟨t20, rfl, h0 hs⟩) (fun n F H' ⟨t20, hF, hI⟩ h1 h2 h3 => by subst hF; rw [zKH]; exact round n t20 H' hI h1 h2 h3 _ (fun _ _ h => h))
theorem zKI (t0 : AV) (H : zaa) (K : Kt) : awp tP zcS zhX (zal tP zqY K) (t0 :: List.replicate 74 .unk) H = zqV t0 H K := by kernel_rfl
theorem zKM {t0 : AV} {H : zaa} {K : Kt} (h : HSc H → zqV t0 H K) : ACalls tP zoM [t0] H K :=
 zaw (M := zcS) Try.func44 (c := zhX) (by kernel_rfl) (fun hs => (zKI t0 H K).mpr (h hs))
def zcT : Nat → List Bool
 | 5 => rl false [1,1,2,2,12,3,41]
 | 11 => rl false [1,1,2,2,32,3,21]
 | 14 => rl false [1,1,2,2,32,3,4,3,14]
 | _ => []
noncomputable def zhY : Code := Try.f45.body.getD .skip
noncomputable def zq2 : List ResultVar := Try.f45.results.toList
def zgl (t1 t4 t5 t18 t19 t20 : AV) : List AV := ux 1 (t1 :: ux 2 (t4 :: t5 :: ux 12 (t18 :: t19 :: t20 :: ux 41 [])))
def zyG : List Bool := zcT 5
noncomputable def zyB : Code := zap [1, 1, 1, 1, 0, 1, 0, 0] zhY
def zyz (K : Kt) : AExit → List AV → zaa → Prop := zaq tP zcT [1, 1, 1, 1, 0, 1, 0] zhY (zal tP zq2 K)
def zyE (t1 t4 t5 t18 t19 t20 : AV) (H : zaa) (K : Kt) : Prop := ALoop tP zyB (zyz K) (zgl t1 t4 t5 t18 t19 t20) H
def zgj (t1 t4 t5 t38 t39 t40 : AV) : List AV := ux 1 (t1 :: ux 2 (t4 :: t5 :: ux 32 (t38 :: t39 :: t40 :: ux 21 [])))
def zq1 : List Bool := zcT 11
noncomputable def zmb : Code := zap [1, 1, 1, 1, 1, 0, 1, 0, 0] zhY
def zq0 (K : Kt) : AExit → List AV → zaa → Prop := zaq tP zcT [1, 1, 1, 1, 1, 0, 1, 0] zhY (zal tP zq2 K)
def zyC (t1 t4 t5 t38 t39 t40 : AV) (H : zaa) (K : Kt) : Prop := ALoop tP zmb (zq0 K) (zgj t1 t4 t5 t38 t39 t40) H
def zgk (t1 t4 t5 t38 t39 t40 t45 t46 t47 : AV) : List AV := ux 1 (t1 :: ux 2 (t4 :: t5 :: ux 32 (t38 :: t39 :: t40 :: ux 4 (t45 :: t46 :: t47 :: ux 14 []))))
def zyF : List Bool := zcT 14
noncomputable def zyA : Code := zap [1, 1, 0, 0, 1, 1, 0, 0] zmb
def zyy (K : Kt) (Kb11 : Lt) : AExit → List AV → zaa → Prop := zaq tP zcT [1, 1, 0, 0, 1, 1, 0] zmb (zat zq1 Kb11 (zq0 K))
def zyD (t1 t4 t5 t38 t39 t40 t45 t46 t47 : AV) (H : zaa) (K : Kt) (Kb11 : Lt) : Prop := ALoop tP zyA (zyy K Kb11) (zgk t1 t4 t5 t38 t39 t40 t45 t46 t47) H
def zl9 (t1 t4 t5 t38 t39 t40 t45 t46 t47 : AV) (H : zaa) (K : Kt) (Kb11 : Lt) (Kb14 : Lt) : Prop :=
 zad .lss false t47 t46 fun t48 =>
 zag t48
 (zaj 1 t45 t47 fun t49 =>
 zae false 1 t49 H fun t50 =>
 aCallV tP t5 [t50] H fun t53 H =>
 aUn .not t53 fun t54 =>
 zag t54
 (K (.bool false) H)
 (zad .add false t47 (.int .i64 1) fun t55 =>
 Kb14 (zgk t1 t4 t5 t38 t39 t40 t45 t46 t55) H))
 (zad .add false t40 (.int .i64 1) fun t56 =>
 Kb11 (zgj t1 t4 t5 t38 t39 t56) H)
def zl8 (t1 t4 t5 t38 t39 t40 : AV) (H : zaa) (K : Kt) (Kb11 : Lt) : Prop :=
 zad .lss false t40 t39 fun t41 =>
 zag t41
 (zaj 8 t38 t40 fun t42 =>
 zae true 8 t42 H fun t43 =>
 zaC [(.int .i64 0), (.int .i64 0), .snil, .snil, .snil, (.int .i64 0), (.int .i64 0), .snil] H fun t9 H =>
 zas 8 t9 t43 H fun H =>
 zaf 3 t9 fun t44 =>
 zae false 1 t44 H fun t45 =>
 zak 1 t45 fun t46 =>
 zyD t1 t4 t5 t38 t39 t40 t45 t46 (.int .i64 0) H K Kb11)
 (zae false 1 t4 H fun t57 =>
 zaf 2 t1 fun t58 =>
 zae false 1 t58 H fun t59 =>
 zak 1 t59 fun t60 =>
 zad .eql false t57 t60 fun t61 =>
 K t61 H)
def zma (t1 t4 t5 t18 t19 t20 : AV) (H : zaa) (K : Kt) (Kb5 : Lt) : Prop :=
 zad .lss false t20 t19 fun t21 =>
 zag t21
 (zaj 7 t18 t20 fun t22 =>
 zae true 7 t22 H fun t23 =>
 zaC [(.str []), .snil, .snil, (.int .i64 0), (.int .i64 0), .snil, (.int .i64 0)] H fun t7 H =>
 zas 7 t7 t23 H fun H =>
 zaf 1 t7 fun t25 =>
 zae false 1 t25 H fun t26 =>
 aCallV tP t5 [t26] H fun t27 H =>
 aUn .not t27 fun t28 =>
 zab t28 false H (fun K' => K' t5 H) fun t30 H =>
 zab t28 false H (fun K' => zaf 2 t7 (K' · H)) fun t31 H =>
 zab t28 false H (fun K' => zae false 1 t31 H (K' · H)) fun t32 H =>
 zab t28 false H (fun K' => aCallV tP t30 [t32] H K') fun t33 H =>
 zab t28 false H (fun K' => aUn .not t33 (K' · H)) fun t34 H =>
 zah t28 (.bool true) t34 fun t35 =>
 zag t35
 (K (.bool false) H)
 (zad .add false t20 (.int .i64 1) fun t36 =>
 Kb5 (zgl t1 t4 t5 t18 t19 t36) H))
 (zaf 3 t1 fun t37 =>
 zae false 1 t37 H fun t38 =>
 zak 1 t38 fun t39 =>
 zyC t1 t4 t5 t38 t39 (.int .i64 0) H K)
def zqZ (t0 : AV) (H : zaa) (K : Kt) : Prop :=
 zaH t0 H fun t1 H =>
 zaf 2 t1 fun t12 =>
 zae false 1 t12 H fun t13 =>
 zak 1 t13 fun t14 =>
 zbd 1 [(.bool false)] t14 t14 H fun t15 H =>
 zaC [.snil] H fun t3 H =>
 zas 1 t3 t15 H fun H =>
 zaC [(.int .i64 0)] H fun t4 H =>
 zas 1 t4 (.int .i64 0) H fun H =>
 zcx zkq [t3, t4] fun t16 =>
 zaf 1 t1 fun t17 =>
 zae false 1 t17 H fun t18 =>
 zak 1 t18 fun t19 =>
 zyE t1 t4 t16 t18 t19 (.int .i64 0) H K
theorem zKP (t1 t4 t5 t38 t39 t40 t45 t46 t47 : AV) (H : zaa) (K : Kt) (Kb11 : Lt) (Kb14 : Lt) : awp tP zcT zyA (zat zyF Kb14 (zyy K Kb11)) (zgk t1 t4 t5 t38 t39 t40 t45 t46 t47) H = zl9 t1 t4 t5 t38 t39 t40 t45 t46 t47 H K Kb11 Kb14 := by kernel_rfl
theorem zKT {t1 t4 t5 t38 t39 t40 t45 t46 t47 : AV} {H : zaa} {K : Kt} {Kb11 : Lt} (Inv : Nat → AV → zaa → Prop) (n : Nat) (h0 : HSc H → Inv n t47 H)
  (round : ∀ n t47 H', Inv n t47 H' → HSc H' → H.length ≤ H'.length → (zgk t1 t4 t5 t38 t39 t40 t45 t46 t47).all (AV.sc H'.length) = true → ∀ Kb14 : Lt, (∀ F'' H'', (∃ n', n' < n ∧ Back H.length (fun F2 H2 => ∃ t47, F2 = zgk t1 t4 t5 t38 t39 t40 t45 t46 t47 ∧ Inv n' t47 H2) F'' H'') → Kb14 F'' H'') → zl9 t1 t4 t5 t38 t39 t40 t45 t46 t47 H' K Kb11 Kb14) : zyD t1 t4 t5 t38 t39 t40 t45 t46 t47 H K Kb11 :=
 zav (M := zcT) zyF (fun n F H => ∃ t47, F = zgk t1 t4 t5 t38 t39 t40 t45 t46 t47 ∧ Inv n t47 H) n (fun hs _ => ⟨t47, rfl, h0 hs⟩) (fun n F H' ⟨t47, hF, hI⟩ h1 h2 h3 => by subst hF; rw [zKP]; exact round n t47 H' hI h1 h2 h3 _ (fun _ _ h => h))
theorem zKO (t1 t4 t5 t38 t39 t40 : AV) (H : zaa) (K : Kt) (Kb11 : Lt) : awp tP zcT zmb (zat zq1 Kb11 (zq0 K)) (zgj t1 t4 t5 t38 t39 t40) H = zl8 t1 t4 t5 t38 t39 t40 H K Kb11 := by kernel_rfl
theorem zKS {t1 t4 t5 t38 t39 t40 : AV} {H : zaa} {K : Kt} (Inv : Nat → AV → zaa → Prop) (n : Nat) (h0 : HSc H → Inv n t40 H)
  (round : ∀ n t40 H', Inv n t40 H' → HSc H' → H.length ≤ H'.length → (zgj t1 t4 t5 t38 t39 t40).all (AV.sc H'.length) = true → ∀ Kb11 : Lt, (∀ F'' H'', (∃ n', n' < n ∧ Back H.length (fun F2 H2 => ∃ t40, F2 = zgj t1 t4 t5 t38 t39 t40 ∧ Inv n' t40 H2) F'' H'') → Kb11 F'' H'') → zl8 t1 t4 t5 t38 t39 t40 H' K Kb11) : zyC t1 t4 t5 t38 t39 t40 H K :=
 zav (M := zcT) zq1 (fun n F H => ∃ t40, F = zgj t1 t4 t5 t38 t39 t40 ∧ Inv n t40 H) n (fun hs _ => ⟨t40, rfl, h0 hs⟩) (fun n F H' ⟨t40, hF, hI⟩ h1 h2 h3 => by subst hF; rw [zKO]; exact round n t40 H' hI h1 h2 h3 _ (fun _ _ h => h))
theorem zKQ (t1 t4 t5 t18 t19 t20 : AV) (H : zaa) (K : Kt) (Kb5 : Lt) : awp tP zcT zyB (zat zyG Kb5 (zyz K)) (zgl t1 t4 t5 t18 t19 t20) H = zma t1 t4 t5 t18 t19 t20 H K Kb5 := by kernel_rfl
theorem zKU {t1 t4 t5 t18 t19 t20 : AV} {H : zaa} {K : Kt} (Inv : Nat → AV → zaa → Prop) (n : Nat) (h0 : HSc H → Inv n t20 H)
  (round : ∀ n t20 H', Inv n t20 H' → HSc H' → H.length ≤ H'.length → (zgl t1 t4 t5 t18 t19 t20).all (AV.sc H'.length) = true → ∀ Kb5 : Lt, (∀ F'' H'', (∃ n', n' < n ∧ Back H.length (fun F2 H2 => ∃ t20, F2 = zgl t1 t4 t5 t18 t19 t20 ∧ Inv n' t20 H2) F'' H'') → Kb5 F'' H'') → zma t1 t4 t5 t18 t19 t20 H' K Kb5) : zyE t1 t4 t5 t18 t19 t20 H K :=
 zav (M := zcT) zyG (fun n F H => ∃ t20, F = zgl t1 t4 t5 t18 t19 t20 ∧ Inv n t20 H) n (fun hs _ => ⟨t20, rfl, h0 hs⟩) (fun n F H' ⟨t20, hF, hI⟩ h1 h2 h3 => by subst hF; rw [zKQ]; exact round n t20 H' hI h1 h2 h3 _ (fun _ _ h => h))
theorem zKR (t0 : AV) (H : zaa) (K : Kt) : awp tP zcT zhY (zal tP zq2 K) (t0 :: List.replicate 61 .unk) H = zqZ t0 H K := by kernel_rfl
theorem zKV {t0 : AV} {H : zaa} {K : Kt} (h : HSc H → zqZ t0 H K) : ACalls tP zoN [t0] H K :=
 zaw (M := zcT) Try.func45 (c := zhY) (by kernel_rfl) (fun hs => (zKR t0 H K).mpr (h hs))
def zhZ : Nat → List Bool
 | 6 => rl false [4,2,9,3,25]
 | _ => []
noncomputable def zmd : Code := Try.f46.body.getD .skip
noncomputable def zyL : List ResultVar := Try.f46.results.toList
def zgm (t4 t5 t15 t16 t17 : AV) : List AV := ux 4 (t4 :: t5 :: ux 9 (t15 :: t16 :: t17 :: ux 25 []))
def zyK : List Bool := zhZ 6
noncomputable def zyI : Code := zap [1, 1, 1, 1, 1, 0, 1, 0, 0] zmd
def zyH (K : Kt) : AExit → List AV → zaa → Prop := zaq tP zhZ [1, 1, 1, 1, 1, 0, 1, 0] zmd (zal tP zyL K)
def zyJ (t4 t5 t15 t16 t17 : AV) (H : zaa) (K : Kt) : Prop := ALoop tP zyI (zyH K) (zgm t4 t5 t15 t16 t17) H
def zmc (t4 t5 t15 t16 t17 : AV) (H : zaa) (K : Kt) (Kb6 : Lt) : Prop :=
 zad .lss false t17 t16 fun t18 =>
 zag t18
 (zaj 7 t15 t17 fun t19 =>
 zae true 7 t19 H fun t20 =>
 zaC [(.str []), .snil, .snil, (.int .i64 0), (.int .i64 0), .snil, (.int .i64 0)] H fun t7 H =>
 zas 7 t7 t20 H fun H =>
 zae false 1 t4 H fun t21 =>
 zaf 1 t7 fun t22 =>
 zae false 1 t22 H fun t23 =>
 aCallV tP t21 [t23, (.bool true)] H fun t24 H =>
 zae false 1 t4 H fun t25 =>
 zaf 2 t7 fun t26 =>
 zae false 1 t26 H fun t27 =>
 aCallV tP t25 [t27, (.bool true)] H fun t28 H =>
 zae false 1 t5 H fun t29 =>
 zaf 6 t7 fun t30 =>
 zae false 1 t30 H fun t31 =>
 aCallV tP t29 [t31] H fun t32 H =>
 aUn .not t32 fun t33 =>
 zag t33
 (K (.bool false) H)
 (zae false 1 t4 H fun t34 =>
 zaf 1 t7 fun t35 =>
 zae false 1 t35 H fun t36 =>
 aCallV tP t34 [t36, (.bool false)] H fun t37 H =>
 zae false 1 t4 H fun t38 =>
 zaf 2 t7 fun t39 =>
 zae false 1 t39 H fun t40 =>
 aCallV tP t38 [t40, (.bool false)] H fun t41 H =>
 zad .add false t17 (.int .i64 1) fun t42 =>
 Kb6 (zgm t4 t5 t15 t16 t42) H))
 (K (.bool true) H)
def zq3 (t0 : AV) (H : zaa) (K : Kt) : Prop :=
 zaH t0 H fun t1 H =>
 zaf 2 t1 fun t8 =>
 zae false 1 t8 H fun t9 =>
 zak 1 t9 fun t10 =>
 zbd 1 [(.bool false)] t10 t10 H fun t11 H =>
 zaC [.snil] H fun t3 H =>
 zas 1 t3 t11 H fun H =>
 zcx zeC [t3] fun t12 =>
 zaC [.nilfn] H fun t4 H =>
 zas 1 t4 t12 H fun H =>
 zaC [.nilfn] H fun t5 H =>
 zcx zeD [t1, t3, t4, t5] fun t13 =>
 zas 1 t5 t13 H fun H =>
 zaf 1 t1 fun t14 =>
 zae false 1 t14 H fun t15 =>
 zak 1 t15 fun t16 =>
 zyJ t4 t5 t15 t16 (.int .i64 0) H K
theorem zKX (t4 t5 t15 t16 t17 : AV) (H : zaa) (K : Kt) (Kb6 : Lt) : awp tP zhZ zyI (zat zyK Kb6 (zyH K)) (zgm t4 t5 t15 t16 t17) H = zmc t4 t5 t15 t16 t17 H K Kb6 := by kernel_rfl
theorem zKZ {t4 t5 t15 t16 t17 : AV} {H : zaa} {K : Kt} (Inv : Nat → AV → zaa → Prop) (n : Nat) (h0 : HSc H → Inv n t17 H)
  (round : ∀ n t17 H', Inv n t17 H' → HSc H' → H.length ≤ H'.length → (zgm t4 t5 t15 t16 t17).all (AV.sc H'.length) = true → ∀ Kb6 : Lt, (∀ F'' H'', (∃ n', n' < n ∧ Back H.length (fun F2 H2 => ∃ t17, F2 = zgm t4 t5 t15 t16 t17 ∧ Inv n' t17 H2) F'' H'') → Kb6 F'' H'') → zmc t4 t5 t15 t16 t17 H' K Kb6) : zyJ t4 t5 t15 t16 t17 H K :=
 zav (M := zhZ) zyK (fun n F H => ∃ t17, F = zgm t4 t5 t15 t16 t17 ∧ Inv n t17 H) n (fun hs _ => ⟨t17, rfl, h0 hs⟩) (fun n F H' ⟨t17, hF, hI⟩ h1 h2 h3 => by subst hF; rw [zKX]; exact round n t17 H' hI h1 h2 h3 _ (fun _ _ h => h))
theorem zKY (t0 : AV) (H : zaa) (K : Kt) : awp tP zhZ zmd (zal tP zyL K) (t0 :: List.replicate 42 .unk) H = zq3 t0 H K := by kernel_rfl
theorem zK0 {t0 : AV} {H : zaa} {K : Kt} (h : HSc H → zq3 t0 H K) : ACalls tP zoO [t0] H K :=
 zaw (M := zhZ) Try.func46 (c := zmd) (by kernel_rfl) (fun hs => (zKY t0 H K).mpr (h hs))
def zdT : Nat → List Bool
 | 3 => rl false [1,1,1,1,12,3,30]
 | 9 => rl false [3,1,24,3,18]
 | _ => []
noncomputable def zh1 : Code := Try.f47.body.getD .skip
noncomputable def zq5 : List ResultVar := Try.f47.results.toList
def zgn (t1 t3 t16 t17 t18 : AV) : List AV := ux 1 (t1 :: ux 1 (t3 :: ux 12 (t16 :: t17 :: t18 :: ux 30 [])))
def zyS : List Bool := zdT 3
noncomputable def zyO : Code := zap [1, 1, 0, 1, 0, 0] zh1
def zyM (K : Kt) : AExit → List AV → zaa → Prop := zaq tP zdT [1, 1, 0, 1, 0] zh1 (zal tP zq5 K)
def zyQ (t1 t3 t16 t17 t18 : AV) (H : zaa) (K : Kt) : Prop := ALoop tP zyO (zyM K) (zgn t1 t3 t16 t17 t18) H
def zeS (t3 t28 t29 t30 : AV) : List AV := ux 3 (t3 :: ux 24 (t28 :: t29 :: t30 :: ux 18 []))
def zyT : List Bool := zdT 9
noncomputable def zyP : Code := zap [1, 1, 1, 0, 1, 0, 0] zh1
def zyN (K : Kt) : AExit → List AV → zaa → Prop := zaq tP zdT [1, 1, 1, 0, 1, 0] zh1 (zal tP zq5 K)
def zyR (t3 t28 t29 t30 : AV) (H : zaa) (K : Kt) : Prop := ALoop tP zyP (zyN K) (zeS t3 t28 t29 t30) H
def zh0 (t3 t28 t29 t30 : AV) (H : zaa) (K : Kt) (Kb9 : Lt) : Prop :=
 zad .lss false t30 t29 fun t31 =>
 zag t31
 (zaj 7 t28 t30 fun t33 =>
 zae true 7 t33 H fun t34 =>
 zaC [(.str []), .snil, .snil, (.int .i64 0), (.int .i64 0), .snil, (.int .i64 0)] H fun t7 H =>
 zas 7 t7 t34 H fun H =>
 zaf 0 t7 fun t35 =>
 zae false 1 t35 H fun t36 =>
 zad .eql false t36 (.str []) fun t37 =>
 zab t37 true H (fun K' => K' t3 H) fun t39 H =>
 zab t37 true H (fun K' => za2 t39 (K' · H)) fun t40 H =>
 zab t37 true H (fun K' => zaf 4 t40 (K' · H)) fun t41 H =>
 zab t37 true H (fun K' => zae false 1 t41 H (K' · H)) fun t42 H =>
 zab t37 true H (fun K' => K' t30 H) fun t43 H =>
 zab t37 true H (fun K' => zaj 1 t42 t43 (K' · H)) fun t44 H =>
 zab t37 true H (fun K' => zae false 1 t44 H (K' · H)) fun t45 H =>
 zab t37 true H (fun K' => zad .neq false t45 (.int .i64 1) (K' · H)) fun t46 H =>
 zah t37 t46 (.bool false) fun t47 =>
 zag t47
 (K (.bool false) H)
 (zad .add false t30 (.int .i64 1) fun t48 =>
 Kb9 (zeS t3 t28 t29 t48) H))
 (K (.bool true) H)
def zme (t1 t3 t16 t17 t18 : AV) (H : zaa) (K : Kt) (Kb3 : Lt) : Prop :=
 zad .lss false t18 t17 fun t19 =>
 zag t19
 (zaj 8 t16 t18 fun t20 =>
 zae true 8 t20 H fun t21 =>
 zaC [(.int .i64 0), (.int .i64 0), .snil, .snil, .snil, (.int .i64 0), (.int .i64 0), .snil] H fun t5 H =>
 zas 8 t5 t21 H fun H =>
 zae true 8 t5 H fun t23 =>
 ACalls tP zoU [t3, t23] H fun t24 H =>
 aUn .not t24 fun t25 =>
 zag t25
 (K (.bool false) H)
 (zad .add false t18 (.int .i64 1) fun t26 =>
 Kb3 (zgn t1 t3 t16 t17 t26) H))
 (zaf 1 t1 fun t27 =>
 zae false 1 t27 H fun t28 =>
 zak 1 t28 fun t29 =>
 zyR t3 t28 t29 (.int .i64 0) H K)
def zq4 (t0 : AV) (H : zaa) (K : Kt) : Prop :=
 zaH t0 H fun t1 H =>
 zac H (fun K' => zai true 4 t1 H (K' · H)) fun t8 =>
 zac H (fun K' => zaf 1 t1 (K' · H)) fun t9 =>
 zac H (fun K' => zai false 1 t9 H (K' · H)) fun t10 =>
 zac H (fun K' => zak 1 t10 (K' · H)) fun t11 =>
 zbd 8 [(.int .i64 0)] t11 t11 H fun t12 H =>
 zac H (fun K' => zaL [.snil, .snil, .snil, .snil, .snil] [(0, 4), (4, 1)] [(0, t8), (1, t12)] (K' · H)) fun t13 =>
 zaH t13 H fun t14 H =>
 zac H (fun K' => K' t14 H) fun t3 =>
 zaf 3 t1 fun t15 =>
 zae false 1 t15 H fun t16 =>
 zak 1 t16 fun t17 =>
 zyQ t1 t3 t16 t17 (.int .i64 0) H K
theorem zK3 (t3 t28 t29 t30 : AV) (H : zaa) (K : Kt) (Kb9 : Lt) : awp tP zdT zyP (zat zyT Kb9 (zyN K)) (zeS t3 t28 t29 t30) H = zh0 t3 t28 t29 t30 H K Kb9 := by kernel_rfl
theorem zK6 {t3 t28 t29 t30 : AV} {H : zaa} {K : Kt} (Inv : Nat → AV → zaa → Prop) (n : Nat) (h0 : HSc H → Inv n t30 H)
  (round : ∀ n t30 H', Inv n t30 H' → HSc H' → H.length ≤ H'.length → (zeS t3 t28 t29 t30).all (AV.sc H'.length) = true → ∀ Kb9 : Lt, (∀ F'' H'', (∃ n', n' < n ∧ Back H.length (fun F2 H2 => ∃ t30, F2 = zeS t3 t28 t29 t30 ∧ Inv n' t30 H2) F'' H'') → Kb9 F'' H'') → zh0 t3 t28 t29 t30 H' K Kb9) : zyR t3 t28 t29 t30 H K :=
 zav (M := zdT) zyT (fun n F H => ∃ t30, F = zeS t3 t28 t29 t30 ∧ Inv n t30 H) n (fun hs _ => ⟨t30, rfl, h0 hs⟩) (fun n F H' ⟨t30, hF, hI⟩ h1 h2 h3 => by subst hF; rw [zK3]; exact round n t30 H' hI h1 h2 h3 _ (fun _ _ h => h))
theorem zK2 (t1 t3 t16 t17 t18 : AV) (H : zaa) (K : Kt) (Kb3 : Lt) : awp tP zdT zyO (zat zyS Kb3 (zyM K)) (zgn t1 t3 t16 t17 t18) H = zme t1 t3 t16 t17 t18 H K Kb3 := by kernel_rfl
theorem zK5 {t1 t3 t16 t17 t18 : AV} {H : zaa} {K : Kt} (Inv : Nat → AV → zaa → Prop) (n : Nat) (h0 : HSc H → Inv n t18 H)
  (round : ∀ n t18 H', Inv n t18 H' → HSc H' → H.length ≤ H'.length → (zgn t1 t3 t16 t17 t18).all (AV.sc H'.length) = true → ∀ Kb3 : Lt, (∀ F'' H'', (∃ n', n' < n ∧ Back H.length (fun F2 H2 => ∃ t18, F2 = zgn t1 t3 t16 t17 t18 ∧ Inv n' t18 H2) F'' H'') → Kb3 F'' H'') → zme t1 t3 t16 t17 t18 H' K Kb3) : zyQ t1 t3 t16 t17 t18 H K :=
 zav (M := zdT) zyS (fun n F H => ∃ t18, F = zgn t1 t3 t16 t17 t18 ∧ Inv n t18 H) n (fun hs _ => ⟨t18, rfl, h0 hs⟩) (fun n F H' ⟨t18, hF, hI⟩ h1 h2 h3 => by subst hF; rw [zK2]; exact round n t18 H' hI h1 h2 h3 _ (fun _ _ h => h))
theorem zK4 (t0 : AV) (H : zaa) (K : Kt) : awp tP zdT zh1 (zal tP zq5 K) (t0 :: List.replicate 48 .unk) H = zq4 t0 H K := by kernel_rfl
theorem zK7 {t0 : AV} {H : zaa} {K : Kt} (h : HSc H → zq4 t0 H K) : ACalls tP zoP [t0] H K :=
 zaw (M := zdT) Try.func47 (c := zh1) (by kernel_rfl) (fun hs => (zK4 t0 H K).mpr (h hs))
def zid : Nat → List Bool
 | 6 => rl false [0,2,6,1,18,3,29]
 | _ => []
noncomputable def zmS : Code := Try.f67.body.getD .skip
noncomputable def zAD : List ResultVar := Try.f67.results.toList
def zeV (t0 t1 t8 t27 t28 t29 : AV) : List AV := t0 :: t1 :: ux 6 (t8 :: ux 18 (t27 :: t28 :: t29 :: ux 29 []))
def zAC : List Bool := zid 6
noncomputable def zAA : Code := zap [1, 1, 1, 1, 0, 1, 0, 0] zmS
def zAz (K : Kt) : AExit → List AV → zaa → Prop := zaq tP zid [1, 1, 1, 1, 0, 1, 0] zmS (zal tP zAD K)
def zAB (t0 t1 t8 t27 t28 t29 : AV) (H : zaa) (K : Kt) : Prop := ALoop tP zAA (zAz K) (zeV t0 t1 t8 t27 t28 t29) H
def zmR (t0 t1 t8 t27 t28 t29 : AV) (H : zaa) (K : Kt) (Kb6 : Lt) : Prop :=
 zad .lss false t29 t28 fun t30 =>
 zag t30
 (zaj 3 t27 t29 fun t32 =>
 zae true 3 t32 H fun t33 =>
 zaC [(.int .i64 0), (.int .i64 0), .snil] H fun t10 H =>
 zas 3 t10 t33 H fun H =>
 zac H (fun K' => K' t0 H) fun t34 =>
 zac H (fun K' => K' t1 H) fun t35 =>
 zac H (fun K' => zad .add false t35 (.int .i64 1) (K' · H)) fun t36 =>
 zac H (fun K' => za0 1 3 t34 none (some t36) (K' · H)) fun t37 =>
 zac H (fun K' => zai true 3 t10 H (K' · H)) fun t38 =>
 zac H (fun K' => K' t0 H) fun t39 =>
 zac H (fun K' => K' t1 H) fun t40 =>
 zac H (fun K' => zaj 3 t39 t40 (K' · H)) fun t41 =>
 zac H (fun K' => zaf 1 t41 (K' · H)) fun t42 =>
 zac H (fun K' => zai false 1 t42 H (K' · H)) fun t43 =>
 zay H (fun H K' => ACalls tP zhn [t37, t38, t43] H K') fun t44 =>
 zac H (fun K' => aUn .not t44 (K' · H)) fun t45 =>
 zac H (fun K' => K' t45 H) fun t46 =>
 zab t46 false H (fun K' => zac H (fun K'' => K'' t8 H) (K' · H)) fun t47 H =>
 zab t46 false H (fun K' => zac H (fun K'' => K'' t29 H) (K' · H)) fun t48 H =>
 zab t46 false H (fun K' => zac H (fun K'' => zaj 1 t47 t48 (K'' · H)) (K' · H)) fun t49 H =>
 zab t46 false H (fun K' => zac H (fun K'' => zai false 1 t49 H (K'' · H)) (K' · H)) fun t50 H =>
 zab t46 false H (fun K' => zac H (fun K'' => aUn .not t50 (K'' · H)) (K' · H)) fun t51 H =>
 zab t46 false H (fun K' => zac H (fun K'' => K'' t51 H) (K' · H)) fun t52 H =>
 zab t52 true H (fun K' => zac H (fun K'' => zai true 3 t10 H (K'' · H)) (K' · H)) fun t53 H =>
 zab t52 true H (fun K' => zac H (fun K'' => K'' t1 H) (K' · H)) fun t54 H =>
 zab t52 true H (fun K' => zay H (fun H K'' => ACalls tP zkt [t53, t54] H K'') (K' · H)) fun t55 H =>
 zab t46 false H (fun K' => zac H (fun K'' => zah t52 t55 (.bool false) (K'' · H)) (K' · H)) fun t56 H =>
 zac H (fun K' => zah t46 (.bool true) t56 (K' · H)) fun t57 =>
 zag t57
 (K (.bool false) H)
 (zad .add false t29 (.int .i64 1) fun t58 =>
 Kb6 (zeV t0 t1 t8 t27 t28 t58) H))
 (K (.bool true) H)
def zrF (t0 t1 t2 : AV) (H : zaa) (K : Kt) : Prop :=
 zaj 3 t0 t1 fun t13 =>
 zaf 2 t13 fun t14 =>
 zae false 1 t14 H fun t15 =>
 zaj 2 t15 t2 fun t17 =>
 zaf 1 t17 fun t18 =>
 zae false 1 t18 H fun t19 =>
 zak 1 t19 fun t21 =>
 zad .gtr false t21 (.int .i64 6) fun t22 =>
 zag t22
 (K (.bool false) H)
 (ACalls tP zoX [t0, t1, t2] H fun t26 H =>
 zak 1 t19 fun t28 =>
 zAB t0 t1 t26 t19 t28 (.int .i64 0) H K)
theorem zMC (t0 t1 t8 t27 t28 t29 : AV) (H : zaa) (K : Kt) (Kb6 : Lt) : awp tP zid zAA (zat zAC Kb6 (zAz K)) (zeV t0 t1 t8 t27 t28 t29) H = zmR t0 t1 t8 t27 t28 t29 H K Kb6 := by kernel_rfl
theorem zME {t0 t1 t8 t27 t28 t29 : AV} {H : zaa} {K : Kt} (Inv : Nat → AV → zaa → Prop) (n : Nat) (h0 : HSc H → Inv n t29 H)
  (round : ∀ n t29 H', Inv n t29 H' → HSc H' → H.length ≤ H'.length → (zeV t0 t1 t8 t27 t28 t29).all (AV.sc H'.length) = true → ∀ Kb6 : Lt, (∀ F'' H'', (∃ n', n' < n ∧ Back H.length (fun F2 H2 => ∃ t29, F2 = zeV t0 t1 t8 t27 t28 t29 ∧ Inv n' t29 H2) F'' H'') → Kb6 F'' H'') → zmR t0 t1 t8 t27 t28 t29 H' K Kb6) : zAB t0 t1 t8 t27 t28 t29 H K :=
 zav (M := zid) zAC (fun n F H => ∃ t29, F = zeV t0 t1 t8 t27 t28 t29 ∧ Inv n t29 H) n (fun hs _ => ⟨t29, rfl, h0 hs⟩) (fun n F H' ⟨t29, hF, hI⟩ h1 h2 h3 => by subst hF; rw [zMC]; exact round n t29 H' hI h1 h2 h3 _ (fun _ _ h => h))
theorem zMD (t0 t1 t2 : AV) (H : zaa) (K : Kt) : awp tP zid zmS (zal tP zAD K) (t0 :: t1 :: t2 :: List.replicate 56 .unk) H = zrF t0 t1 t2 H K := by kernel_rfl
theorem zMF {t0 t1 t2 : AV} {H : zaa} {K : Kt} (h : HSc H → zrF t0 t1 t2 H K) : ACalls tP zoS [t0, t1, t2] H K :=
 zaw (M := zid) Try.func67 (c := zmS) (by kernel_rfl) (fun hs => (zMD t0 t1 t2 H K).mpr (h hs))
def zAG (_ : Nat) : List Bool := []
noncomputable def zAH : Code := Try.f69.body.getD .skip
noncomputable def zMM : List ResultVar := Try.f69.results.toList
def zrH (t0 t1 : AV) (H : zaa) (K : Kt) : Prop :=
 zaH t0 H fun t2 H =>
 zaf 0 t1 fun t4 =>
 zae false 1 t4 H fun t5 =>
 zae true 3 t2 H fun t6 =>
 ACalls tP zhn [t5, t6, (.int .i64 0)] H fun t7 H =>
 aUn .not t7 fun t8 =>
 K t8 H
theorem zMK (t0 t1 : AV) (H : zaa) (K : Kt) : awp tP zAG zAH (zal tP zMM K) (t0 :: t1 :: List.replicate 7 .unk) H = zrH t0 t1 H K := by kernel_rfl
theorem zML {t0 t1 : AV} {H : zaa} {K : Kt} (h : HSc H → zrH t0 t1 H K) : ACalls tP zoT [t0, t1] H K :=
 zaw (M := zAG) Try.func69 (c := zAH) (by kernel_rfl) (fun hs => (zMK t0 t1 H K).mpr (h hs))
def zAM (_ : Nat) : List Bool := []
noncomputable def zAN : Code := Try.f72.body.getD .skip
noncomputable def zMV : List ResultVar := Try.f72.results.toList
def zmV (t0 t1 t2 : AV) (H : zaa) (K : Kt) : Prop :=
 zae false 1 t1 H fun t5 =>
 zaj 1 t5 t0 fun t7 =>
 zae false 1 t7 H fun t8 =>
 zag t8
 (K (.bool false) H)
 (zae false 1 t1 H fun t9 =>
 zaj 1 t9 t0 fun t11 =>
 zas 1 t11 (.bool true) H fun H =>
 zae false 1 t2 H fun t12 =>
 zad .add false t12 (.int .i64 1) fun t13 =>
 zas 1 t2 t13 H fun H =>
 K (.bool true) H)
theorem zMT (t0 t1 t2 : AV) (H : zaa) (K : Kt) : awp tP zAM zAN (zal tP zMV K) (t0 :: t1 :: t2 :: List.replicate 11 .unk) H = zmV t0 t1 t2 H K := by kernel_rfl
theorem zMU {t0 t1 t2 : AV} {H : zaa} {K : Kt} (h : HSc H → zmV t0 t1 t2 H K) : ACalls tP zkp [t0, t1, t2] H K :=
 zaw (M := zAM) Try.func72 (c := zAN) (by kernel_rfl) (fun hs => (zMT t0 t1 t2 H K).mpr (h hs))
def zie : Nat → List Bool
 | 2 => rl false [1,2,4,3,23]
 | _ => []
noncomputable def zmW : Code := Try.f73.body.getD .skip
noncomputable def zAS : List ResultVar := Try.f73.results.toList
def zgJ (t1 t2 t7 t8 t9 : AV) : List AV := ux 1 (t1 :: t2 :: ux 4 (t7 :: t8 :: t9 :: ux 23 []))
def zAR : List Bool := zie 2
noncomputable def zAP : Code := zap [1, 0, 1, 0, 0] zmW
def zAO (K : Kt) : AExit → List AV → zaa → Prop := zaq tP zie [1, 0, 1, 0] zmW (zal tP zAS K)
def zAQ (t1 t2 t7 t8 t9 : AV) (H : zaa) (K : Kt) : Prop := ALoop tP zAP (zAO K) (zgJ t1 t2 t7 t8 t9) H
def zgI (t1 t2 t7 t8 t9 : AV) (H : zaa) (K : Kt) (Kb2 : Lt) : Prop :=
 zad .lss false t9 t8 fun t10 =>
 zag t10
 (zaj 1 t7 t9 fun t11 =>
 zae false 1 t11 H fun t12 =>
 zad .lss false t12 (.int .i64 0) fun t14 =>
 zab t14 false H (fun K' => K' t12 H) fun t16 H =>
 zab t14 false H (fun K' => zae false 1 t1 H (K' · H)) fun t17 H =>
 zab t14 false H (fun K' => zak 1 t17 (K' · H)) fun t18 H =>
 zab t14 false H (fun K' => zad .geq false t16 t18 (K' · H)) fun t19 H =>
 zah t14 (.bool true) t19 fun t20 =>
 zab t20 false H (fun K' => zae false 1 t1 H (K' · H)) fun t22 H =>
 zab t20 false H (fun K' => K' t12 H) fun t23 H =>
 zab t20 false H (fun K' => zaj 1 t22 t23 (K' · H)) fun t24 H =>
 zab t20 false H (fun K' => zae false 1 t24 H (K' · H)) fun t25 H =>
 zah t20 (.bool true) t25 fun t26 =>
 zag t26
 (K (.bool false) H)
 (zae false 1 t1 H fun t27 =>
 zaj 1 t27 t12 fun t29 =>
 zas 1 t29 (.bool true) H fun H =>
 zae false 1 t2 H fun t30 =>
 zad .add false t30 (.int .i64 1) fun t31 =>
 zas 1 t2 t31 H fun H =>
 zad .add false t9 (.int .i64 1) fun t32 =>
 Kb2 (zgJ t1 t2 t7 t8 t32) H))
 (K (.bool true) H)
def zrK (t0 t1 t2 : AV) (H : zaa) (K : Kt) : Prop :=
 zak 1 t0 fun t8 =>
 zAQ t1 t2 t0 t8 (.int .i64 0) H K
theorem zMW (t1 t2 t7 t8 t9 : AV) (H : zaa) (K : Kt) (Kb2 : Lt) : awp tP zie zAP (zat zAR Kb2 (zAO K)) (zgJ t1 t2 t7 t8 t9) H = zgI t1 t2 t7 t8 t9 H K Kb2 := by kernel_rfl
theorem zMY {t1 t2 t7 t8 t9 : AV} {H : zaa} {K : Kt} (Inv : Nat → AV → zaa → Prop) (n : Nat) (h0 : HSc H → Inv n t9 H)
  (round : ∀ n t9 H', Inv n t9 H' → HSc H' → H.length ≤ H'.length → (zgJ t1 t2 t7 t8 t9).all (AV.sc H'.length) = true → ∀ Kb2 : Lt, (∀ F'' H'', (∃ n', n' < n ∧ Back H.length (fun F2 H2 => ∃ t9, F2 = zgJ t1 t2 t7 t8 t9 ∧ Inv n' t9 H2) F'' H'') → Kb2 F'' H'') → zgI t1 t2 t7 t8 t9 H' K Kb2) : zAQ t1 t2 t7 t8 t9 H K :=
 zav (M := zie) zAR (fun n F H => ∃ t9, F = zgJ t1 t2 t7 t8 t9 ∧ Inv n t9 H) n (fun hs _ => ⟨t9, rfl, h0 hs⟩) (fun n F H' ⟨t9, hF, hI⟩ h1 h2 h3 => by subst hF; rw [zMW]; exact round n t9 H' hI h1 h2 h3 _ (fun _ _ h => h))
theorem zMX (t0 t1 t2 : AV) (H : zaa) (K : Kt) : awp tP zie zmW (zal tP zAS K) (t0 :: t1 :: t2 :: List.replicate 30 .unk) H = zrK t0 t1 t2 H K := by kernel_rfl
theorem zMZ {t0 t1 t2 : AV} {H : zaa} {K : Kt} (h : HSc H → zrK t0 t1 t2 H K) : ACalls tP zkq [t0, t1, t2] H K :=
 zaw (M := zie) Try.func73 (c := zmW) (by kernel_rfl) (fun hs => (zMX t0 t1 t2 H K).mpr (h hs))
def zif : Nat → List Bool
 | 1 => rl false [1,2,4,3,8]
 | _ => []
noncomputable def zmY : Code := Try.f74.body.getD .skip
noncomputable def zAX : List ResultVar := Try.f74.results.toList
def zgK (t1 t2 t7 t8 t9 : AV) : List AV := ux 1 (t1 :: t2 :: ux 4 (t7 :: t8 :: t9 :: ux 8 []))
def zAW : List Bool := zif 1
noncomputable def zAU : Code := zap [1, 0, 0] zmY
def zAT (K : Kt) : AExit → List AV → zaa → Prop := zaq tP zif [1, 0] zmY (zal tP zAX K)
def zAV (t1 t2 t7 t8 t9 : AV) (H : zaa) (K : Kt) : Prop := ALoop tP zAU (zAT K) (zgK t1 t2 t7 t8 t9) H
def zmX (t1 t2 t7 t8 t9 : AV) (H : zaa) (K : Kt) (Kb1 : Lt) : Prop :=
 zad .lss false t9 t8 fun t10 =>
 zag t10
 (zaj 1 t7 t9 fun t11 =>
 zae false 1 t11 H fun t12 =>
 zae false 1 t2 H fun t13 =>
 zaj 1 t13 t12 fun t16 =>
 zas 1 t16 t1 H fun H =>
 zad .add false t9 (.int .i64 1) fun t17 =>
 Kb1 (zgK t1 t2 t7 t8 t17) H)
 (zaY [] (K · H))
def zrL (t0 t1 t2 : AV) (H : zaa) (K : Kt) : Prop :=
 zak 1 t0 fun t8 =>
 zAV t1 t2 t0 t8 (.int .i64 0) H K
theorem zM0 (t1 t2 t7 t8 t9 : AV) (H : zaa) (K : Kt) (Kb1 : Lt) : awp tP zif zAU (zat zAW Kb1 (zAT K)) (zgK t1 t2 t7 t8 t9) H = zmX t1 t2 t7 t8 t9 H K Kb1 := by kernel_rfl
theorem zM2 {t1 t2 t7 t8 t9 : AV} {H : zaa} {K : Kt} (Inv : Nat → AV → zaa → Prop) (n : Nat) (h0 : HSc H → Inv n t9 H)
  (round : ∀ n t9 H', Inv n t9 H' → HSc H' → H.length ≤ H'.length → (zgK t1 t2 t7 t8 t9).all (AV.sc H'.length) = true → ∀ Kb1 : Lt, (∀ F'' H'', (∃ n', n' < n ∧ Back H.length (fun F2 H2 => ∃ t9, F2 = zgK t1 t2 t7 t8 t9 ∧ Inv n' t9 H2) F'' H'') → Kb1 F'' H'') → zmX t1 t2 t7 t8 t9 H' K Kb1) : zAV t1 t2 t7 t8 t9 H K :=
 zav (M := zif) zAW (fun n F H => ∃ t9, F = zgK t1 t2 t7 t8 t9 ∧ Inv n t9 H) n (fun hs _ => ⟨t9, rfl, h0 hs⟩) (fun n F H' ⟨t9, hF, hI⟩ h1 h2 h3 => by subst hF; rw [zM0]; exact round n t9 H' hI h1 h2 h3 _ (fun _ _ h => h))
theorem zM1 (t0 t1 t2 : AV) (H : zaa) (K : Kt) : awp tP zif zmY (zal tP zAX K) (t0 :: t1 :: t2 :: List.replicate 15 .unk) H = zrL t0 t1 t2 H K := by kernel_rfl
theorem zM3 {t0 t1 t2 : AV} {H : zaa} {K : Kt} (h : HSc H → zrL t0 t1 t2 H K) : ACalls tP zeC [t0, t1, t2] H K :=
 zaw (M := zif) Try.func74 (c := zmY) (by kernel_rfl) (fun hs => (zM1 t0 t1 t2 H K).mpr (h hs))
def zdW : Nat → List Bool
 | 3 => rl false [2,3,2,1,10,3,46]
 | 9 => rl false [3,2,2,1,33,3,23]
 | 200011 => rl false [0,1]
 | 200014 => rl false [0,1]
 | _ => []
noncomputable def zig : Code := Try.f75.body.getD .skip
noncomputable def zrN : List ResultVar := Try.f75.results.toList
def zgM (t2 t3 t4 t7 t18 t19 t20 : AV) : List AV := ux 2 (t2 :: t3 :: t4 :: ux 2 (t7 :: ux 10 (t18 :: t19 :: t20 :: ux 46 [])))
def zA4 : List Bool := zdW 3
noncomputable def zA0 : Code := zap [1, 1, 0, 1, 0, 0] zig
def zAY (K : Kt) : AExit → List AV → zaa → Prop := zaq tP zdW [1, 1, 0, 1, 0] zig (zal tP zrN K)
def zA2 (t2 t3 t4 t7 t18 t19 t20 : AV) (H : zaa) (K : Kt) : Prop := ALoop tP zA0 (zAY K) (zgM t2 t3 t4 t7 t18 t19 t20) H
def zgN (t3 t4 t7 t41 t42 t43 : AV) : List AV := ux 3 (t3 :: t4 :: ux 2 (t7 :: ux 33 (t41 :: t42 :: t43 :: ux 23 [])))
def zA5 : List Bool := zdW 9
noncomputable def zA1 : Code := zap [1, 1, 1, 0, 1, 0, 0] zig
def zAZ (K : Kt) : AExit → List AV → zaa → Prop := zaq tP zdW [1, 1, 1, 0, 1, 0] zig (zal tP zrN K)
def zA3 (t3 t4 t7 t41 t42 t43 : AV) (H : zaa) (K : Kt) : Prop := ALoop tP zA1 (zAZ K) (zgN t3 t4 t7 t41 t42 t43) H
def zmZ (t3 t4 t7 t41 t42 t43 : AV) (H : zaa) (K : Kt) (Kb9 : Lt) : Prop :=
 zad .lss false t43 t42 fun t44 =>
 zag t44
 (zaj 1 t41 t43 fun t46 =>
 zae false 1 t46 H fun t47 =>
 zac H (fun K' => zai false 1 t3 H (K' · H)) fun t48 =>
 zac H (fun K' => zaf 3 t7 (K' · H)) fun t49 =>
 zac H (fun K' => zai false 1 t49 H (K' · H)) fun t50 =>
 zac H (fun K' => K' t43 H) fun t51 =>
 zac H (fun K' => zaj 1 t50 t51 (K' · H)) fun t52 =>
 zac H (fun K' => zai false 1 t52 H (K' · H)) fun t53 =>
 zbv .w false H (fun K' => aCallV tP t48 [t53, (.bool true)] H K') fun t54 H =>
 zae false 1 t4 H fun t55 =>
 aCallV tP t55 [t47] H fun t57 H =>
 aUn .not t57 fun t58 =>
 zag t58
 (K (.bool false) H)
 (zac H (fun K' => zai false 1 t3 H (K' · H)) fun t59 =>
 zac H (fun K' => zaf 3 t7 (K' · H)) fun t60 =>
 zac H (fun K' => zai false 1 t60 H (K' · H)) fun t61 =>
 zac H (fun K' => K' t43 H) fun t62 =>
 zac H (fun K' => zaj 1 t61 t62 (K' · H)) fun t63 =>
 zac H (fun K' => zai false 1 t63 H (K' · H)) fun t64 =>
 zbv .w false H (fun K' => aCallV tP t59 [t64, (.bool false)] H K') fun t65 H =>
 zad .add false t43 (.int .i64 1) fun t66 =>
 Kb9 (zgN t3 t4 t7 t41 t42 t66) H))
 (K (.bool true) H)
def zgL (t2 t3 t4 t7 t18 t19 t20 : AV) (H : zaa) (K : Kt) (Kb3 : Lt) : Prop :=
 zad .lss false t20 t19 fun t21 =>
 zag t21
 (zaj 1 t18 t20 fun t22 =>
 zae false 1 t22 H fun t23 =>
 zad .lss false t23 (.int .i64 0) fun t25 =>
 zab t25 false H (fun K' => K' t23 H) fun t27 H =>
 zab t25 false H (fun K' => zae false 1 t2 H (K' · H)) fun t28 H =>
 zab t25 false H (fun K' => zak 1 t28 (K' · H)) fun t29 H =>
 zab t25 false H (fun K' => zad .geq false t27 t29 (K' · H)) fun t30 H =>
 zah t25 (.bool true) t30 fun t31 =>
 zab t31 false H (fun K' => zae false 1 t2 H (K' · H)) fun t33 H =>
 zab t31 false H (fun K' => K' t23 H) fun t34 H =>
 zab t31 false H (fun K' => zaj 1 t33 t34 (K' · H)) fun t35 H =>
 zab t31 false H (fun K' => zae false 1 t35 H (K' · H)) fun t36 H =>
 zab t31 false H (fun K' => aUn .not t36 (K' · H)) fun t37 H =>
 zah t31 (.bool true) t37 fun t38 =>
 zag t38
 (K (.bool false) H)
 (zad .add false t20 (.int .i64 1) fun t39 =>
 Kb3 (zgM t2 t3 t4 t7 t18 t19 t39) H))
 (zaf 4 t7 fun t40 =>
 zae false 1 t40 H fun t41 =>
 zak 1 t41 fun t42 =>
 zA3 t3 t4 t7 t41 t42 (.int .i64 0) H K)
def zrM (t0 t1 t2 t3 t4 : AV) (H : zaa) (K : Kt) : Prop :=
 zaf 3 t1 fun t12 =>
 zae false 1 t12 H fun t13 =>
 zaj 8 t13 t0 fun t15 =>
 zae true 8 t15 H fun t16 =>
 zaC [(.int .i64 0), (.int .i64 0), .snil, .snil, .snil, (.int .i64 0), (.int .i64 0), .snil] H fun t7 H =>
 zas 8 t7 t16 H fun H =>
 zaf 2 t7 fun t17 =>
 zae false 1 t17 H fun t18 =>
 zak 1 t18 fun t19 =>
 zA2 t2 t3 t4 t7 t18 t19 (.int .i64 0) H K
theorem zM5 (t3 t4 t7 t41 t42 t43 : AV) (H : zaa) (K : Kt) (Kb9 : Lt) : awp tP zdW zA1 (zat zA5 Kb9 (zAZ K)) (zgN t3 t4 t7 t41 t42 t43) H = zmZ t3 t4 t7 t41 t42 t43 H K Kb9 := by kernel_rfl
theorem zM8 {t3 t4 t7 t41 t42 t43 : AV} {H : zaa} {K : Kt} (Inv : Nat → AV → zaa → Prop) (n : Nat) (h0 : HSc H → Inv n t43 H)
  (round : ∀ n t43 H', Inv n t43 H' → HSc H' → H.length ≤ H'.length → (zgN t3 t4 t7 t41 t42 t43).all (AV.sc H'.length) = true → ∀ Kb9 : Lt, (∀ F'' H'', (∃ n', n' < n ∧ Back H.length (fun F2 H2 => ∃ t43, F2 = zgN t3 t4 t7 t41 t42 t43 ∧ Inv n' t43 H2) F'' H'') → Kb9 F'' H'') → zmZ t3 t4 t7 t41 t42 t43 H' K Kb9) : zA3 t3 t4 t7 t41 t42 t43 H K :=
 zav (M := zdW) zA5 (fun n F H => ∃ t43, F = zgN t3 t4 t7 t41 t42 t43 ∧ Inv n t43 H) n (fun hs _ => ⟨t43, rfl, h0 hs⟩) (fun n F H' ⟨t43, hF, hI⟩ h1 h2 h3 => by subst hF; rw [zM5]; exact round n t43 H' hI h1 h2 h3 _ (fun _ _ h => h))
theorem zM4 (t2 t3 t4 t7 t18 t19 t20 : AV) (H : zaa) (K : Kt) (Kb3 : Lt) : awp tP zdW zA0 (zat zA4 Kb3 (zAY K)) (zgM t2 t3 t4 t7 t18 t19 t20) H = zgL t2 t3 t4 t7 t18 t19 t20 H K Kb3 := by kernel_rfl
theorem zM7 {t2 t3 t4 t7 t18 t19 t20 : AV} {H : zaa} {K : Kt} (Inv : Nat → AV → zaa → Prop) (n : Nat) (h0 : HSc H → Inv n t20 H)
  (round : ∀ n t20 H', Inv n t20 H' → HSc H' → H.length ≤ H'.length → (zgM t2 t3 t4 t7 t18 t19 t20).all (AV.sc H'.length) = true → ∀ Kb3 : Lt, (∀ F'' H'', (∃ n', n' < n ∧ Back H.length (fun F2 H2 => ∃ t20, F2 = zgM t2 t3 t4 t7 t18 t19 t20 ∧ Inv n' t20 H2) F'' H'') → Kb3 F'' H'') → zgL t2 t3 t4 t7 t18 t19 t20 H' K Kb3) : zA2 t2 t3 t4 t7 t18 t19 t20 H K :=
 zav (M := zdW) zA4 (fun n F H => ∃ t20, F = zgM t2 t3 t4 t7 t18 t19 t20 ∧ Inv n t20 H) n (fun hs _ => ⟨t20, rfl, h0 hs⟩) (fun n F H' ⟨t20, hF, hI⟩ h1 h2 h3 => by subst hF; rw [zM4]; exact round n t20 H' hI h1 h2 h3 _ (fun _ _ h => h))
theorem zM6 (t0 t1 t2 t3 t4 : AV) (H : zaa) (K : Kt) : awp tP zdW zig (zal tP zrN K) (t0 :: t1 :: t2 :: t3 :: t4 :: List.replicate 62 .unk) H = zrM t0 t1 t2 t3 t4 H K := by kernel_rfl
theorem zM9 {t0 t1 t2 t3 t4 : AV} {H : zaa} {K : Kt} (h : HSc H → zrM t0 t1 t2 t3 t4 H K) : ACalls tP zeD [t0, t1, t2, t3, t4] H K :=
 zaw (M := zdW) Try.func75 (c := zig) (by kernel_rfl) (fun hs => (zM6 t0 t1 t2 t3 t4 H K).mpr (h hs))
def zCg (_ : Nat) : List Bool := []
noncomputable def zCh : Code := Try.f91.body.getD .skip
noncomputable def zOo : List ResultVar := Try.f91.results.toList
def zjC (t0 t1 t2 : AV) (H : zaa) (K : Kt) : Prop :=
 zaH t0 H fun t3 H =>
 zad .lss false t1 (.int .i64 0) fun t8 =>
 zab t8 false H (fun K' => zaf 2 t3 (K' · H)) fun t10 H =>
 zab t8 false H (fun K' => zae false 1 t10 H (K' · H)) fun t11 H =>
 zab t8 false H (fun K' => zak 1 t11 (K' · H)) fun t12 H =>
 zab t8 false H (fun K' => K' t1 H) fun t13 H =>
 zab t8 false H (fun K' => zad .eql false t12 t13 (K' · H)) fun t14 H =>
 zah t8 (.bool true) t14 fun t15 =>
 zab t15 true H (fun K' => zaf 4 t3 (K' · H)) fun t17 H =>
 zab t15 true H (fun K' => zae false 1 t17 H (K' · H)) fun t18 H =>
 zab t15 true H (fun K' => zak 1 t18 (K' · H)) fun t19 H =>
 zab t15 true H (fun K' => K' t2 H) fun t20 H =>
 zab t15 true H (fun K' => zad .eql false t19 t20 (K' · H)) fun t21 H =>
 zah t15 t21 (.bool false) fun t22 =>
 K t22 H
theorem zOm (t0 t1 t2 : AV) (H : zaa) (K : Kt) : awp tP zCg zCh (zal tP zOo K) (t0 :: t1 :: t2 :: List.replicate 20 .unk) H = zjC t0 t1 t2 H K := by kernel_rfl
theorem zOn {t0 t1 t2 : AV} {H : zaa} {K : Kt} (h : HSc H → zjC t0 t1 t2 H K) : ACalls tP zcs [t0, t1, t2] H K :=
 zaw (M := zCg) Try.func91 (c := zCh) (by kernel_rfl) (fun hs => (zOm t0 t1 t2 H K).mpr (h hs))
def zCr (_ : Nat) : List Bool := []
noncomputable def zCs : Code := Try.f92.body.getD .skip
noncomputable def zOz : List ResultVar := Try.f92.results.toList
def zsf (t0 : AV) (H : zaa) (K : Kt) : Prop :=
 zaC [(.int .i64 0), (.int .i64 0), .snil] H fun t2 H =>
 zaL [(.int .i64 0), (.int .i64 0), .snil] [(0, 1), (1, 1), (2, 1)] [(0, t0)] fun t4 =>
 zas 3 t2 t4 H fun H =>
 zae true 3 t2 H fun r0 =>
 K r0 H
theorem zOx (t0 : AV) (H : zaa) (K : Kt) : awp tP zCr zCs (zal tP zOz K) (t0 :: List.replicate 4 .unk) H = zsf t0 H K := by kernel_rfl
theorem zOy {t0 : AV} {H : zaa} {K : Kt} (h : HSc H → zsf t0 H K) : ACalls tP zct [t0] H K :=
 zaw (M := zCr) Try.func92 (c := zCs) (by kernel_rfl) (fun hs => (zOx t0 H K).mpr (h hs))
def zCt (_ : Nat) : List Bool := []
noncomputable def zCu : Code := Try.f93.body.getD .skip
noncomputable def zOC : List ResultVar := Try.f93.results.toList
def znx (t0 t1 : AV) (H : zaa) (K : Kt) : Prop :=
 aUn .neg t1 fun t6 =>
 zad .leq false t6 t0 fun t8 =>
 zab t8 true H (fun K' => K' t0 H) fun t10 H =>
 zab t8 true H (fun K' => K' t1 H) fun t11 H =>
 zab t8 true H (fun K' => zad .leq false t10 t11 (K' · H)) fun t12 H =>
 zah t8 t12 (.bool false) fun t13 =>
 K t13 H
theorem zOA (t0 t1 : AV) (H : zaa) (K : Kt) : awp tP zCt zCu (zal tP zOC K) (t0 :: t1 :: List.replicate 12 .unk) H = znx t0 t1 H K := by kernel_rfl
theorem zOB {t0 t1 : AV} {H : zaa} {K : Kt} (h : HSc H → znx t0 t1 H K) : ACalls tP zkw [t0, t1] H K :=
 zaw (M := zCt) Try.func93 (c := zCu) (by kernel_rfl) (fun hs => (zOA t0 t1 H K).mpr (h hs))
def zCv (_ : Nat) : List Bool := []
noncomputable def zCw : Code := Try.f94.body.getD .skip
noncomputable def zOF : List ResultVar := Try.f94.results.toList
def zsg (t0 t1 t2 : AV) (H : zaa) (K : Kt) : Prop :=
 ACalls tP zd8 [t0, t1] H fun t9 H =>
 ACalls tP zkv [t9, t2, (.fn zbG [])] H fun t11 H =>
 K t11 H
theorem zOD (t0 t1 t2 : AV) (H : zaa) (K : Kt) : awp tP zCv zCw (zal tP zOF K) (t0 :: t1 :: t2 :: List.replicate 9 .unk) H = zsg t0 t1 t2 H K := by kernel_rfl
theorem zOE {t0 t1 t2 : AV} {H : zaa} {K : Kt} (h : HSc H → zsg t0 t1 t2 H K) : ACalls tP zb9 [t0, t1, t2] H K :=
 zaw (M := zCv) Try.func94 (c := zCw) (by kernel_rfl) (fun hs => (zOD t0 t1 t2 H K).mpr (h hs))
def zCx (_ : Nat) : List Bool := []
noncomputable def zCy : Code := Try.f95.body.getD .skip
noncomputable def zOI : List ResultVar := Try.f95.results.toList
def zsh (t0 t1 : AV) (H : zaa) (K : Kt) : Prop :=
 zaC [(.int .i64 0), (.int .i64 0), .snil] H fun t4 H =>
 zaL [(.int .i64 0), (.int .i64 0), .snil] [(0, 1), (1, 1), (2, 1)] [(0, t0), (2, t1)] fun t7 =>
 zas 3 t4 t7 H fun H =>
 zae true 3 t4 H fun r0 =>
 K r0 H
theorem zOG (t0 t1 : AV) (H : zaa) (K : Kt) : awp tP zCx zCy (zal tP zOI K) (t0 :: t1 :: List.replicate 6 .unk) H = zsh t0 t1 H K := by kernel_rfl
theorem zOH {t0 t1 : AV} {H : zaa} {K : Kt} (h : HSc H → zsh t0 t1 H K) : ACalls tP zd7 [t0, t1] H K :=
 zaw (M := zCx) Try.func95 (c := zCy) (by kernel_rfl) (fun hs => (zOG t0 t1 H K).mpr (h hs))
def ziu : Nat → List Bool
 | 3 => rl false [0,1,4,1,2,3,16]
 | _ => []
noncomputable def znz : Code := Try.f96.body.getD .skip
noncomputable def zCD : List ResultVar := Try.f96.results.toList
def zg2 (t0 t5 t8 t9 t10 : AV) : List AV := t0 :: ux 4 (t5 :: ux 2 (t8 :: t9 :: t10 :: ux 16 []))
def zCC : List Bool := ziu 3
noncomputable def zCA : Code := zap [1, 1, 0, 1, 0, 0] znz
def zCz (K : Kt) : AExit → List AV → zaa → Prop := zaq tP ziu [1, 1, 0, 1, 0] znz (zal tP zCD K)
def zCB (t0 t5 t8 t9 t10 : AV) (H : zaa) (K : Kt) : Prop := ALoop tP zCA (zCz K) (zg2 t0 t5 t8 t9 t10) H
def zny (t0 t5 t8 t9 t10 : AV) (H : zaa) (K : Kt) (Kb3 : Lt) : Prop :=
 zad .lss false t10 t9 fun t11 =>
 zag t11
 (zaj 1 t8 t10 fun t12 =>
 zae false 1 t12 H fun t13 =>
 za2 t0 fun t16 =>
 zaf 0 t16 fun t17 =>
 zaf 2 t17 fun t18 =>
 zae false 1 t18 H fun t19 =>
 zaj 3 t19 t13 fun t21 =>
 zae true 3 t21 H fun t22 =>
 zaA 3 [(.int .i64 0), (.int .i64 0), .snil] 1 [(0, t22)] fun t23 =>
 zaJ zaD 3 40 t5 t23 H fun t24 H =>
 zad .add false t10 (.int .i64 1) fun t25 =>
 Kb3 (zg2 t0 t24 t8 t9 t25) H)
 (K t5 H)
def zsi (t0 t1 : AV) (H : zaa) (K : Kt) : Prop :=
 zak 1 t1 fun t9 =>
 zCB t0 .snil t1 t9 (.int .i64 0) H K
theorem zOJ (t0 t5 t8 t9 t10 : AV) (H : zaa) (K : Kt) (Kb3 : Lt) : awp tP ziu zCA (zat zCC Kb3 (zCz K)) (zg2 t0 t5 t8 t9 t10) H = zny t0 t5 t8 t9 t10 H K Kb3 := by kernel_rfl
theorem zOL {t0 t5 t8 t9 t10 : AV} {H : zaa} {K : Kt} (Inv : Nat → AV → AV → zaa → Prop) (n : Nat) (h0 : HSc H → Inv n t5 t10 H)
  (round : ∀ n t5 t10 H', Inv n t5 t10 H' → HSc H' → H.length ≤ H'.length → (zg2 t0 t5 t8 t9 t10).all (AV.sc H'.length) = true → ∀ Kb3 : Lt, (∀ F'' H'', (∃ n', n' < n ∧ Back H.length (fun F2 H2 => ∃ t5 t10, F2 = zg2 t0 t5 t8 t9 t10 ∧ Inv n' t5 t10 H2) F'' H'') → Kb3 F'' H'') → zny t0 t5 t8 t9 t10 H' K Kb3) : zCB t0 t5 t8 t9 t10 H K :=
 zav (M := ziu) zCC (fun n F H => ∃ t5 t10, F = zg2 t0 t5 t8 t9 t10 ∧ Inv n t5 t10 H) n (fun hs _ => ⟨t5, t10, rfl, h0 hs⟩) (fun n F H' ⟨t5, t10, hF, hI⟩ h1 h2 h3 => by subst hF; rw [zOJ]; exact round n t5 t10 H' hI h1 h2 h3 _ (fun _ _ h => h))
theorem zOK (t0 t1 : AV) (H : zaa) (K : Kt) : awp tP ziu znz (zal tP zCD K) (t0 :: t1 :: List.replicate 25 .unk) H = zsi t0 t1 H K := by kernel_rfl
theorem zOM {t0 t1 : AV} {H : zaa} {K : Kt} (h : HSc H → zsi t0 t1 H K) : ACalls tP zd8 [t0, t1] H K :=
 zaw (M := ziu) Try.func96 (c := znz) (by kernel_rfl) (fun hs => (zOK t0 t1 H K).mpr (h hs))
def zvr (_ : Nat) : List Bool := []
noncomputable def zvs : Code := Try.f106.body.getD .skip
noncomputable def zHD : List ResultVar := Try.f106.results.toList
def zpS (t0 t1 : AV) (H : zaa) (K : Kt) : Prop :=
 zaH t0 H fun t2 H =>
 zaf 3 t2 fun t5 =>
 zae false 1 t5 H fun t6 =>
 ACalls tP ztQ [t6, t1, (.fn zoE [])] H fun t8 H =>
 K t8 H
theorem zHB (t0 t1 : AV) (H : zaa) (K : Kt) : awp tP zvr zvs (zal tP zHD K) (t0 :: t1 :: List.replicate 7 .unk) H = zpS t0 t1 H K := by kernel_rfl
theorem zHC {t0 t1 : AV} {H : zaa} {K : Kt} (h : HSc H → zpS t0 t1 H K) : ACalls tP ziR [t0, t1] H K :=
 zaw (M := zvr) Try.func106 (c := zvs) (by kernel_rfl) (fun hs => (zHB t0 t1 H K).mpr (h hs))
def zvt (_ : Nat) : List Bool := []
noncomputable def zvu : Code := Try.f107.body.getD .skip
noncomputable def zHG : List ResultVar := Try.f107.results.toList
def zpT (t0 t1 t2 : AV) (H : zaa) (K : Kt) : Prop :=
 zaH t1 H fun t4 H =>
 zaC [(.int .i64 0), (.int .i64 0), .snil] H fun t6 H =>
 zac H (fun K' => K' t0 H) fun t7 =>
 zac H (fun K' => za2 t7 (K' · H)) fun t8 =>
 zac H (fun K' => zaf 0 t8 (K' · H)) fun t9 =>
 zac H (fun K' => zaf 3 t9 (K' · H)) fun t10 =>
 zac H (fun K' => zai false 1 t10 H (K' · H)) fun t11 =>
 zac H (fun K' => zaf 4 t4 (K' · H)) fun t12 =>
 zac H (fun K' => zai false 1 t12 H (K' · H)) fun t13 =>
 zac H (fun K' => K' t2 H) fun t14 =>
 zac H (fun K' => zaj 1 t13 t14 (K' · H)) fun t15 =>
 zac H (fun K' => zai false 1 t15 H (K' · H)) fun t16 =>
 zac H (fun K' => zaj 8 t11 t16 (K' · H)) fun t17 =>
 zac H (fun K' => zaf 5 t17 (K' · H)) fun t18 =>
 zac H (fun K' => zai true 3 t18 H (K' · H)) fun t19 =>
 zas 3 t6 t19 H fun H =>
 zae true 3 t6 H fun r0 =>
 K r0 H
theorem zHE (t0 t1 t2 : AV) (H : zaa) (K : Kt) : awp tP zvt zvu (zal tP zHG K) (t0 :: t1 :: t2 :: List.replicate 17 .unk) H = zpT t0 t1 t2 H K := by kernel_rfl
theorem zHF {t0 t1 t2 : AV} {H : zaa} {K : Kt} (h : HSc H → zpT t0 t1 t2 H K) : ACalls tP zka [t0, t1, t2] H K :=
 zaw (M := zvt) Try.func107 (c := zvu) (by kernel_rfl) (fun hs => (zHE t0 t1 t2 H K).mpr (h hs))
def zhF : Nat → List Bool
 | 2 => rl false [0,1,3,1,2,1,16]
 | _ => []
noncomputable def zk8 : Code := Try.f108.body.getD .skip
noncomputable def zvz : List ResultVar := Try.f108.results.toList
def zfB (t0 t4 t7 : AV) : List AV := t0 :: ux 3 (t4 :: ux 2 (t7 :: ux 16 []))
def zvy : List Bool := zhF 2
noncomputable def zvw : Code := zap [1, 0, 1, 0, 0] zk8
def zvv (K : Kt) : AExit → List AV → zaa → Prop := zaq tP zhF [1, 0, 1, 0] zk8 (zal tP zvz K)
def zvx (t0 t4 t7 : AV) (H : zaa) (K : Kt) : Prop := ALoop tP zvw (zvv K) (zfB t0 t4 t7) H
def zk7 (t0 t4 t7 : AV) (H : zaa) (K : Kt) (Kb2 : Lt) : Prop :=
 zaf 4 t4 fun t10 =>
 zae false 1 t10 H fun t11 =>
 zak 1 t11 fun t12 =>
 zad .lss false t7 t12 fun t13 =>
 zag t13
 (zac H (fun K' => K' t0 H) fun t16 =>
 zac H (fun K' => zai true 8 t4 H (K' · H)) fun t17 =>
 zac H (fun K' => K' t7 H) fun t18 =>
 zay H (fun H K' => ACalls tP zka [t16, t17, t18] H K') fun t19 =>
 zac H (fun K' => zaf 5 t4 (K' · H)) fun t20 =>
 zac H (fun K' => zai true 3 t20 H (K' · H)) fun t21 =>
 zay H (fun H K' => ACalls tP zbG [t19, t21] H K') fun t22 =>
 zac H (fun K' => aUn .not t22 (K' · H)) fun t23 =>
 zag t23
 (K (.bool false) H)
 (zad .add false t7 (.int .i64 1) fun t15 =>
 Kb2 (zfB t0 t4 t15) H))
 (K (.bool true) H)
def zpU (t0 t1 t2 : AV) (H : zaa) (K : Kt) : Prop :=
 zaH t1 H fun t4 H =>
 zvx t0 t4 t2 H K
theorem zHH (t0 t4 t7 : AV) (H : zaa) (K : Kt) (Kb2 : Lt) : awp tP zhF zvw (zat zvy Kb2 (zvv K)) (zfB t0 t4 t7) H = zk7 t0 t4 t7 H K Kb2 := by kernel_rfl
theorem zHJ {t0 t4 t7 : AV} {H : zaa} {K : Kt} (Inv : Nat → AV → zaa → Prop) (n : Nat) (h0 : HSc H → Inv n t7 H)
  (round : ∀ n t7 H', Inv n t7 H' → HSc H' → H.length ≤ H'.length → (zfB t0 t4 t7).all (AV.sc H'.length) = true → ∀ Kb2 : Lt, (∀ F'' H'', (∃ n', n' < n ∧ Back H.length (fun F2 H2 => ∃ t7, F2 = zfB t0 t4 t7 ∧ Inv n' t7 H2) F'' H'') → Kb2 F'' H'') → zk7 t0 t4 t7 H' K Kb2) : zvx t0 t4 t7 H K :=
 zav (M := zhF) zvy (fun n F H => ∃ t7, F = zfB t0 t4 t7 ∧ Inv n t7 H) n (fun hs _ => ⟨t7, rfl, h0 hs⟩) (fun n F H' ⟨t7, hF, hI⟩ h1 h2 h3 => by subst hF; rw [zHH]; exact round n t7 H' hI h1 h2 h3 _ (fun _ _ h => h))
theorem zHI (t0 t1 t2 : AV) (H : zaa) (K : Kt) : awp tP zhF zk8 (zal tP zvz K) (t0 :: t1 :: t2 :: List.replicate 21 .unk) H = zpU t0 t1 t2 H K := by kernel_rfl
theorem zHK {t0 t1 t2 : AV} {H : zaa} {K : Kt} (h : HSc H → zpU t0 t1 t2 H K) : ACalls tP zdK [t0, t1, t2] H K :=
 zaw (M := zhF) Try.func108 (c := zk8) (by kernel_rfl) (fun hs => (zHI t0 t1 t2 H K).mpr (h hs))
def zhQ : Nat → List Bool
 | 4 => rl false [1,2,12,3,14]
 | _ => []
noncomputable def zlz : Code := Try.f127.body.getD .skip
noncomputable def zwM : List ResultVar := Try.f127.results.toList
def zfR (t1 t2 t15 t16 t17 : AV) : List AV := ux 1 (t1 :: t2 :: ux 12 (t15 :: t16 :: t17 :: ux 14 []))
def zwL : List Bool := zhQ 4
noncomputable def zwJ : Code := zap [1, 1, 0, 1, 0, 0] zlz
def zwI (K : Kt) : AExit → List AV → zaa → Prop := zaq tP zhQ [1, 1, 0, 1, 0] zlz (zal tP zwM K)
def zwK (t1 t2 t15 t16 t17 : AV) (H : zaa) (K : Kt) : Prop := ALoop tP zwJ (zwI K) (zfR t1 t2 t15 t16 t17) H
def zly (t1 t2 t15 t16 t17 : AV) (H : zaa) (K : Kt) (Kb4 : Lt) : Prop :=
 zad .lss false t17 t16 fun t18 =>
 zag t18
 (zaj 1 t15 t17 fun t20 =>
 zae false 1 t20 H fun t21 =>
 zaj 1 t1 t17 fun t24 =>
 zae false 1 t24 H fun t25 =>
 aCallV tP t2 [t21, t25] H fun t29 H =>
 aUn .not t29 fun t30 =>
 zag t30
 (K (.bool false) H)
 (zad .add false t17 (.int .i64 1) fun t31 =>
 Kb4 (zfR t1 t2 t15 t16 t31) H))
 (K (.bool true) H)
def zlx (t0 t1 t2 : AV) (H : zaa) (K : Kt) : Prop :=
 zak 1 t0 fun t11 =>
 zak 1 t1 fun t13 =>
 zad .neq false t11 t13 fun t14 =>
 zag t14
 (K (.bool false) H)
 (zak 1 t0 fun t16 =>
 zwK t1 t2 t0 t16 (.int .i64 0) H K)
theorem zI2 (t1 t2 t15 t16 t17 : AV) (H : zaa) (K : Kt) (Kb4 : Lt) : awp tP zhQ zwJ (zat zwL Kb4 (zwI K)) (zfR t1 t2 t15 t16 t17) H = zly t1 t2 t15 t16 t17 H K Kb4 := by kernel_rfl
theorem zI4 {t1 t2 t15 t16 t17 : AV} {H : zaa} {K : Kt} (Inv : Nat → AV → zaa → Prop) (n : Nat) (h0 : HSc H → Inv n t17 H)
  (round : ∀ n t17 H', Inv n t17 H' → HSc H' → H.length ≤ H'.length → (zfR t1 t2 t15 t16 t17).all (AV.sc H'.length) = true → ∀ Kb4 : Lt, (∀ F'' H'', (∃ n', n' < n ∧ Back H.length (fun F2 H2 => ∃ t17, F2 = zfR t1 t2 t15 t16 t17 ∧ Inv n' t17 H2) F'' H'') → Kb4 F'' H'') → zly t1 t2 t15 t16 t17 H' K Kb4) : zwK t1 t2 t15 t16 t17 H K :=
 zav (M := zhQ) zwL (fun n F H => ∃ t17, F = zfR t1 t2 t15 t16 t17 ∧ Inv n t17 H) n (fun hs _ => ⟨t17, rfl, h0 hs⟩) (fun n F H' ⟨t17, hF, hI⟩ h1 h2 h3 => by subst hF; rw [zI2]; exact round n t17 H' hI h1 h2 h3 _ (fun _ _ h => h))
theorem zI3 (t0 t1 t2 : AV) (H : zaa) (K : Kt) : awp tP zhQ zlz (zal tP zwM K) (t0 :: t1 :: t2 :: List.replicate 29 .unk) H = zlx t0 t1 t2 H K := by kernel_rfl
theorem zI5 {t0 t1 t2 : AV} {H : zaa} {K : Kt} (h : HSc H → zlx t0 t1 t2 H K) : ACalls tP ztQ [t0, t1, t2] H K :=
 zaw (M := zhQ) Try.func127 (c := zlz) (by kernel_rfl) (fun hs => (zI3 t0 t1 t2 H K).mpr (h hs))
def zwN (_ : Nat) : List Bool := []
noncomputable def zwO : Code := Try.f128.body.getD .skip
noncomputable def zI8 : List ResultVar := Try.f128.results.toList
def zqj (t0 t1 : AV) (H : zaa) (K : Kt) : Prop :=
 zak 1 t0 fun t6 =>
 zad .eql false t6 t1 fun t8 =>
 K t8 H
theorem zI6 (t0 t1 : AV) (H : zaa) (K : Kt) : awp tP zwN zwO (zal tP zI8 K) (t0 :: t1 :: List.replicate 7 .unk) H = zqj t0 t1 H K := by kernel_rfl
theorem zI7 {t0 t1 : AV} {H : zaa} {K : Kt} (h : HSc H → zqj t0 t1 H K) : ACalls tP zoE [t0, t1] H K :=
 zaw (M := zwN) Try.func128 (c := zwO) (by kernel_rfl) (fun hs => (zI6 t0 t1 H K).mpr (h hs))
def zwm (_ : Nat) : List Bool := []
noncomputable def zwn : Code := Try.f13.body.getD .skip
noncomputable def zIF : List ResultVar := Try.f13.results.toList
def zp1 (t0 : AV) (H : zaa) (K : Kt) : Prop :=
 zaH t0 H fun t1 H =>
 zaf 0 t1 fun t3 =>
 zae false 1 t3 H fun t4 =>
 ACalls tP zoJ [t4] H fun t5 H =>
 zab t5 true H (fun K' => zae true 4 t1 H (K' · H)) fun t7 H =>
 zab t5 true H (fun K' => ACalls tP zoK [t7] H K') fun t8 H =>
 zah t5 t8 (.bool false) fun t9 =>
 zab t9 true H (fun K' => zae true 4 t1 H (K' · H)) fun t11 H =>
 zab t9 true H (fun K' => ACalls tP zoL [t11] H K') fun t12 H =>
 zah t9 t12 (.bool false) fun t13 =>
 zab t13 true H (fun K' => zae true 4 t1 H (K' · H)) fun t15 H =>
 zab t13 true H (fun K' => ACalls tP zoM [t15] H K') fun t16 H =>
 zah t13 t16 (.bool false) fun t17 =>
 zab t17 true H (fun K' => zae true 4 t1 H (K' · H)) fun t19 H =>
 zab t17 true H (fun K' => ACalls tP zoN [t19] H K') fun t20 H =>
 zah t17 t20 (.bool false) fun t21 =>
 zab t21 true H (fun K' => zae true 4 t1 H (K' · H)) fun t23 H =>
 zab t21 true H (fun K' => ACalls tP zoO [t23] H K') fun t24 H =>
 zah t21 t24 (.bool false) fun t25 =>
 zab t25 true H (fun K' => zae true 4 t1 H (K' · H)) fun t27 H =>
 zab t25 true H (fun K' => ACalls tP zoP [t27] H K') fun t28 H =>
 zah t25 t28 (.bool false) fun t29 =>
 K t29 H
theorem zID (t0 : AV) (H : zaa) (K : Kt) : awp tP zwm zwn (zal tP zIF K) (t0 :: List.replicate 29 .unk) H = zp1 t0 H K := by kernel_rfl
theorem zIE {t0 : AV} {H : zaa} {K : Kt} (h : HSc H → zp1 t0 H K) : ACalls tP zhi [t0] H K :=
 zaw (M := zwm) Try.func13 (c := zwn) (by kernel_rfl) (fun hs => (zID t0 H K).mpr (h hs))
end Go.Proofs.Ytkdmpbhbmmhijaa
namespace Go.Proofs.Ytkdmpbhbmmhijaa
open Go Go.Abs
set_option maxRecDepth 8000
def zd2 (data : List Dat) (d : Nat) (vars : Int) (t : VT) : Bool := zax (data.take (d + 1)) vars t && (zcd d vars t || !zce d t)
theorem zMG (data : List Dat) (d : Nat) (c : Nat) (hd : d < data.length) (hc : c < (data[d]).cons.length) (hl : data.length ≤ 1000000) (hcl : (data[d]).cons.length ≤ 1000000) (hal : ((data[d]).cons[c]).args.length ≤ 1000000)
  (hb : ∀ x ∈ ((data[d]).cons[c]).args, x.nodes ≤ 1000000) (H : zaa) (K : AV → zaa → Prop)
  (hK : K (.bool (decide (((data[d]).cons[c]).args.length ≤ 6) && ((data[d]).cons[c]).args.all (zd2 data d (data[d]).vars))) H) :
  ACalls tP zoS [.sl (data.map Dat.cs) .none, .int .i64 d, .int .i64 c] H K := by
 refine ACalls.out (zMF fun hs => ?_)
 have e1 : (data.map Dat.cs)[d]? = some (data[d]).cs := by simp [hd]
 have e2 : ((data[d]).cons.map Con.cs)[c]? = some ((data[d]).cons[c]).cs := by simp [hc]
 have hrec := zNX data d c hd hc hl hcl hal hb
 generalize hD : data[d] = D at *
 generalize hA : D.cons[c] = C at *
 have hO : ∀ J, Out H.length K (.bool (decide (C.args.length ≤ 6) && C.args.all (zd2 data d D.vars))) (H ++ J) := fun J => Out.bool rfl (Nat.le_refl _) hs hK
 simp [zrF, e1, e2, Dat.cs, Con.cs, hd, hD, hc, hA]
 by_cases h6 : C.args.length ≤ 6
 ·have h6' : ¬ (6 : Int) < C.args.length := by omega
  have h6'' : ¬ 6 < C.args.length := by omega
  simp [h6', h6'']
  refine hrec _ _ ?_
  simp [h6] at hO
  refine zME (Inv := fun q t29 H' => ∃ i : Nat, i ≤ C.args.length ∧ q = C.args.length - i ∧ t29 = .int .i64 i ∧ (C.args.drop i).all (zd2 data d D.vars) = C.args.all (zd2 data d D.vars) ∧ H = H') C.args.length ?_ ?_
  ·intro _; exact ⟨0, by omega, by omega, rfl, by simp, rfl⟩
  ·rintro q t29 H' ⟨i, hi, rfl, rfl, ho, rfl⟩ hsc hlen hsF Kb hKb
   by_cases hlt : i < C.args.length
   ·rw [List.drop_eq_getElem_cons hlt, List.all_cons] at ho
    have hnb := hb _ (List.getElem_mem hlt)
    obtain ⟨x1, x2, x3, hvx, hx1, hx2, hx3⟩ := zcM C.args[i]
    simp [zmR, hlt, hvx, e1, hd, hD, Dat.cs]
    refine ⟨⟨hx1, hx2, hx3⟩, ?_⟩
    rw [zar (by omega) (by omega), show ((d : Int) + 1).toNat = d + 1 by omega, ← List.map_take]
    refine ⟨by omega, by omega, ?_⟩
    rw [← hvx]
    refine zaz (.bool (zax (data.take (d + 1)) D.vars C.args[i])) (fun J => zmT (data.take (d + 1)) D.vars _ (by omega) _ _ ⟨rfl, rfl⟩) ?_
    have hao : zd2 data d D.vars C.args[i] = (zax (data.take (d + 1)) D.vars C.args[i] && (zcd d D.vars C.args[i] || !zce d C.args[i])) := rfl
    rw [hao] at ho
    cases hv : zax (data.take (d + 1)) D.vars C.args[i] with
    | false =>
     rw [hv] at ho
     simp only [Bool.false_and] at ho
     rw [← ho] at hO
     simp; exact hO _
    | true =>
    rw [hv] at ho
    cases hsf : zcd d D.vars C.args[i] with
    | true =>
     rw [hsf] at ho
     simp [hlt, hsf]
     rw [zar (by omega) (by omega)]
     refine hKb _ _ ⟨C.args.length - (i + 1), by omega, Back.same (by simp) hs ?_ ⟨_, rfl, i + 1, by omega, rfl, by simp, by simpa using ho, rfl⟩⟩
     simp [zeV, AV.sc, AV.scV, AV.scA, AV.scB]
    | false =>
     rw [hsf] at ho
     simp [hlt, hsf]
     refine zaz (.bool (zce d C.args[i])) (fun J => zN1 d _ _ (Nat.le_refl _) (by omega) _ _ ⟨rfl, rfl⟩) ?_
     cases hm : zce d C.args[i] with
     | true =>
      rw [hm] at ho
      simp only [Bool.not_true, Bool.or_false, Bool.and_false, Bool.false_and] at ho
      rw [← ho] at hO
      simp; exact hO _
     | false =>
      rw [hm] at ho
      simp
      rw [zar (by omega) (by omega)]
      refine hKb _ _ ⟨C.args.length - (i + 1), by omega, Back.same (by simp) hs ?_ ⟨_, rfl, i + 1, by omega, rfl, by simp, by simpa using ho, rfl⟩⟩
      simp [zeV, AV.sc, AV.scV, AV.scA, AV.scB]
   ·obtain rfl : i = C.args.length := by omega
    rw [List.drop_length, List.all_nil] at ho
    rw [← ho] at hO
    simp [zmR]
    simpa using hO []
 ·have h6' : (6 : Int) < C.args.length := by omega
  have h6'' : 6 < C.args.length := by omega
  simp [h6', h6'']
  simp [h6] at hO
  simpa using hO []
end Go.Proofs.Ytkdmpbhbmmhijaa
