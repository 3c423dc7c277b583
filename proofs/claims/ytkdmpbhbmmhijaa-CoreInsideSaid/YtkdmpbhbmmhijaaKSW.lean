import Derived.Test.YtkdmpbhbmmhijaaKNum
import Derived.Test.YtkdmpbhbmmhijaaProg
import Derived.KernelRfl
import Derived.Test.YtkdmpbhbmmhijaaKQ4b
import Derived.Test.YtkdmpbhbmmhijaaAbsQ
set_option linter.unusedSimpArgs false
set_option linter.unusedVariables false
namespace Go.Proofs.Ytkdmpbhbmmhijaa
open Go Go.Abs
set_option maxRecDepth 100000
def zcP : Nat → List Bool
 | 6 => rl false [2,1,2,3,69]
 | 9 => rl false [2,1,2,3,24,3,42]
 | 16 => rl false [5,2,49,3,18]
 | _ => []
noncomputable def zhR : Code := Try.f28.body.getD .skip
noncomputable def zqC : List ResultVar := Try.f28.results.toList
def zf4 (t2 t5 t6 t7 : AV) : List AV := ux 2 (t2 :: ux 2 (t5 :: t6 :: t7 :: ux 69 []))
def zqB : List Bool := zcP 6
noncomputable def zlK : Code := zap [1, 1, 1, 1, 0, 1, 0, 0] zhR
def zqy (K : Kt) : AExit → List AV → zaa → Prop := zaq tP zcP [1, 1, 1, 1, 0, 1, 0] zhR (zal tP zqC K)
def zqA (t2 t5 t6 t7 : AV) (H : zaa) (K : Kt) : Prop := ALoop tP zlK (zqy K) (zf4 t2 t5 t6 t7) H
def zf5 (t2 t5 t6 t7 t32 t33 t34 : AV) : List AV := ux 2 (t2 :: ux 2 (t5 :: t6 :: t7 :: ux 24 (t32 :: t33 :: t34 :: ux 42 [])))
def zxI : List Bool := zcP 9
noncomputable def zxC : Code := zap [1, 0, 0, 1, 0, 0] zlK
def zxA (K : Kt) (Kb6 : Lt) : AExit → List AV → zaa → Prop := zaq tP zcP [1, 0, 0, 1, 0] zlK (zat zqB Kb6 (zqy K))
def zxG (t2 t5 t6 t7 t32 t33 t34 : AV) (H : zaa) (K : Kt) (Kb6 : Lt) : Prop := ALoop tP zxC (zxA K Kb6) (zf5 t2 t5 t6 t7 t32 t33 t34) H
def zxE (t2 t5 t6 t7 : AV) (H : zaa) (K : Kt) (Kb6 : Lt) : Prop :=
 zad .sub false t7 (.int .i64 1) fun t26 =>
 Kb6 (zf4 t2 t5 t6 t26) H
def zxD (t2 t5 t6 t7 : AV) (H : zaa) (K : Kt) (Kb6 : Lt) : Prop :=
 zxE t2 t5 t6 t7 H K Kb6
def zlL (t2 t5 t6 t7 : AV) (H : zaa) (K : Kt) (Kb6 : Lt) : Prop :=
 zxD t2 t5 t6 t7 H K Kb6
def zjl (t2 t5 t6 t7 t32 t33 t34 : AV) (H : zaa) (K : Kt) (Kb6 : Lt) (Kb9 : Lt) : Prop :=
 zad .lss false t34 t33 fun t35 =>
 zag t35
 (zaj 1 t32 t34 fun t37 =>
 zae false 1 t37 H fun t38 =>
 zad .eql false t38 t6 fun t41 =>
 zag t41
 (zaf 3 t2 fun t43 =>
 zae false 1 t43 H fun t44 =>
 zaj 8 t44 t7 fun t46 =>
 zaf 3 t46 fun t47 =>
 zae false 1 t47 H fun t48 =>
 zaj 1 t48 t34 fun t50 =>
 zae false 1 t50 H fun t51 =>
 ACalls tP zeB [t5, t51, (.bool true)] H fun t52 H =>
 zlL t2 t5 t7 t7 H K Kb6)
 (zad .add false t34 (.int .i64 1) fun t54 =>
 Kb9 (zf5 t2 t5 t6 t7 t32 t33 t54) H))
 (zlL t2 t5 t6 t7 H K Kb6)
def zf3 (t5 t6 t56 t57 t58 : AV) : List AV := ux 5 (t5 :: t6 :: ux 49 (t56 :: t57 :: t58 :: ux 18 []))
def zxH : List Bool := zcP 16
noncomputable def zxB : Code := zap [1, 1, 1, 1, 1, 0, 1, 0, 0] zhR
def zxz (K : Kt) : AExit → List AV → zaa → Prop := zaq tP zcP [1, 1, 1, 1, 1, 0, 1, 0] zhR (zal tP zqC K)
def zqz (t5 t6 t56 t57 t58 : AV) (H : zaa) (K : Kt) : Prop := ALoop tP zxB (zxz K) (zf3 t5 t6 t56 t57 t58) H
def zxF (t5 t6 t56 t57 t58 : AV) (H : zaa) (K : Kt) (Kb16 : Lt) : Prop :=
 zad .add false t58 (.int .i64 1) fun t74 =>
 Kb16 (zf3 t5 t6 t56 t57 t74) H
def zlM (t5 t6 t56 t57 t58 : AV) (H : zaa) (K : Kt) (Kb16 : Lt) : Prop :=
 zxF t5 t6 t56 t57 t58 H K Kb16
def zjk (t5 t6 t56 t57 t58 : AV) (H : zaa) (K : Kt) (Kb16 : Lt) : Prop :=
 zad .lss false t58 t57 fun t59 =>
 zag t59
 (zaj 7 t56 t58 fun t60 =>
 zae true 7 t60 H fun t61 =>
 zaC [(.str []), .snil, .snil, (.int .i64 0), (.int .i64 0), .snil, (.int .i64 0)] H fun t11 H =>
 zas 7 t11 t61 H fun H =>
 zaf 6 t11 fun t62 =>
 zae false 1 t62 H fun t63 =>
 zad .eql false t63 t6 fun t65 =>
 zag t65
 (zaf 1 t11 fun t67 =>
 zae false 1 t67 H fun t68 =>
 ACalls tP zeB [t5, t68, (.bool true)] H fun t69 H =>
 zaf 2 t11 fun t71 =>
 zae false 1 t71 H fun t72 =>
 ACalls tP zeB [t5, t72, (.bool true)] H fun t73 H =>
 zlM t5 t6 t56 t57 t58 H K Kb16)
 (zlM t5 t6 t56 t57 t58 H K Kb16))
 (ACalls tP zkm [t5] H fun t76 H =>
 K t76 H)
def zlJ (t2 t5 t6 t7 : AV) (H : zaa) (K : Kt) (Kb6 : Lt) : Prop :=
 zad .geq false t7 (.int .i64 0) fun t24 =>
 zag t24
 (zaf 3 t2 fun t27 =>
 zae false 1 t27 H fun t28 =>
 zaj 8 t28 t7 fun t30 =>
 zaf 4 t30 fun t31 =>
 zae false 1 t31 H fun t32 =>
 zak 1 t32 fun t33 =>
 zxG t2 t5 t6 t7 t32 t33 (.int .i64 0) H K Kb6)
 (zaf 1 t2 fun t55 =>
 zae false 1 t55 H fun t56 =>
 zak 1 t56 fun t57 =>
 zqz t5 t6 t56 t57 (.int .i64 0) H K)
def zqx (t0 t1 : AV) (H : zaa) (K : Kt) : Prop :=
 zaH t0 H fun t2 H =>
 zae true 4 t2 H fun t12 =>
 ACalls tP zkn [t12, t1] H fun t14 H =>
 aUn .not t14 fun t15 =>
 zag t15
 (K .snil H)
 (zaf 2 t2 fun t16 =>
 zae false 1 t16 H fun t17 =>
 zak 1 t17 fun t18 =>
 zbd 1 [(.bool false)] t18 t18 H fun t19 H =>
 zad .sub false t1 (.int .i64 1) fun t22 =>
 zqA t2 t19 t1 t22 H K)
theorem zJN (t2 t5 t6 t7 t32 t33 t34 : AV) (H : zaa) (K : Kt) (Kb6 : Lt) (Kb9 : Lt) : awp tP zcP zxC (zat zxI Kb9 (zxA K Kb6)) (zf5 t2 t5 t6 t7 t32 t33 t34) H = zjl t2 t5 t6 t7 t32 t33 t34 H K Kb6 Kb9 := by kernel_rfl
theorem zJS {t2 t5 t6 t7 t32 t33 t34 : AV} {H : zaa} {K : Kt} {Kb6 : Lt} (Inv : Nat → AV → AV → zaa → Prop) (n : Nat) (h0 : HSc H → Inv n t6 t34 H)
  (round : ∀ n t6 t34 H', Inv n t6 t34 H' → HSc H' → H.length ≤ H'.length → (zf5 t2 t5 t6 t7 t32 t33 t34).all (AV.sc H'.length) = true → ∀ Kb9 : Lt, (∀ F'' H'', (∃ n', n' < n ∧ Back H.length (fun F2 H2 => ∃ t6 t34, F2 = zf5 t2 t5 t6 t7 t32 t33 t34 ∧ Inv n' t6 t34 H2) F'' H'') → Kb9 F'' H'') → zjl t2 t5 t6 t7 t32 t33 t34 H' K Kb6 Kb9) : zxG t2 t5 t6 t7 t32 t33 t34 H K Kb6 :=
 zav (M := zcP) zxI (fun n F H => ∃ t6 t34, F = zf5 t2 t5 t6 t7 t32 t33 t34 ∧ Inv n t6 t34 H) n (fun hs _ => ⟨t6, t34, rfl, h0 hs⟩) (fun n F H' ⟨t6, t34, hF, hI⟩ h1 h2 h3 => by subst hF; rw [zJN]; exact round n t6 t34 H' hI h1 h2 h3 _ (fun _ _ h => h))
theorem zJL (t5 t6 t56 t57 t58 : AV) (H : zaa) (K : Kt) (Kb16 : Lt) : awp tP zcP zxB (zat zxH Kb16 (zxz K)) (zf3 t5 t6 t56 t57 t58) H = zjk t5 t6 t56 t57 t58 H K Kb16 := by kernel_rfl
theorem zJQ {t5 t6 t56 t57 t58 : AV} {H : zaa} {K : Kt} (Inv : Nat → AV → zaa → Prop) (n : Nat) (h0 : HSc H → Inv n t58 H)
  (round : ∀ n t58 H', Inv n t58 H' → HSc H' → H.length ≤ H'.length → (zf3 t5 t6 t56 t57 t58).all (AV.sc H'.length) = true → ∀ Kb16 : Lt, (∀ F'' H'', (∃ n', n' < n ∧ Back H.length (fun F2 H2 => ∃ t58, F2 = zf3 t5 t6 t56 t57 t58 ∧ Inv n' t58 H2) F'' H'') → Kb16 F'' H'') → zjk t5 t6 t56 t57 t58 H' K Kb16) : zqz t5 t6 t56 t57 t58 H K :=
 zav (M := zcP) zxH (fun n F H => ∃ t58, F = zf3 t5 t6 t56 t57 t58 ∧ Inv n t58 H) n (fun hs _ => ⟨t58, rfl, h0 hs⟩) (fun n F H' ⟨t58, hF, hI⟩ h1 h2 h3 => by subst hF; rw [zJL]; exact round n t58 H' hI h1 h2 h3 _ (fun _ _ h => h))
theorem zJM (t2 t5 t6 t7 : AV) (H : zaa) (K : Kt) (Kb6 : Lt) : awp tP zcP zlK (zat zqB Kb6 (zqy K)) (zf4 t2 t5 t6 t7) H = zlJ t2 t5 t6 t7 H K Kb6 := by kernel_rfl
theorem zJR {t2 t5 t6 t7 : AV} {H : zaa} {K : Kt} (Inv : Nat → AV → AV → zaa → Prop) (n : Nat) (h0 : HSc H → Inv n t6 t7 H)
  (round : ∀ n t6 t7 H', Inv n t6 t7 H' → HSc H' → H.length ≤ H'.length → (zf4 t2 t5 t6 t7).all (AV.sc H'.length) = true → ∀ Kb6 : Lt, (∀ F'' H'', (∃ n', n' < n ∧ Back H.length (fun F2 H2 => ∃ t6 t7, F2 = zf4 t2 t5 t6 t7 ∧ Inv n' t6 t7 H2) F'' H'') → Kb6 F'' H'') → zlJ t2 t5 t6 t7 H' K Kb6) : zqA t2 t5 t6 t7 H K :=
 zav (M := zcP) zqB (fun n F H => ∃ t6 t7, F = zf4 t2 t5 t6 t7 ∧ Inv n t6 t7 H) n (fun hs _ => ⟨t6, t7, rfl, h0 hs⟩) (fun n F H' ⟨t6, t7, hF, hI⟩ h1 h2 h3 => by subst hF; rw [zJM]; exact round n t6 t7 H' hI h1 h2 h3 _ (fun _ _ h => h))
theorem zJP (t0 t1 : AV) (H : zaa) (K : Kt) : awp tP zcP zhR (zal tP zqC K) (t0 :: t1 :: List.replicate 75 .unk) H = zqx t0 t1 H K := by kernel_rfl
theorem zJT {t0 t1 : AV} {H : zaa} {K : Kt} (h : HSc H → zqx t0 t1 H K) : ACalls tP zoG [t0, t1] H K :=
 zaw (M := zcP) Try.func28 (c := zhR) (by kernel_rfl) (fun hs => (zJP t0 t1 H K).mpr (h hs))
def zcQ : Nat → List Bool
 | 6 => rl false [1,2,2,2,77]
 | 12 => rl false [1,2,2,1,1,2,75]
 | 17 => rl false [1,2,2,1,1,2,63,3,9]
 | _ => []
noncomputable def zhT : Code := Try.f30.body.getD .skip
noncomputable def zqJ : List ResultVar := Try.f30.results.toList
def zf9 (t1 t2 t5 t6 : AV) : List AV := ux 1 (t1 :: t2 :: ux 2 (t5 :: t6 :: ux 77 []))
def zxW : List Bool := zcQ 6
noncomputable def zxR : Code := zap [1, 1, 1, 1, 0, 1, 0, 0] zhT
def zxP (K : Kt) : AExit → List AV → zaa → Prop := zaq tP zcQ [1, 1, 1, 1, 0, 1, 0] zhT (zal tP zqJ K)
def zqH (t1 t2 t5 t6 : AV) (H : zaa) (K : Kt) : Prop := ALoop tP zxR (zxP K) (zf9 t1 t2 t5 t6) H
def zxS (t1 t2 t5 t6 : AV) (H : zaa) (K : Kt) (Kb6 : Lt) : Prop :=
 zad .add false t6 (.int .i64 1) fun t29 =>
 Kb6 (zf9 t1 t2 t5 t29) H
def zlQ (t1 t2 t5 t6 : AV) (H : zaa) (K : Kt) (Kb6 : Lt) : Prop :=
 zxS t1 t2 t5 t6 H K Kb6
def zf7 (t1 t2 t5 t7 t8 : AV) : List AV := ux 1 (t1 :: t2 :: ux 2 (t5 :: ux 1 (t7 :: t8 :: ux 75 [])))
def zqI : List Bool := zcQ 12
noncomputable def zlP : Code := zap [1, 1, 1, 1, 1, 1, 0, 1, 0, 0] zhT
def zqF (K : Kt) : AExit → List AV → zaa → Prop := zaq tP zcQ [1, 1, 1, 1, 1, 1, 0, 1, 0] zhT (zal tP zqJ K)
def zqG (t1 t2 t5 t7 t8 : AV) (H : zaa) (K : Kt) : Prop := ALoop tP zlP (zqF K) (zf7 t1 t2 t5 t7 t8) H
def zf8 (t1 t2 t5 t7 t8 t72 t73 t74 : AV) : List AV := ux 1 (t1 :: t2 :: ux 2 (t5 :: ux 1 (t7 :: t8 :: ux 63 (t72 :: t73 :: t74 :: ux 9 []))))
def zxV : List Bool := zcQ 17
noncomputable def zxQ : Code := zap [1, 0, 0, 1, 0, 1, 1, 0, 0] zlP
def zxO (K : Kt) (Kb12 : Lt) : AExit → List AV → zaa → Prop := zaq tP zcQ [1, 0, 0, 1, 0, 1, 1, 0] zlP (zat zqI Kb12 (zqF K))
def zxU (t1 t2 t5 t7 t8 t72 t73 t74 : AV) (H : zaa) (K : Kt) (Kb12 : Lt) : Prop := ALoop tP zxQ (zxO K Kb12) (zf8 t1 t2 t5 t7 t8 t72 t73 t74) H
def zxT (t1 t2 t5 t7 t8 : AV) (H : zaa) (K : Kt) (Kb12 : Lt) : Prop :=
 zad .sub false t8 (.int .i64 1) fun t54 =>
 Kb12 (zf7 t1 t2 t5 t7 t54) H
def zlR (t1 t2 t5 t7 t8 : AV) (H : zaa) (K : Kt) (Kb12 : Lt) : Prop :=
 zxT t1 t2 t5 t7 t8 H K Kb12
def zlO (t1 t2 t5 t7 t8 t72 t73 t74 : AV) (H : zaa) (K : Kt) (Kb12 : Lt) (Kb17 : Lt) : Prop :=
 zad .lss false t74 t73 fun t75 =>
 zag t75
 (zaj 1 t72 t74 fun t76 =>
 zae false 1 t76 H fun t77 =>
 ACalls tP zeB [t7, t77, (.bool false)] H fun t80 H =>
 zad .add false t74 (.int .i64 1) fun t81 =>
 Kb17 (zf8 t1 t2 t5 t7 t8 t72 t73 t81) H)
 (zlR t1 t2 t5 t7 t8 H K Kb12)
def zjn (t1 t2 t5 t7 t8 : AV) (H : zaa) (K : Kt) (Kb12 : Lt) : Prop :=
 zad .geq false t8 t1 fun t52 =>
 zag t52
 (zaj 1 t5 t8 fun t57 =>
 zae false 1 t57 H fun t58 =>
 zag t58
 (zaf 3 t2 fun t60 =>
 zae false 1 t60 H fun t61 =>
 zaj 8 t61 t8 fun t63 =>
 zaf 2 t63 fun t64 =>
 zae false 1 t64 H fun t65 =>
 ACalls tP zeB [t7, t65, (.bool true)] H fun t66 H =>
 zaf 3 t2 fun t67 =>
 zae false 1 t67 H fun t68 =>
 zaj 8 t68 t8 fun t70 =>
 zaf 3 t70 fun t71 =>
 zae false 1 t71 H fun t72 =>
 zak 1 t72 fun t73 =>
 zxU t1 t2 t5 t7 t8 t72 t73 (.int .i64 0) H K Kb12)
 (zlR t1 t2 t5 t7 t8 H K Kb12))
 (ACalls tP zkm [t7] H fun t83 H =>
 K t83 H)
def zjo (t1 t2 t5 t6 : AV) (H : zaa) (K : Kt) (Kb6 : Lt) : Prop :=
 zaf 3 t2 fun t24 =>
 zae false 1 t24 H fun t25 =>
 zak 1 t25 fun t26 =>
 zad .lss false t6 t26 fun t27 =>
 zag t27
 (zaj 1 t5 t6 fun t32 =>
 zae false 1 t32 H fun t33 =>
 zag t33
 (zaf 3 t2 fun t35 =>
 zae false 1 t35 H fun t36 =>
 zaj 8 t36 t6 fun t38 =>
 zaf 4 t38 fun t39 =>
 zae false 1 t39 H fun t40 =>
 ACalls tP zeB [t5, t40, (.bool true)] H fun t41 H =>
 zlQ t1 t2 t5 t6 H K Kb6)
 (zlQ t1 t2 t5 t6 H K Kb6))
 (zaf 2 t2 fun t42 =>
 zae false 1 t42 H fun t43 =>
 zak 1 t43 fun t44 =>
 zbd 1 [(.bool false)] t44 t44 H fun t45 H =>
 zaf 3 t2 fun t46 =>
 zae false 1 t46 H fun t47 =>
 zak 1 t47 fun t48 =>
 zad .sub false t48 (.int .i64 1) fun t49 =>
 zqG t1 t2 t5 t45 t49 H K)
def zqE (t0 t1 : AV) (H : zaa) (K : Kt) : Prop :=
 zaH t0 H fun t2 H =>
 zae true 4 t2 H fun t11 =>
 ACalls tP zkn [t11, t1] H fun t13 H =>
 aUn .not t13 fun t14 =>
 zag t14
 (K .snil H)
 (zaf 3 t2 fun t15 =>
 zae false 1 t15 H fun t16 =>
 zak 1 t16 fun t17 =>
 zbd 1 [(.bool false)] t17 t17 H fun t18 H =>
 zaj 1 t18 t1 fun t21 =>
 zas 1 t21 (.bool true) H fun H =>
 zqH t1 t2 t18 t1 H K)
theorem zJ0 (t1 t2 t5 t7 t8 t72 t73 t74 : AV) (H : zaa) (K : Kt) (Kb12 : Lt) (Kb17 : Lt) : awp tP zcQ zxQ (zat zxV Kb17 (zxO K Kb12)) (zf8 t1 t2 t5 t7 t8 t72 t73 t74) H = zlO t1 t2 t5 t7 t8 t72 t73 t74 H K Kb12 Kb17 := by kernel_rfl
theorem zJ5 {t1 t2 t5 t7 t8 t72 t73 t74 : AV} {H : zaa} {K : Kt} {Kb12 : Lt} (Inv : Nat → AV → zaa → Prop) (n : Nat) (h0 : HSc H → Inv n t74 H)
  (round : ∀ n t74 H', Inv n t74 H' → HSc H' → H.length ≤ H'.length → (zf8 t1 t2 t5 t7 t8 t72 t73 t74).all (AV.sc H'.length) = true → ∀ Kb17 : Lt, (∀ F'' H'', (∃ n', n' < n ∧ Back H.length (fun F2 H2 => ∃ t74, F2 = zf8 t1 t2 t5 t7 t8 t72 t73 t74 ∧ Inv n' t74 H2) F'' H'') → Kb17 F'' H'') → zlO t1 t2 t5 t7 t8 t72 t73 t74 H' K Kb12 Kb17) : zxU t1 t2 t5 t7 t8 t72 t73 t74 H K Kb12 :=
 zav (M := zcQ) zxV (fun n F H => ∃ t74, F = zf8 t1 t2 t5 t7 t8 t72 t73 t74 ∧ Inv n t74 H) n (fun hs _ => ⟨t74, rfl, h0 hs⟩) (fun n F H' ⟨t74, hF, hI⟩ h1 h2 h3 => by subst hF; rw [zJ0]; exact round n t74 H' hI h1 h2 h3 _ (fun _ _ h => h))
theorem zJZ (t1 t2 t5 t7 t8 : AV) (H : zaa) (K : Kt) (Kb12 : Lt) : awp tP zcQ zlP (zat zqI Kb12 (zqF K)) (zf7 t1 t2 t5 t7 t8) H = zjn t1 t2 t5 t7 t8 H K Kb12 := by kernel_rfl
theorem zJ4 {t1 t2 t5 t7 t8 : AV} {H : zaa} {K : Kt} (Inv : Nat → AV → zaa → Prop) (n : Nat) (h0 : HSc H → Inv n t8 H)
  (round : ∀ n t8 H', Inv n t8 H' → HSc H' → H.length ≤ H'.length → (zf7 t1 t2 t5 t7 t8).all (AV.sc H'.length) = true → ∀ Kb12 : Lt, (∀ F'' H'', (∃ n', n' < n ∧ Back H.length (fun F2 H2 => ∃ t8, F2 = zf7 t1 t2 t5 t7 t8 ∧ Inv n' t8 H2) F'' H'') → Kb12 F'' H'') → zjn t1 t2 t5 t7 t8 H' K Kb12) : zqG t1 t2 t5 t7 t8 H K :=
 zav (M := zcQ) zqI (fun n F H => ∃ t8, F = zf7 t1 t2 t5 t7 t8 ∧ Inv n t8 H) n (fun hs _ => ⟨t8, rfl, h0 hs⟩) (fun n F H' ⟨t8, hF, hI⟩ h1 h2 h3 => by subst hF; rw [zJZ]; exact round n t8 H' hI h1 h2 h3 _ (fun _ _ h => h))
theorem zJ1 (t1 t2 t5 t6 : AV) (H : zaa) (K : Kt) (Kb6 : Lt) : awp tP zcQ zxR (zat zxW Kb6 (zxP K)) (zf9 t1 t2 t5 t6) H = zjo t1 t2 t5 t6 H K Kb6 := by kernel_rfl
theorem zJ6 {t1 t2 t5 t6 : AV} {H : zaa} {K : Kt} (Inv : Nat → AV → zaa → Prop) (n : Nat) (h0 : HSc H → Inv n t6 H)
  (round : ∀ n t6 H', Inv n t6 H' → HSc H' → H.length ≤ H'.length → (zf9 t1 t2 t5 t6).all (AV.sc H'.length) = true → ∀ Kb6 : Lt, (∀ F'' H'', (∃ n', n' < n ∧ Back H.length (fun F2 H2 => ∃ t6, F2 = zf9 t1 t2 t5 t6 ∧ Inv n' t6 H2) F'' H'') → Kb6 F'' H'') → zjo t1 t2 t5 t6 H' K Kb6) : zqH t1 t2 t5 t6 H K :=
 zav (M := zcQ) zxW (fun n F H => ∃ t6, F = zf9 t1 t2 t5 t6 ∧ Inv n t6 H) n (fun hs _ => ⟨t6, rfl, h0 hs⟩) (fun n F H' ⟨t6, hF, hI⟩ h1 h2 h3 => by subst hF; rw [zJ1]; exact round n t6 H' hI h1 h2 h3 _ (fun _ _ h => h))
theorem zJ3 (t0 t1 : AV) (H : zaa) (K : Kt) : awp tP zcQ zhT (zal tP zqJ K) (t0 :: t1 :: List.replicate 82 .unk) H = zqE t0 t1 H K := by kernel_rfl
theorem zJ7 {t0 t1 : AV} {H : zaa} {K : Kt} (h : HSc H → zqE t0 t1 H K) : ACalls tP zkk [t0, t1] H K :=
 zaw (M := zcQ) Try.func30 (c := zhT) (by kernel_rfl) (fun hs => (zJ3 t0 t1 H K).mpr (h hs))
def zAn (_ : Nat) : List Bool := []
noncomputable def zAo : Code := Try.f61.body.getD .skip
noncomputable def zMu : List ResultVar := Try.f61.results.toList
def zjy (t0 t1 : AV) (H : zaa) (K : Kt) : Prop :=
 zaH t0 H fun t2 H =>
 zad .geq false t1 (.int .i64 0) fun t6 =>
 zab t6 true H (fun K' => K' t1 H) fun t8 H =>
 zab t6 true H (fun K' => zaf 3 t2 (K' · H)) fun t9 H =>
 zab t6 true H (fun K' => zae false 1 t9 H (K' · H)) fun t10 H =>
 zab t6 true H (fun K' => zak 1 t10 (K' · H)) fun t11 H =>
 zab t6 true H (fun K' => zad .lss false t8 t11 (K' · H)) fun t12 H =>
 zah t6 t12 (.bool false) fun t13 =>
 zab t13 true H (fun K' => zae true 4 t2 H (K' · H)) fun t15 H =>
 zab t13 true H (fun K' => ACalls tP zhi [t15] H K') fun t16 H =>
 zah t13 t16 (.bool false) fun t17 =>
 K t17 H
theorem zMs (t0 t1 : AV) (H : zaa) (K : Kt) : awp tP zAn zAo (zal tP zMu K) (t0 :: t1 :: List.replicate 16 .unk) H = zjy t0 t1 H K := by kernel_rfl
theorem zMt {t0 t1 : AV} {H : zaa} {K : Kt} (h : HSc H → zjy t0 t1 H K) : ACalls tP zkn [t0, t1] H K :=
 zaw (M := zAn) Try.func61 (c := zAo) (by kernel_rfl) (fun hs => (zMs t0 t1 H K).mpr (h hs))
def zhS : Nat → List Bool
 | 2 => rl false [1,1,5,3,7]
 | _ => []
noncomputable def zlN : Code := Try.f29.body.getD .skip
noncomputable def zxN : List ResultVar := Try.f29.results.toList
def zf6 (t1 t7 t8 t9 : AV) : List AV := ux 1 (t1 :: ux 5 (t7 :: t8 :: t9 :: ux 7 []))
def zxM : List Bool := zhS 2
noncomputable def zxK : Code := zap [1, 0, 1, 0, 0] zlN
def zxJ (K : Kt) : AExit → List AV → zaa → Prop := zaq tP zhS [1, 0, 1, 0] zlN (zal tP zxN K)
def zxL (t1 t7 t8 t9 : AV) (H : zaa) (K : Kt) : Prop := ALoop tP zxK (zxJ K) (zf6 t1 t7 t8 t9) H
def zjm (t1 t7 t8 t9 : AV) (H : zaa) (K : Kt) (Kb2 : Lt) : Prop :=
 zad .lss false t9 t8 fun t10 =>
 zag t10
 (zaj 1 t7 t9 fun t11 =>
 zae false 1 t11 H fun t12 =>
 zad .eql false t12 t1 fun t15 =>
 zag t15
 (K (.bool true) H)
 (zad .add false t9 (.int .i64 1) fun t16 =>
 Kb2 (zf6 t1 t7 t8 t16) H))
 (K (.bool false) H)
def zqD (t0 t1 : AV) (H : zaa) (K : Kt) : Prop :=
 zak 1 t0 fun t8 =>
 zxL t1 t0 t8 (.int .i64 0) H K
theorem zJV (t1 t7 t8 t9 : AV) (H : zaa) (K : Kt) (Kb2 : Lt) : awp tP zhS zxK (zat zxM Kb2 (zxJ K)) (zf6 t1 t7 t8 t9) H = zjm t1 t7 t8 t9 H K Kb2 := by kernel_rfl
theorem zJX {t1 t7 t8 t9 : AV} {H : zaa} {K : Kt} (Inv : Nat → AV → zaa → Prop) (n : Nat) (h0 : HSc H → Inv n t9 H)
  (round : ∀ n t9 H', Inv n t9 H' → HSc H' → H.length ≤ H'.length → (zf6 t1 t7 t8 t9).all (AV.sc H'.length) = true → ∀ Kb2 : Lt, (∀ F'' H'', (∃ n', n' < n ∧ Back H.length (fun F2 H2 => ∃ t9, F2 = zf6 t1 t7 t8 t9 ∧ Inv n' t9 H2) F'' H'') → Kb2 F'' H'') → zjm t1 t7 t8 t9 H' K Kb2) : zxL t1 t7 t8 t9 H K :=
 zav (M := zhS) zxM (fun n F H => ∃ t9, F = zf6 t1 t7 t8 t9 ∧ Inv n t9 H) n (fun hs _ => ⟨t9, rfl, h0 hs⟩) (fun n F H' ⟨t9, hF, hI⟩ h1 h2 h3 => by subst hF; rw [zJV]; exact round n t9 H' hI h1 h2 h3 _ (fun _ _ h => h))
theorem zJW (t0 t1 : AV) (H : zaa) (K : Kt) : awp tP zhS zlN (zal tP zxN K) (t0 :: t1 :: List.replicate 15 .unk) H = zqD t0 t1 H K := by kernel_rfl
theorem zJY {t0 t1 : AV} {H : zaa} {K : Kt} (h : HSc H → zqD t0 t1 H K) : ACalls tP ziX [t0, t1] H K :=
 zaw (M := zhS) Try.func29 (c := zlN) (by kernel_rfl) (fun hs => (zJW t0 t1 H K).mpr (h hs))
def zcW : Nat → List Bool
 | 5 => rl false [2,1,2,1,30,3,39]
 | 11 => rl false [2,1,45,3,27]
 | 14 => rl false [2,1,6,1,38,3,6,3,18]
 | _ => []
noncomputable def zit : Code := Try.f10.body.getD .skip
noncomputable def zse : List ResultVar := Try.f10.results.toList
def zg1 (t2 t5 t36 t37 t38 : AV) : List AV := ux 2 (t2 :: ux 2 (t5 :: ux 30 (t36 :: t37 :: t38 :: ux 39 [])))
def zCq : List Bool := zcW 5
noncomputable def zCl : Code := zap [1, 1, 1, 0, 1, 0, 0] zit
def zCj (K : Kt) : AExit → List AV → zaa → Prop := zaq tP zcW [1, 1, 1, 0, 1, 0] zit (zal tP zse K)
def zCo (t2 t5 t36 t37 t38 : AV) (H : zaa) (K : Kt) : Prop := ALoop tP zCl (zCj K) (zg1 t2 t5 t36 t37 t38) H
def zg0 (t2 t48 t49 t50 : AV) : List AV := ux 2 (t2 :: ux 45 (t48 :: t49 :: t50 :: ux 27 []))
def zsd : List Bool := zcW 11
noncomputable def znw : Code := zap [1, 1, 1, 1, 0, 1, 0, 0] zit
def zsc (K : Kt) : AExit → List AV → zaa → Prop := zaq tP zcW [1, 1, 1, 1, 0, 1, 0] zit (zal tP zse K)
def zCm (t2 t48 t49 t50 : AV) (H : zaa) (K : Kt) : Prop := ALoop tP znw (zsc K) (zg0 t2 t48 t49 t50) H
def zeZ (t2 t9 t48 t49 t50 t57 t58 t59 : AV) : List AV := ux 2 (t2 :: ux 6 (t9 :: ux 38 (t48 :: t49 :: t50 :: ux 6 (t57 :: t58 :: t59 :: ux 18 []))))
def zCp : List Bool := zcW 14
noncomputable def zCk : Code := zap [1, 1, 0, 0, 1, 1, 0, 0] znw
def zCi (K : Kt) (Kb11 : Lt) : AExit → List AV → zaa → Prop := zaq tP zcW [1, 1, 0, 0, 1, 1, 0] znw (zat zsd Kb11 (zsc K))
def zCn (t2 t9 t48 t49 t50 t57 t58 t59 : AV) (H : zaa) (K : Kt) (Kb11 : Lt) : Prop := ALoop tP zCk (zCi K Kb11) (zeZ t2 t9 t48 t49 t50 t57 t58 t59) H
def znu (t2 t9 t48 t49 t50 t57 t58 t59 : AV) (H : zaa) (K : Kt) (Kb11 : Lt) (Kb14 : Lt) : Prop :=
 zad .lss false t59 t58 fun t60 =>
 zag t60
 (zaj 1 t57 t59 fun t61 =>
 zae false 1 t61 H fun t62 =>
 zaf 1 t9 fun t63 =>
 zae false 1 t63 H fun t64 =>
 ACalls tP ziX [t64, t62] H fun t66 H =>
 aUn .not t66 fun t67 =>
 zab t67 true H (fun K' => zaf 2 t9 (K' · H)) fun t69 H =>
 zab t67 true H (fun K' => zae false 1 t69 H (K' · H)) fun t70 H =>
 zab t67 true H (fun K' => K' t62 H) fun t71 H =>
 zab t67 true H (fun K' => ACalls tP ziX [t70, t71] H K') fun t72 H =>
 zab t67 true H (fun K' => aUn .not t72 (K' · H)) fun t73 H =>
 zah t67 t73 (.bool false) fun t74 =>
 zag t74
 (K (.bool false) H)
 (zad .add false t59 (.int .i64 1) fun t75 =>
 Kb14 (zeZ t2 t9 t48 t49 t50 t57 t58 t75) H))
 (zad .add false t50 (.int .i64 1) fun t76 =>
 Kb11 (zg0 t2 t48 t49 t76) H)
def znt (t2 t48 t49 t50 : AV) (H : zaa) (K : Kt) (Kb11 : Lt) : Prop :=
 zad .lss false t50 t49 fun t51 =>
 zag t51
 (zaj 7 t48 t50 fun t52 =>
 zae true 7 t52 H fun t53 =>
 zaC [(.str []), .snil, .snil, (.int .i64 0), (.int .i64 0), .snil, (.int .i64 0)] H fun t9 H =>
 zas 7 t9 t53 H fun H =>
 zae true 4 t2 H fun t54 =>
 zaf 6 t9 fun t55 =>
 zae false 1 t55 H fun t56 =>
 ACalls tP zkk [t54, t56] H fun t57 H =>
 zak 1 t57 fun t58 =>
 zCn t2 t9 t48 t49 t50 t57 t58 (.int .i64 0) H K Kb11)
 (ACalls tP zoF [] H fun t77 H =>
 K t77 H)
def znv (t2 t5 t36 t37 t38 : AV) (H : zaa) (K : Kt) (Kb5 : Lt) : Prop :=
 zad .lss false t38 t37 fun t39 =>
 zag t39
 (zaj 1 t36 t38 fun t40 =>
 zae false 1 t40 H fun t41 =>
 ACalls tP ziX [t5, t41] H fun t44 H =>
 aUn .not t44 fun t45 =>
 zag t45
 (K (.bool false) H)
 (zad .add false t38 (.int .i64 1) fun t46 =>
 Kb5 (zg1 t2 t5 t36 t37 t46) H))
 (zaf 1 t2 fun t47 =>
 zae false 1 t47 H fun t48 =>
 zak 1 t48 fun t49 =>
 zCm t2 t48 t49 (.int .i64 0) H K)
def zq8 (t0 t1 : AV) (H : zaa) (K : Kt) : Prop :=
 zaH t0 H fun t2 H =>
 zae true 4 t2 H fun t12 =>
 ACalls tP zoz [t12] H fun t13 H =>
 aUn .not t13 fun t14 =>
 zab t14 false H (fun K' => zae true 4 t2 H (K' · H)) fun t16 H =>
 zab t14 false H (fun K' => ACalls tP zkg [t16] H K') fun t17 H =>
 zab t14 false H (fun K' => aUn .not t17 (K' · H)) fun t18 H =>
 zah t14 (.bool true) t18 fun t19 =>
 zab t19 false H (fun K' => K' t1 H) fun t21 H =>
 zab t19 false H (fun K' => zad .lss false t21 (.int .i64 0) (K' · H)) fun t22 H =>
 zah t19 (.bool true) t22 fun t23 =>
 zab t23 false H (fun K' => K' t1 H) fun t25 H =>
 zab t23 false H (fun K' => zaf 3 t2 (K' · H)) fun t26 H =>
 zab t23 false H (fun K' => zae false 1 t26 H (K' · H)) fun t27 H =>
 zab t23 false H (fun K' => zak 1 t27 (K' · H)) fun t28 H =>
 zab t23 false H (fun K' => zad .geq false t25 t28 (K' · H)) fun t29 H =>
 zah t23 (.bool true) t29 fun t30 =>
 zag t30
 (K (.bool true) H)
 (zae true 4 t2 H fun t31 =>
 ACalls tP zoG [t31, t1] H fun t33 H =>
 zae true 4 t2 H fun t34 =>
 ACalls tP zkk [t34, t1] H fun t36 H =>
 zak 1 t36 fun t37 =>
 zCo t2 t33 t36 t37 (.int .i64 0) H K)
theorem zOq (t2 t9 t48 t49 t50 t57 t58 t59 : AV) (H : zaa) (K : Kt) (Kb11 : Lt) (Kb14 : Lt) : awp tP zcW zCk (zat zCp Kb14 (zCi K Kb11)) (zeZ t2 t9 t48 t49 t50 t57 t58 t59) H = znu t2 t9 t48 t49 t50 t57 t58 t59 H K Kb11 Kb14 := by kernel_rfl
theorem zOu {t2 t9 t48 t49 t50 t57 t58 t59 : AV} {H : zaa} {K : Kt} {Kb11 : Lt} (Inv : Nat → AV → zaa → Prop) (n : Nat) (h0 : HSc H → Inv n t59 H)
  (round : ∀ n t59 H', Inv n t59 H' → HSc H' → H.length ≤ H'.length → (zeZ t2 t9 t48 t49 t50 t57 t58 t59).all (AV.sc H'.length) = true → ∀ Kb14 : Lt, (∀ F'' H'', (∃ n', n' < n ∧ Back H.length (fun F2 H2 => ∃ t59, F2 = zeZ t2 t9 t48 t49 t50 t57 t58 t59 ∧ Inv n' t59 H2) F'' H'') → Kb14 F'' H'') → znu t2 t9 t48 t49 t50 t57 t58 t59 H' K Kb11 Kb14) : zCn t2 t9 t48 t49 t50 t57 t58 t59 H K Kb11 :=
 zav (M := zcW) zCp (fun n F H => ∃ t59, F = zeZ t2 t9 t48 t49 t50 t57 t58 t59 ∧ Inv n t59 H) n (fun hs _ => ⟨t59, rfl, h0 hs⟩) (fun n F H' ⟨t59, hF, hI⟩ h1 h2 h3 => by subst hF; rw [zOq]; exact round n t59 H' hI h1 h2 h3 _ (fun _ _ h => h))
theorem zOp (t2 t48 t49 t50 : AV) (H : zaa) (K : Kt) (Kb11 : Lt) : awp tP zcW znw (zat zsd Kb11 (zsc K)) (zg0 t2 t48 t49 t50) H = znt t2 t48 t49 t50 H K Kb11 := by kernel_rfl
theorem zOt {t2 t48 t49 t50 : AV} {H : zaa} {K : Kt} (Inv : Nat → AV → zaa → Prop) (n : Nat) (h0 : HSc H → Inv n t50 H)
  (round : ∀ n t50 H', Inv n t50 H' → HSc H' → H.length ≤ H'.length → (zg0 t2 t48 t49 t50).all (AV.sc H'.length) = true → ∀ Kb11 : Lt, (∀ F'' H'', (∃ n', n' < n ∧ Back H.length (fun F2 H2 => ∃ t50, F2 = zg0 t2 t48 t49 t50 ∧ Inv n' t50 H2) F'' H'') → Kb11 F'' H'') → znt t2 t48 t49 t50 H' K Kb11) : zCm t2 t48 t49 t50 H K :=
 zav (M := zcW) zsd (fun n F H => ∃ t50, F = zg0 t2 t48 t49 t50 ∧ Inv n t50 H) n (fun hs _ => ⟨t50, rfl, h0 hs⟩) (fun n F H' ⟨t50, hF, hI⟩ h1 h2 h3 => by subst hF; rw [zOp]; exact round n t50 H' hI h1 h2 h3 _ (fun _ _ h => h))
theorem zOr (t2 t5 t36 t37 t38 : AV) (H : zaa) (K : Kt) (Kb5 : Lt) : awp tP zcW zCl (zat zCq Kb5 (zCj K)) (zg1 t2 t5 t36 t37 t38) H = znv t2 t5 t36 t37 t38 H K Kb5 := by kernel_rfl
theorem zOv {t2 t5 t36 t37 t38 : AV} {H : zaa} {K : Kt} (Inv : Nat → AV → zaa → Prop) (n : Nat) (h0 : HSc H → Inv n t38 H)
  (round : ∀ n t38 H', Inv n t38 H' → HSc H' → H.length ≤ H'.length → (zg1 t2 t5 t36 t37 t38).all (AV.sc H'.length) = true → ∀ Kb5 : Lt, (∀ F'' H'', (∃ n', n' < n ∧ Back H.length (fun F2 H2 => ∃ t38, F2 = zg1 t2 t5 t36 t37 t38 ∧ Inv n' t38 H2) F'' H'') → Kb5 F'' H'') → znv t2 t5 t36 t37 t38 H' K Kb5) : zCo t2 t5 t36 t37 t38 H K :=
 zav (M := zcW) zCq (fun n F H => ∃ t38, F = zg1 t2 t5 t36 t37 t38 ∧ Inv n t38 H) n (fun hs _ => ⟨t38, rfl, h0 hs⟩) (fun n F H' ⟨t38, hF, hI⟩ h1 h2 h3 => by subst hF; rw [zOr]; exact round n t38 H' hI h1 h2 h3 _ (fun _ _ h => h))
theorem zOs (t0 t1 : AV) (H : zaa) (K : Kt) : awp tP zcW zit (zal tP zse K) (t0 :: t1 :: List.replicate 76 .unk) H = zq8 t0 t1 H K := by kernel_rfl
theorem zOw {t0 t1 : AV} {H : zaa} {K : Kt} (h : HSc H → zq8 t0 t1 H K) : ACalls tP ztR [t0, t1] H K :=
 zaw (M := zcW) Try.func10 (c := zit) (by kernel_rfl) (fun hs => (zOs t0 t1 H K).mpr (h hs))
end Go.Proofs.Ytkdmpbhbmmhijaa
namespace Go.Proofs.Ytkdmpbhbmmhijaa
open Go Go.Abs
set_option maxRecDepth 8000
open Classical in
noncomputable def chi (n : Nat) (P : Int → Prop) : List Bool := (List.range n).map fun (v : Nat) => decide (P (v : Int))
theorem zsV {n : Nat} {P : Int → Prop} {st : List Bool} (hl : st.length = n) (h : ∀ v : Nat, v < n → (st.getD v false = true ↔ P v)) : st = chi n P := by
 refine List.ext_getElem (by simp [chi, hl]) fun i h1 h2 => ?_
 have h3 := h i (by omega)
 rw [List.getD_eq_getElem?_getD, List.getElem?_eq_getElem h1] at h3
 simp only [chi, List.getElem_map, List.getElem_range, Option.getD_some] at h3 ⊢
 rw [Bool.eq_iff_iff, h3]
 simp
open Classical in
noncomputable def zdO (c : Cor) (P : Nat → Int → Prop) (e : Int) : List Int := if 0 ≤ e ∧ e < (c.exprs.length : Int) ∧ vOk c = true then mem (chi c.vars.length (P e.toNat)) else []
noncomputable def zfp (c : Cor) (e : Int) : List Int := zdO c (InS c) e
noncomputable def zbP (c : Cor) (e : Int) : List Int := zdO c (zel c) e
theorem zAp (c : Cor) (hk : zaR c) (e : Int) (H : zaa) (K : Kt) (h1 : (0 ≤ e ∧ e < (c.exprs.length : Int) ∧ vOk c = true) → K (.bool true) H) (h2 : ¬ (0 ≤ e ∧ e < (c.exprs.length : Int) ∧ vOk c = true) → K (.bool false) H) : ACalls tP zkn [.agg c.cs, .int .i64 e] H K := by
 refine ACalls.out (zMt fun hs => ?_)
 have hat : c.cs = [.sl (c.data.map Dat.cs) .none, .sl (c.codes.map Cod.cs) .none, .sl (VT.css c.vars) .none, .sl (c.exprs.map CEx.cs) .none] := rfl
 have hF : ¬ (0 ≤ e ∧ e < (c.exprs.length : Int) ∧ vOk c = true) → ∀ J, Out H.length K (.bool false) (H ++ J) := fun h J => Out.bool rfl (Nat.le_refl _) hs (h2 h)
 by_cases g1 : 0 ≤ e
 ·by_cases g2 : e < (c.exprs.length : Int)
  ·simp [zjy, hat, g1, g2]
   rw [← hat]
   refine zIC c hk _ _ ?_
   cases hv : vOk c with
   | false => exact hF (by simp [hv]) _
   | true => exact Out.bool rfl (Nat.le_refl _) hs (h1 ⟨g1, g2, hv⟩)
  ·simp [zjy, hat, g1, g2]
   exact hF (by simp [g2]) _
 ·simp [zjy, hat, g1]
  exact hF (by simp [g1]) _
theorem zfq {st : List Bool} {l : List Int} (h : ∀ x ∈ l, 0 ≤ x ∧ x < (st.length : Int)) {v : Nat} : (zaB st l true).getD v false = true ↔ st.getD v false = true ∨ (v : Int) ∈ l := zF8 l st h v
theorem zow {c : Cor} (hk : zaR c) {i : Nat} (h : i < c.exprs.length) : KEx c.exprs[i] := hk.2.2.2.2.2 _ (List.getElem_mem h)
theorem zs0 {c : Cor} (hk : zaR c) {i : Nat} (h : i < c.codes.length) : znP c.codes[i] := hk.2.2.2.2.1 _ (List.getElem_mem h)
theorem zJO {c : Cor} (hk : zaR c) (hT : TreeC c) {H : zaa} (hs : HSc H) (e : Nat) (K : Kt) (hK : K (.sl (ints (mem (chi c.vars.length (InS c e)))) .none) H) {st : List Bool} {i : Nat} (hsl : st.length = c.vars.length) {at' : Nat} (hr : zc5 c i at')
  (hI : ∀ v : Int, InS c e v ↔ (∃ n : Nat, v = n ∧ st.getD n false = true) ∨ InS c at' v) :
  zqz (.ms (H.length + 1) 0 c.vars.length c.vars.length) (.int .i64 at') (.sl (c.codes.map Cod.cs) .none) (.int .i64 c.codes.length) (.int .i64 0) (H ++ [.cells c.cs, boB st]) (Out H.length K) := by
 have hsX : ∀ st, HSc (H ++ [.cells c.cs, boB st]) := fun st => hs.append (by simp [AB.sc, Cor.cs, boB, zdp])
 have hcn := hk.2.1
 have hvn := hk.2.2.2.1.1
 refine zJQ (Inv := fun q t58 H' => ∃ (j : Nat) (st' : List Bool), j ≤ c.codes.length ∧ q = c.codes.length - j ∧ t58 = .int .i64 j ∧ st'.length = c.vars.length ∧ (∀ v : Nat, st'.getD v false = true ↔ st.getD v false = true ∨ ∃ i, i < j ∧ zc5 c i at' ∧ Par c i v) ∧
  H' = H ++ [.cells c.cs, boB st']) c.codes.length ?_ ?_
 ·intro _; exact ⟨0, st, by omega, by omega, rfl, hsl, by simp, rfl⟩
 rintro q t58 H' ⟨j, st', hj, rfl, rfl, hsl', hst', rfl⟩ hsc hlen hsF Kb hKb
 by_cases hlt : j < c.codes.length
 ·obtain ⟨x, y, z, hvv, hx, hy, hz, hce⟩ := zet hlt
  obtain ⟨_, kp, kc, _⟩ := zs0 hk hlt
  have hpar : ∀ v : Int, Par c j v ↔ v ∈ (c.codes[j]).params ∨ v ∈ (c.codes[j]).capt := fun v => ⟨fun ⟨_, h⟩ => List.mem_append.1 h, fun h => ⟨hlt, List.mem_append.2 h⟩⟩
  have hroot : zc5 c j at' ↔ (c.codes[j]).body = (at' : Int) := ⟨fun ⟨_, h⟩ => h, fun h => ⟨hlt, h⟩⟩
  have hrp : ∀ x ∈ (c.codes[j]).params, 0 ≤ x ∧ x < (c.vars.length : Int) := fun x hx => hT.pr ((hpar x).2 (.inl hx))
  have hrc : ∀ x ∈ (c.codes[j]).capt, 0 ≤ x ∧ x < (c.vars.length : Int) := fun x hx => hT.pr ((hpar x).2 (.inr hx))
  generalize hF : c.codes[j] = F at *
  have back : ∀ (st2 : List Bool) (J : zaa), st2.length = c.vars.length → (∀ v : Nat, st2.getD v false = true ↔ st'.getD v false = true ∨ (F.body = (at' : Int) ∧ ((v : Int) ∈ F.params ∨ (v : Int) ∈ F.capt))) →
    zlM (.ms (H.length + 1) 0 c.vars.length c.vars.length) (.int .i64 at') (.sl (c.codes.map Cod.cs) .none) (.int .i64 c.codes.length) (.int .i64 j) (H ++ [.cells c.cs, boB st2] ++ J) (Out H.length K) Kb := fun st2 J h1 h2 => by
   simp [zlM, zxF]
   rw [zar (by omega) (by omega)]
   refine hKb _ _ ⟨c.codes.length - (j + 1), by omega, Back.at (J := J) (H2 := H ++ [.cells c.cs, boB st2]) (by simp) (by simp) (hsX _) ?_ ⟨_, rfl, j + 1, st2, by omega, rfl, by simp, h1, fun v => ?_, rfl⟩⟩
   ·simp [zf3, AV.sc, AV.scV, AV.scA, AV.scB]
   ·rw [h2, hst', or_assoc]
    refine or_congr Iff.rfl ⟨?_, ?_⟩
    ·rintro (⟨i, h3, h4⟩ | ⟨h3, h4⟩)
     ·exact ⟨i, by omega, h4⟩
     ·exact ⟨j, by omega, hroot.2 h3, (hpar _).2 h4⟩
    ·rintro ⟨i, h3, h4, h5⟩
     by_cases h6 : i < j
     ·exact .inl ⟨i, h6, h4, h5⟩
     ·obtain rfl : i = j := by omega
      exact .inr ⟨hroot.1 h4, (hpar _).1 h5⟩
  by_cases hb : F.body = (at' : Int)
  ·have hb' : (F.body == (at' : Int)) = true := by simpa using hb
   simp [zjk, hlt, hF, hce, hx, hy, hz, hb, hb']
   refine zhr (st := st') (n := c.vars.length) (by simp) hsl' (by omega) hrp _ ?_
   simp
   refine zhr (st := zaB st' F.params true) (n := c.vars.length) (by simp) (by simpa using hsl') (by omega) hrc _ ?_
   have := back (zaB (zaB st' F.params true) F.capt true) [.cells [.str F.name, .sl (ints F.params) .none, .sl (ints F.capt) .none, x, y, z, .int .i64 at']] (by simpa using hsl') (fun v => by
    rw [zfq (by simpa [hsl'] using hrc), zfq (by simpa [hsl'] using hrp)]
    simp [hb, or_assoc])
   simpa using this
  ·have hb' : (F.body == (at' : Int)) = false := by simpa using hb
   simp [zjk, hlt, hF, hce, hx, hy, hz, hb, hb']
   have := back st' [.cells [.str F.name, .sl (ints F.params) .none, .sl (ints F.capt) .none, x, y, z, .int .i64 F.body]] hsl' (fun v => by simp [hb])
   simpa using this
 ·obtain rfl : j = c.codes.length := by omega
  have he : st' = chi c.vars.length (InS c e) := zsV hsl' fun v hv => by
   rw [hst', hI, hT.root_InS hr]
   constructor
   ·rintro (h | ⟨i', _, h4, h5⟩)
    ·exact .inl ⟨v, rfl, h⟩
    ·obtain rfl := hT.bod hr h4
     exact .inr h5
   ·rintro (⟨n, h3, h4⟩ | h)
    ·obtain rfl : v = n := by omega
     exact .inl h4
    ·exact .inr ⟨i, hr.1, hr, h⟩
  subst he
  simp [zjk]
  refine zAm (st := chi c.vars.length (InS c e)) (by simp) hsl' (by omega) _ ?_
  exact Out.one hs .rfl' rfl rfl hK
end Go.Proofs.Ytkdmpbhbmmhijaa
namespace Go.Proofs.Ytkdmpbhbmmhijaa
open Go Go.Abs
set_option maxRecDepth 8000
theorem zuj {bs : List (List Int)} {k : Nat} (h : k < bs.length) : (rows bs)[k]? = some [.sl (ints bs[k]) .none] := by
 unfold rows; rw [List.getElem?_map, List.getElem?_eq_getElem h]; rfl
theorem zhg {l : List Int} {k : Nat} (h : k < l.length) : (ints l)[k]? = some [.int .i64 l[k]] := by
 unfold ints; rw [List.getElem?_map, List.getElem?_eq_getElem h]; rfl
theorem zJU (c : Cor) (hk : zaR c) (e : Int) (H : zaa) (K : Kt) (hK : K (.sl (ints (zfp c e)) .none) H) : ACalls tP zoG [.agg c.cs, .int .i64 e] H K := by
 refine ACalls.out (zJT fun hs => ?_)
 have hat : c.cs = [.sl (c.data.map Dat.cs) .none, .sl (c.codes.map Cod.cs) .none, .sl (VT.css c.vars) .none, .sl (c.exprs.map CEx.cs) .none] := rfl
 have hcn := hk.2.1
 have hen := hk.2.2.1
 have hvn := hk.2.2.2.1.1
 simp [zqx, hat]
 rw [← hat]
 refine zAp c hk e _ _ (fun h => ?_) fun h => ?_
 rotate_left
 ·simp
  rw [zfp, zdO, if_neg h] at hK
  exact zt7 hs hK
 rw [zfp, zdO, if_pos h] at hK
 obtain ⟨g1, g2, hv⟩ := h
 have hT := zhA hk hv
 obtain ⟨e, rfl⟩ : ∃ n : Nat, e = n := ⟨e.toNat, by omega⟩
 rw [Int.toNat_natCast] at hK
 have hsX : ∀ st, HSc (H ++ [.cells c.cs, boB st]) := fun st => hs.append (by simp [AB.sc, Cor.cs, boB, zdp])
 simp [hat]
 simp only [zbd, Int.toNat_natCast, zeq]
 refine ⟨⟨by omega, by omega, by omega, by omega⟩, ?_⟩
 rw [zar (by omega) (by omega), ← hat]
 simp only [List.append_assoc, List.cons_append, List.nil_append, List.length_append, List.length_cons, List.length_nil]
 show zqA (.ptr H.length 0) (.ms (H.length + 1) 0 c.vars.length c.vars.length) (.int .i64 e) (.int .i64 ((e : Int) - 1)) (H ++ [.cells c.cs, boB (List.replicate c.vars.length false)]) (Out H.length K)
 refine zJR (Inv := fun q t6 t7 H' => ∃ (i at' : Nat) (st : List Bool), i = q ∧ t6 = .int .i64 at' ∧ t7 = .int .i64 ((i : Int) - 1) ∧ i ≤ at' ∧ at' < c.exprs.length ∧ st.length = c.vars.length ∧
  (∀ p k, Kid c p k at' → p < i) ∧ (∀ v : Int, InS c e v ↔ (∃ n : Nat, v = n ∧ st.getD n false = true) ∨ InS c at' v) ∧ H' = H ++ [.cells c.cs, boB st]) e ?_ ?_
 ·intro _
  refine ⟨e, e, List.replicate c.vars.length false, rfl, rfl, rfl, Nat.le_refl _, by omega, by simp, fun p k h => (hT.lt h).1, fun v => ?_, rfl⟩
  constructor
  ·exact fun h => .inr h
  ·rintro (⟨n, _, h⟩ | h)
   ·rw [List.getD_eq_getElem?_getD, List.getElem?_replicate] at h
    split at h <;> simp at h
   ·exact h
 rintro q t6 t7 H' ⟨i, at', st, rfl, rfl, rfl, hia, hal, hsl, hpar, hI, rfl⟩ hsc hlen hsF Kb hKb
 by_cases h0 : i = 0
 ·subst h0
  have hroot : ∃ i, zc5 c i at' := by
   rcases hT.ex hal with h | ⟨p, k, h⟩
   ·exact h
   ·have := hpar p k h; omega
  obtain ⟨ri, hroot⟩ := hroot
  simp [zlJ, hat]
  rw [← hat]
  exact zJO hk hT hs e K hK hsl hroot hI
 ·obtain ⟨i, rfl⟩ : ∃ j, i = j + 1 := ⟨i - 1, by omega⟩
  have hi : i < c.exprs.length := by omega
  obtain ⟨x, y, z, hvv, hx, hy, hz, hce⟩ := zdH hi
  obtain ⟨_, kb, kk, _, kbl⟩ := zow hk hi
  have hbk : (c.exprs[i]).binds.length = (c.exprs[i]).kids.length := by have := hT.kb i; rwa [zd3 hi, zc0 hi] at this
  have hkr : ∀ x ∈ (c.exprs[i]).kids, 0 ≤ x ∧ x < (c.exprs.length : Int) := fun x hx => hT.kr i x (by rw [zc0 hi]; exact hx)
  have hkid : ∀ k m, Kid c i k m ↔ (c.exprs[i]).kids[k]? = some (m : Int) := fun k m => by unfold Kid; rw [zc0 hi]
  have hbd : ∀ k v, Bind c i k v ↔ ∃ l, (c.exprs[i]).binds[k]? = some l ∧ v ∈ l := fun k v => by unfold Bind; rw [zd3 hi]
  have e1 : ((i + 1 : Nat) : Int) - 1 = i := by omega
  generalize hE : c.exprs[i] = E at *
  have hpos : (0 : Int) ≤ i := by omega
  have back : ∀ (at2 : Nat) (st2 : List Bool), i ≤ at2 → at2 < c.exprs.length → st2.length = c.vars.length → (∀ p k, Kid c p k at2 → p < i) → (∀ v : Int, InS c e v ↔ (∃ n : Nat, v = n ∧ st2.getD n false = true) ∨ InS c at2 v) →
    zlL (.ptr H.length 0) (.ms (H.length + 1) 0 c.vars.length c.vars.length) (.int .i64 at2) (.int .i64 i) (H ++ [.cells c.cs, boB st2]) (Out H.length K) Kb := by
   intro at2 st2 h1 h2 h3 h4 h5
   simp [zlL, zxD, zxE]
   rw [zar (by omega) (by omega)]
   refine hKb _ _ ⟨i, by omega, Back.here (by simp) (hsX _) ?_ ⟨_, _, rfl, i, at2, st2, rfl, rfl, rfl, h1, h2, h3, h4, h5, rfl⟩⟩
   simp [zf4, AV.sc, AV.scV, AV.scA, AV.scB]
   try omega
  rw [e1]
  simp [zlJ, hat, hpos, hi, hE, hce]
  rw [← hat]
  refine zJS (Inv := fun q t6 t34 H' => ∃ k : Nat, k ≤ E.kids.length ∧ q = E.kids.length - k ∧ t6 = .int .i64 at' ∧ t34 = .int .i64 k ∧ (∀ k', k' < k → ¬ Kid c i k' at') ∧ H' = H ++ [.cells c.cs, boB st]) E.kids.length ?_ ?_
  ·intro _; exact ⟨0, by omega, by omega, rfl, rfl, fun _ h => by omega, rfl⟩
  rintro q t6 t34 H' ⟨k, hkl, rfl, rfl, rfl, hno, rfl⟩ hsc2 hlen2 hsF2 Kb9 hKb9
  by_cases hlt : k < E.kids.length
  ·have hra := hkr _ (List.getElem_mem hlt)
   by_cases heq : E.kids[k] = (at' : Int)
   ·have hKid : Kid c i k at' := by rw [hkid, List.getElem?_eq_getElem hlt, heq]
    have hkb : k < E.binds.length := by omega
    have hbl : (E.binds[k]).length ≤ 10 := kbl _ (List.getElem_mem hkb)
    have hbr : ∀ x ∈ E.binds[k], 0 ≤ x ∧ x < (c.vars.length : Int) := fun x hx => hT.br ((hbd k x).2 ⟨_, List.getElem?_eq_getElem hkb, hx⟩)
    simp [zjl, hlt, heq, hat, hi, hE, hce, hkb, zuj, zhg]
    refine zhr (st := st) (n := c.vars.length) (by simp) hsl (by omega) hbr _ ?_
    have := back i (zaB st E.binds[k] true) (Nat.le_refl _) hi (by simpa using hsl) (fun p k h => (hT.lt h).1) (fun v => by
     rw [hI v, hT.kid_InS hKid]
     constructor
     ·rintro (⟨n, rfl, h⟩ | h | h)
      ·exact .inl ⟨n, rfl, (zfq (by simpa [hsl] using hbr)).2 (.inl h)⟩
      ·exact .inr h
      ·obtain ⟨l, h1, h2⟩ := (hbd k v).1 h
       have h3 := hT.br h
       rw [List.getElem?_eq_getElem hkb] at h1
       obtain rfl := Option.some.inj h1
       exact .inl ⟨v.toNat, by omega, (zfq (by simpa [hsl] using hbr)).2 (.inr (by rw [show ((v.toNat : Nat) : Int) = v by omega]; exact h2))⟩
     ·rintro (⟨n, rfl, h⟩ | h)
      ·rcases (zfq (by simpa [hsl] using hbr)).1 h with h1 | h1
       ·exact .inl ⟨n, rfl, h1⟩
       ·exact .inr (.inr ((hbd k n).2 ⟨_, List.getElem?_eq_getElem hkb, h1⟩))
      ·exact .inr (.inl h))
    simpa [hat] using this
   ·have heq' : (E.kids[k] == (at' : Int)) = false := by simpa using heq
    simp [zjl, hlt, heq, heq', zhg]
    rw [zar (by omega) (by omega)]
    refine hKb9 _ _ ⟨E.kids.length - (k + 1), by omega, Back.here (by simp) (hsX _) ?_ ⟨_, _, rfl, k + 1, by omega, rfl, rfl, by simp, fun k' h1 h2 => ?_, rfl⟩⟩
    ·simp [zf5, AV.sc, AV.scV, AV.scA, AV.scB]
     try omega
    ·by_cases h3 : k' < k
     ·exact hno k' h3 h2
     ·obtain rfl : k' = k := by omega
      rw [hkid, List.getElem?_eq_getElem hlt] at h2
      exact heq (Option.some.inj h2)
  ·obtain rfl : k = E.kids.length := by omega
   simp [zjl]
   refine back at' st (by omega) hal hsl (fun p k h => ?_) hI
   have h1 := hpar p k h
   by_cases h2 : p = i
   ·subst h2
    have h3 := (hkid k at').1 h
    exact absurd h (hno k (List.getElem?_eq_some_iff.1 h3).1)
   ·omega
theorem zF7 (l : List Int) : ∀ (st : List Bool), (∀ x ∈ l, 0 ≤ x) → ∀ v : Nat, (zaB st l false).getD v false = true ↔ st.getD v false = true ∧ (v : Int) ∉ l := by
 induction l with
 | nil => intro st _ v; simp [zaB]
 | cons a l ih =>
  intro st h v
  rw [zkK, ih _ (fun x hx => h x (by simp [hx])), zi6]
  have ha := h a (by simp)
  by_cases hh : a.toNat = v ∧ v < st.length
  ·rw [if_pos hh]
   have : (v : Int) = a := by omega
   simp [this]
  ·rw [if_neg hh]
   by_cases h2 : (v : Int) = a
   ·have h3 : ¬ v < st.length := by omega
    have h4 : st.getD v false = false := by rw [List.getD_eq_getElem?_getD, List.getElem?_eq_none (by omega)]; rfl
    rw [h4]
    simp
   ·simp [h2]
theorem ztt {st : List Bool} {i : Nat} (h : i < st.length) : st.getD i false = st[i] := by rw [List.getD_eq_getElem?_getD, List.getElem?_eq_getElem h]; rfl
theorem zjT {st : List Bool} {i : Nat} (h : i < st.length) : (zaV st)[i]? = some (.bool st[i]) := by simp [zaV, h]
theorem zJ2 {c : Cor} (hk : zaR c) (hT : TreeC c) {H : zaa} (hs : HSc H) (e : Nat) (he : e < c.exprs.length) (K : Kt) (hK : K (.sl (ints (mem (chi c.vars.length (zel c e)))) .none) H) {st : List Bool} (hsl : st.length = c.exprs.length) (hin : ∀ j, st.getD j false = true ↔ Sub c e j) :
  zqG (.int .i64 e) (.ptr H.length 0) (.ms (H.length + 1) 0 c.exprs.length c.exprs.length) (.ms (H.length + 2) 0 c.vars.length c.vars.length) (.int .i64 ((c.exprs.length : Int) - 1)) (H ++ [.cells c.cs, boB st, boB (List.replicate c.vars.length false)]) (Out H.length K) := by
 have hat : c.cs = [.sl (c.data.map Dat.cs) .none, .sl (c.codes.map Cod.cs) .none, .sl (VT.css c.vars) .none, .sl (c.exprs.map CEx.cs) .none] := rfl
 have hcn := hk.2.1
 have hen := hk.2.2.1
 have hvn := hk.2.2.2.1.1
 have hsX : ∀ st2, HSc (H ++ [.cells c.cs, boB st, boB st2]) := fun st2 => hs.append (by simp [AB.sc, Cor.cs, boB, zdp])
 refine zJ4 (Inv := fun q t8 H' => ∃ (i : Nat) (st2 : List Bool), i = q + e ∧ e ≤ i ∧ i ≤ c.exprs.length ∧ t8 = .int .i64 ((i : Int) - 1) ∧ st2.length = c.vars.length ∧
  (∀ v : Nat, st2.getD v false = true ↔ (∃ j, i ≤ j ∧ Sub c e j ∧ (v : Int) ∈ zch c j) ∧ ¬ ∃ j k, i ≤ j ∧ Sub c e j ∧ Bind c j k v) ∧ H' = H ++ [.cells c.cs, boB st, boB st2]) (c.exprs.length - e) ?_ ?_
 ·intro _
  refine ⟨c.exprs.length, List.replicate c.vars.length false, by omega, by omega, Nat.le_refl _, rfl, by simp, fun v => ?_, rfl⟩
  constructor
  ·intro h
   rw [List.getD_eq_getElem?_getD, List.getElem?_replicate] at h
   split at h <;> simp at h
  ·rintro ⟨⟨j, h1, h2, h3⟩, _⟩
   have := zpJ h3
   omega
 rintro q t8 H' ⟨i, st2, hq, hei, hin2, rfl, hsl2, hI, rfl⟩ hsc hlen hsF Kb hKb
 by_cases h0 : i = e
 ·have hlt : ¬ (e : Int) ≤ (i : Int) - 1 := by omega
  have hst : st2 = chi c.vars.length (zel c e) := zsV hsl2 fun v hv => by
   rw [hI]
   unfold zel Occ Bnd
   constructor
   ·rintro ⟨⟨j, h1, h2, h3⟩, h4⟩
    refine ⟨⟨j, h2, h3⟩, ?_⟩
    rintro ⟨j', k, h5, h6⟩
    exact h4 ⟨j', k, by have := hT.sub_le h5; omega, h5, h6⟩
   ·rintro ⟨⟨j, h2, h3⟩, h4⟩
    refine ⟨⟨j, by have := hT.sub_le h2; omega, h2, h3⟩, ?_⟩
    rintro ⟨j', k, _, h5, h6⟩
    exact h4 ⟨j', k, h5, h6⟩
  simp [zjn, hlt]
  refine zAm (st := st2) (by simp) hsl2 (by omega) _ ?_
  rw [hst]
  exact Out.one hs .rfl' rfl rfl hK
 ·obtain ⟨i, rfl⟩ : ∃ j, i = j + 1 := ⟨i - 1, by omega⟩
  have hi : i < c.exprs.length := by omega
  have e1 : ((i + 1 : Nat) : Int) - 1 = i := by omega
  rw [e1]
  have hge : (e : Int) ≤ i := by omega
  have hge' : e ≤ i := by omega
  obtain ⟨x, y, z, hvv, hx, hy, hz, hce⟩ := zdH hi
  obtain ⟨kv, kb, kk, _, kbl⟩ := zow hk hi
  have hva : zch c i = (c.exprs[i]).vars := zuW hi
  have hvr : ∀ x ∈ (c.exprs[i]).vars, 0 ≤ x ∧ x < (c.vars.length : Int) := fun x hx => hT.vr i x (by rw [hva]; exact hx)
  have hbd : ∀ k v, Bind c i k v ↔ ∃ l, (c.exprs[i]).binds[k]? = some l ∧ v ∈ l := fun k v => by unfold Bind; rw [zd3 hi]
  generalize hE : c.exprs[i] = E at *
  have back : ∀ st3 : List Bool, st3.length = c.vars.length → (∀ v : Nat, st3.getD v false = true ↔ (∃ j, i ≤ j ∧ Sub c e j ∧ (v : Int) ∈ zch c j) ∧ ¬ ∃ j k, i ≤ j ∧ Sub c e j ∧ Bind c j k v) →
    zlR (.int .i64 e) (.ptr H.length 0) (.ms (H.length + 1) 0 c.exprs.length c.exprs.length) (.ms (H.length + 2) 0 c.vars.length c.vars.length) (.int .i64 i) (H ++ [.cells c.cs, boB st, boB st3]) (Out H.length K) Kb := fun st3 h1 h2 => by
   simp [zlR, zxT]
   rw [zar (by omega) (by omega)]
   refine hKb _ _ ⟨i - e, by omega, Back.here (by simp) (hsX _) ?_ ⟨_, rfl, i, st3, by omega, by omega, by omega, rfl, h1, h2, rfl⟩⟩
   simp [zf7, AV.sc, AV.scV, AV.scA, AV.scB]
   try omega
  have his : i < st.length := by omega
  have hg := ztt his
  have hsub := hin i
  rw [hg] at hsub
  have split_le : ∀ P : Nat → Prop, (∃ j, i ≤ j ∧ P j) ↔ (∃ j, i + 1 ≤ j ∧ P j) ∨ P i := fun P => by
   constructor
   ·rintro ⟨j, h1, h2⟩
    by_cases h3 : j = i
    ·subst h3; exact .inr h2
    ·exact .inl ⟨j, by omega, h2⟩
   ·rintro (⟨j, h1, h2⟩ | h)
    ·exact ⟨j, by omega, h2⟩
    ·exact ⟨i, Nat.le_refl _, h⟩
  cases hb : st[i] with
  | false =>
   have hns : ¬ Sub c e i := by rw [← hsub, hb]; simp
   simp [zjn, hge, hge', boB, hsl, zaP, zjT his, hi, his, hb]
   refine back st2 hsl2 fun v => ?_
   rw [hI v]
   refine and_congr ?_ (not_congr ?_)
   ·rw [split_le fun j => Sub c e j ∧ (v : Int) ∈ zch c j]; simp [hns]
   ·constructor
    ·rintro ⟨j, k, h1, h2⟩; exact ⟨j, k, by omega, h2⟩
    ·rintro ⟨j, k, h1, h2, h3⟩
     refine ⟨j, k, ?_, h2, h3⟩
     by_cases h4 : j = i
     ·subst h4; exact absurd h2 hns
     ·omega
  | true =>
   have hs1 : Sub c e i := hsub.1 hb
   simp [zjn, hge, hge', boB, hsl, zaP, zjT his, his, hb, hat, hi, hE, hce]
   rw [← hat]
   refine zhr (st := st2) (n := c.vars.length) (by simp [boB]) hsl2 (by omega) hvr _ ?_
   simp [hat, hi, hE, hce]
   rw [← hat]
   refine zJ5 (Inv := fun q t74 H' => ∃ (k : Nat) (st3 : List Bool), k ≤ E.binds.length ∧ q = E.binds.length - k ∧ t74 = .int .i64 k ∧ st3.length = c.vars.length ∧ (∀ v : Nat, st3.getD v false = true ↔ (st2.getD v false = true ∨ (v : Int) ∈ E.vars) ∧ ¬ ∃ k', k' < k ∧ Bind c i k' v) ∧
    H' = H ++ [.cells c.cs, boB st, boB st3]) E.binds.length ?_ ?_
   ·intro _
    refine ⟨0, zaB st2 E.vars true, by omega, by omega, rfl, by simpa using hsl2, fun v => ?_, by simp [boB]⟩
    rw [zfq (by simpa [hsl2] using hvr)]
    simp
   rintro q t74 H' ⟨k, st3, hkl, rfl, rfl, hsl3, hI3, rfl⟩ hsc2 hlen2 hsF2 Kb17 hKb17
   by_cases hlt : k < E.binds.length
   ·have hbl : (E.binds[k]).length ≤ 10 := kbl _ (List.getElem_mem hlt)
    have hbr : ∀ x ∈ E.binds[k], 0 ≤ x ∧ x < (c.vars.length : Int) := fun x hx => hT.br ((hbd k x).2 ⟨_, List.getElem?_eq_getElem hlt, hx⟩)
    simp [zlO, hlt, zuj]
    refine zhr (st := st3) (n := c.vars.length) (by simp) hsl3 (by omega) hbr _ ?_
    simp
    rw [zar (by omega) (by omega)]
    refine hKb17 _ _ ⟨E.binds.length - (k + 1), by omega, Back.here (by simp) (hsX _) ?_ ⟨_, rfl, k + 1, zaB st3 E.binds[k] false, by omega, rfl, by simp, by simpa using hsl3, fun v => ?_, rfl⟩⟩
    ·simp [zf8, AV.sc, AV.scV, AV.scA, AV.scB]
     try omega
    ·rw [zF7 _ _ (fun x hx => (hbr x hx).1), hI3, and_assoc]
     refine and_congr Iff.rfl ?_
     constructor
     ·rintro ⟨h1, h2⟩ ⟨k', h3, h4⟩
      by_cases h5 : k' < k
      ·exact h1 ⟨k', h5, h4⟩
      ·obtain rfl : k' = k := by omega
       obtain ⟨l, h6, h7⟩ := (hbd k' v).1 h4
       rw [List.getElem?_eq_getElem hlt] at h6
       obtain rfl := Option.some.inj h6
       exact h2 h7
     ·intro h
      exact ⟨fun ⟨k', h1, h2⟩ => h ⟨k', by omega, h2⟩, fun h1 => h ⟨k, by omega, (hbd k v).2 ⟨_, List.getElem?_eq_getElem hlt, h1⟩⟩⟩
   ·obtain rfl : k = E.binds.length := by omega
    simp [zlO]
    refine back st3 hsl3 fun v => ?_
    rw [hI3, hI, split_le fun j => Sub c e j ∧ (v : Int) ∈ zch c j]
    have hk1 : (∃ k', k' < E.binds.length ∧ Bind c i k' v) ↔ ∃ k', Bind c i k' v := by
     constructor
     ·rintro ⟨k', _, h⟩; exact ⟨k', h⟩
     ·rintro ⟨k', h⟩
      obtain ⟨l, h1, _⟩ := (hbd k' v).1 h
      exact ⟨k', (List.getElem?_eq_some_iff.1 h1).1, h⟩
    rw [hk1, hva]
    constructor
    ·rintro ⟨h1, h2⟩
     refine ⟨?_, ?_⟩
     ·rcases h1 with ⟨h1, _⟩ | h1
      ·exact .inl h1
      ·exact .inr ⟨hs1, h1⟩
     ·rintro ⟨j, k', h3, h4, h5⟩
      by_cases h6 : j = i
      ·subst h6; exact h2 ⟨k', h5⟩
      ·rcases h1 with ⟨_, h1⟩ | h1
       ·exact h1 ⟨j, k', by omega, h4, h5⟩
       ·have := hT.bound_lt (hT.sc (by rw [hva]; exact h1)) h5
        omega
    ·rintro ⟨h1, h2⟩
     refine ⟨?_, fun ⟨k', h3⟩ => h2 ⟨i, k', Nat.le_refl _, hs1, h3⟩⟩
     rcases h1 with h1 | ⟨_, h1⟩
     ·exact .inl ⟨h1, fun ⟨j, k', h3, h4⟩ => h2 ⟨j, k', by omega, h4⟩⟩
     ·exact .inr h1
theorem zxX (c : Cor) (hk : zaR c) (e : Int) (H : zaa) (K : Kt) (hK : K (.sl (ints (zbP c e)) .none) H) : ACalls tP zkk [.agg c.cs, .int .i64 e] H K := by
 refine ACalls.out (zJ7 fun hs => ?_)
 have hat : c.cs = [.sl (c.data.map Dat.cs) .none, .sl (c.codes.map Cod.cs) .none, .sl (VT.css c.vars) .none, .sl (c.exprs.map CEx.cs) .none] := rfl
 have hcn := hk.2.1
 have hen := hk.2.2.1
 have hvn := hk.2.2.2.1.1
 simp [zqE, hat]
 rw [← hat]
 refine zAp c hk e _ _ (fun h => ?_) fun h => ?_
 rotate_left
 ·simp
  rw [zbP, zdO, if_neg h] at hK
  exact zt7 hs hK
 rw [zbP, zdO, if_pos h] at hK
 obtain ⟨g1, g2, hv⟩ := h
 have hT := zhA hk hv
 obtain ⟨e, rfl⟩ : ∃ n : Nat, e = n := ⟨e.toNat, by omega⟩
 rw [Int.toNat_natCast] at hK
 have hel : e < c.exprs.length := by omega
 have hsX : ∀ st, HSc (H ++ [.cells c.cs, boB st]) := fun st => hs.append (by simp [AB.sc, Cor.cs, boB, zdp])
 simp [hat]
 simp only [zbd, Int.toNat_natCast, zeq]
 refine ⟨⟨by omega, by omega, by omega, by omega⟩, ?_⟩
 simp [hel]
 rw [zer (by simpa using hel), ← hat]
 refine ⟨by omega, ?_⟩
 show zqH (.int .i64 e) (.ptr H.length 0) (.ms (H.length + 1) 0 c.exprs.length c.exprs.length) (.int .i64 e) (H ++ [.cells c.cs, boB ((List.replicate c.exprs.length false).set e true)]) (Out H.length K)
 refine zJ6 (Inv := fun q t6 H' => ∃ (i : Nat) (st : List Bool), e ≤ i ∧ i ≤ c.exprs.length ∧ q = c.exprs.length - i ∧ t6 = .int .i64 i ∧ st.length = c.exprs.length ∧
  (∀ j, st.getD j false = true ↔ j = e ∨ ∃ p k, p < i ∧ Sub c e p ∧ Kid c p k j) ∧ H' = H ++ [.cells c.cs, boB st]) (c.exprs.length - e) ?_ ?_
 ·intro _
  refine ⟨e, _, Nat.le_refl _, by omega, rfl, rfl, by simp, fun j => ?_, rfl⟩
  rw [zi6]
  constructor
  ·intro h
   split at h
   ·rename_i h1; exact .inl h1.1.symm
   ·rw [List.getD_eq_getElem?_getD, List.getElem?_replicate] at h
    split at h <;> simp at h
  ·rintro (rfl | ⟨p, k, h1, h2, h3⟩)
   ·rw [if_pos ⟨rfl, by simpa using hel⟩]
   ·have := hT.sub_le h2
    omega
 rintro q t6 H' ⟨i, st, hei, hil, rfl, rfl, hsl, hI, rfl⟩ hsc hlen hsF Kb hKb
 by_cases hlt : i < c.exprs.length
 ·obtain ⟨x, y, z, hvv, hx, hy, hz, hce⟩ := zdH hlt
  obtain ⟨_, kb, kk, _, kbl⟩ := zow hk hlt
  have hka : zcz c i = (c.exprs[i]).kids := zc0 hlt
  have hkr : ∀ x ∈ (c.exprs[i]).kids, 0 ≤ x ∧ x < (c.exprs.length : Int) := fun x hx => hT.kr i x (by rw [hka]; exact hx)
  generalize hE : c.exprs[i] = E at *
  have hsub : st.getD i false = true ↔ Sub c e i := by
   rw [hI]
   constructor
   ·rintro (rfl | ⟨p, k, _, h2, h3⟩)
    ·exact .refl
    ·exact .step h2 h3
   ·intro h
    cases h with
    | refl => exact .inl rfl
    | step h1 h2 => exact .inr ⟨_, _, (hT.lt h2).1, h1, h2⟩
  have his : i < st.length := by omega
  rw [ztt his] at hsub
  have back : ∀ st2 : List Bool, st2.length = c.exprs.length → (∀ j, st2.getD j false = true ↔ j = e ∨ ∃ p k, p < i + 1 ∧ Sub c e p ∧ Kid c p k j) →
    zlQ (.int .i64 e) (.ptr H.length 0) (.ms (H.length + 1) 0 c.exprs.length c.exprs.length) (.int .i64 i) (H ++ [.cells c.cs, boB st2]) (Out H.length K) Kb := fun st2 h1 h2 => by
   simp [zlQ, zxS]
   rw [zar (by omega) (by omega)]
   refine hKb _ _ ⟨c.exprs.length - (i + 1), by omega, Back.here (by simp) (hsX _) ?_ ⟨_, rfl, i + 1, st2, by omega, by omega, rfl, by simp, h1, h2, rfl⟩⟩
   simp [zf9, AV.sc, AV.scV, AV.scA, AV.scB]
   try omega
  cases hb : st[i] with
  | false =>
   have hns : ¬ Sub c e i := by rw [← hsub, hb]; simp
   simp [zjo, hat, hlt, boB, hsl, zaP, zjT his, his, hb]
   rw [← hat]
   refine back st hsl fun j => ?_
   rw [hI]
   refine or_congr Iff.rfl ⟨fun ⟨p, k, h1, h2⟩ => ⟨p, k, by omega, h2⟩, fun ⟨p, k, h1, h2, h3⟩ => ⟨p, k, ?_, h2, h3⟩⟩
   by_cases h4 : p = i
   ·subst h4; exact absurd h2 hns
   ·omega
  | true =>
   have hs1 := hsub.1 hb
   simp [zjo, hat, hlt, boB, hsl, zaP, zjT his, his, hb, hE, hce]
   rw [← hat]
   refine zhr (st := st) (n := c.exprs.length) (by simp [boB]) hsl (by omega) hkr _ ?_
   have := back (zaB st E.kids true) (by simpa using hsl) (fun j => by
    rw [zfq (by simpa [hsl] using hkr), hI, or_assoc]
    refine or_congr Iff.rfl ⟨?_, ?_⟩
    ·rintro (⟨p, k, h1, h2⟩ | h)
     ·exact ⟨p, k, by omega, h2⟩
     ·obtain ⟨k, hk1, hk2⟩ := List.mem_iff_getElem.1 h
      exact ⟨i, k, by omega, hs1, by unfold Kid; rw [hka, List.getElem?_eq_getElem hk1, hk2]⟩
    ·rintro ⟨p, k, h1, h2, h3⟩
     by_cases h4 : p = i
     ·subst h4; exact .inr (by rw [← hka]; exact h3.mem)
     ·exact .inl ⟨p, k, by omega, h2, h3⟩)
   simpa [boB, hat] using this
 ·obtain rfl : i = c.exprs.length := by omega
  simp [zjo, hat]
  simp only [zbd, Int.toNat_natCast, zeq]
  refine ⟨⟨by omega, by omega, by omega, by omega⟩, ?_⟩
  simp
  rw [zar (by omega) (by omega), ← hat]
  have := zJ2 hk hT hs e hel K hK (st := st) hsl (fun j => by
   rw [hI]
   constructor
   ·rintro (rfl | ⟨p, k, _, h2, h3⟩)
    ·exact .refl
    ·exact .step h2 h3
   ·intro h
    cases h with
    | refl => exact .inl rfl
    | step h1 h2 =>
     have := hT.lt h2
     exact .inr ⟨_, _, by omega, h1, h2⟩)
  simpa [boB] using this
end Go.Proofs.Ytkdmpbhbmmhijaa
namespace Go.Abs
open Go Go.RowKit
variable {P : Program} {B : Nat} {w : World} {G : Gh} {H : zaa}
def ze8 (esz : Nat) (zero : List AV) (len : Nat) (parts : List (Nat × AV)) (H : zaa) (K : Kt) : Prop :=
 match zbx zero with
 | some z => (match zdf esz parts (List.replicate len z) with
  | some es => K (.ms H.length 0 len len) (H ++ [.cells es.flatten])
  | none => False)
 | none => False
theorem zEq {v : Value} {a : AV} (h : DRel w G.L v a) : ARel w G v a := by
 cases h with
 | bool b => rfl
 | int k n => rfl
 | str s => rfl
 | slE a cap => exact .slE a cap
 | sl b off cap esz es vs hne hcap hL hsz hc hd => exact .sl b off cap esz es vs hne hcap hL hsz hc hd
theorem zGl {t e : TypeId} {size len : Nat} {z : Value} {parts : Array (Nat × Value)} {aparts : List (Nat × AV)} {K : AV → zaa → Prop} (hH : HRel B w G H) (he : zbl P t = some e) (hn : zba P e = some size)
  (hz : zbM P e = some z) (h0 : 0 < size) (hlen : len * size ≤ 16777216) (hzl : (zbo z).length = size)
  (hr : All2 (fun (p : Nat × Value) (q : Nat × AV) => p.1 = q.1 ∧ TRel w G p.2 q.2) parts.toList aparts) (h : ze8 size (zbo z) len aparts H K) :
  OpOK P B w G K (((do pure (.value (← Instr.buildSlice t len parts))) : Sem Next).run P w) := by
 unfold ze8 at h
 split at h
 ·rename_i zc hzc
  split at h
  ·rename_i es hes
   have hzr := zeG (w := w) (G := G) z
   have hzs : z.cells.size = size := by have := hzr.length; simp at this; omega
   have hzd := zhq hzr hzc
   have hm := zoy hzd (by omega) len
   rw [hzs] at hm
   have hzcl : zc.length = size := by rw [zpd hzc]; exact hzl
   have hall : ∀ c ∈ List.replicate len zc, c.length = size := fun c hc => by rw [List.eq_of_mem_replicate hc, hzcl]
   obtain ⟨cells', h1, h2, h3, h4⟩ := zoh parts.toList aparts _ _ es hall hr hm hes
   simp at h4
   obtain ⟨hx, hH'⟩ := hH.new cells' e es.flatten (h2.mono fun _ _ => zEq)
   have hrun : ((do pure (.value (← Instr.buildSlice t len parts))) : Sem Next).run P w = .ok (.value (.slice (some ⟨w.heap.size, 0, none⟩) len len)) (w.alloc (.cells cells' e)) := by
    have hbig : ¬ (2 ^ 24 < len * size) := by omega
    by_cases hl0 : len * size = 0
    ·have hl : len = 0 := by rcases Nat.mul_eq_zero.1 hl0 with h | h <;> omega
     subst hl
     simp only [Nat.zero_mul, Array.range_zero', Array.map_empty] at h1
     simp [Instr.buildSlice, za5 (zcK he), zb5 hn, h1, newRow, World.alloc_eq, Array.range_zero']
    ·simp [Instr.buildSlice, za5 (zcK he), zb5 hn, zfo hz, hbig, hl0, hzs, h1, newRow, World.alloc_eq]
   rw [hrun]
   refine ⟨.ms H.length 0 len len, _, _, hx, hH', ⟨w.heap.size, ?_, rfl⟩, h⟩
   rw [← hH.len]; simp
  ·exact h.elim
 ·exact h.elim
def znX (P : Program) (o : Oper) (F : List AV) (H : zaa) (K : Kt) : Prop :=
 match o.op with
 | .buildSlice t len parts => (match (zbl P t).bind (zba P), (zbl P t).bind (zbM P) with
  | some size, some z => (match decide (0 < size) && decide (len * size ≤ 16777216) && (zbo z).length == size with
   | true => ze8 size (zbo z) len (parts.toList.map fun p => (p.1, ev F p.2)) H K
   | false => False)
  | _, _ => False)
 | _ => aop P o F H K
theorem zE9 {o : Oper} {a : Act} {F : List AV} {K : AV → zaa → Prop} (hH : HRel B w G H) (hF : FRel w G a.tmps F) (h : znX P o F H K) : OpOK P B w G K ((execOp a.eval o).run P w) := by
 unfold znX at h
 split at h
 ·rename_i t len parts hop
  obtain ⟨dst, op, type, pos, after, guard⟩ := o
  simp only [] at hop
  subst hop
  simp only [execOp]
  split at h
  ·rename_i size z hs hz
   split at h
   ·rename_i hb
    simp only [Bool.and_eq_true, decide_eq_true_eq, beq_iff_eq] at hb
    cases he : zbl P t with
    | none => simp [he] at hs
    | some e =>
     simp only [he, Option.bind_some] at hs hz
     exact zGl hH he hs hz hb.1.1 hb.1.2 hb.2 (by simpa using zpc hF parts.toList) h
   ·exact h.elim
  ·exact h.elim
 ·exact zi4 hH hF h
def zkG (P : Program) : List Oper → Lt → List AV → zaa → Prop
 | [], K, F, H => K F H
 | o :: os, K, F, H => match o.guard with
  | none => znX P o F H fun v H' => zkG P os K (zbK F o.dst v) H'
  | some _ => False
theorem zum {ops : Array Oper} {K : List AV → zaa → Prop} {Q : Exit → Act → World → Prop} {w0 : World} {G0 : Gh}
  (hQ : ∀ a w G F H, Ext B w0 G0 w G → HRel B w G H → FRel w G a.tmps F → a.defers = [] → K F H → Q .normal a w) :
  ∀ (l : List Oper) (F : List AV) (H : zaa) (a : Act) (w : World) (G : Gh), Ext B w0 G0 w G → HRel B w G H → FRel w G a.tmps F → a.defers = [] → zkG P l K F H → wpList P ops Q l a w
 | [], F, H, a, w, G, hE, hH, hF, hd, h => hQ a w G F H hE hH hF hd h
 | o :: l, F, H, a, w, G, hE, hH, hF, hd, h => by
  refine wpList_step fun K' hK' => ?_
  unfold zkG at h
  split at h
  ·rename_i hg
   rw [if_pos (by simp [Region.wanted, hg])]
   exact zi5 hF (zE9 hH hF h) fun v av w' G' H' h1 h2 h3 h4 =>
    hK' _ _ (zum hQ l _ _ _ _ G' (hE.trans h1) h2 ((hF.ext h1).put h3) (by cases hdst : o.dst <;> simpa [Act.put, hdst] using hd) h4)
  ·exact h.elim
def ziC (P : Program) : Code → (AExit → List AV → zaa → Prop) → List AV → zaa → Prop
 | .region _ ops false, Q, F, H => zkG P ops.toList (Q .normal) F H
 | .seq a b, Q, F, H => ziC P a (zpl (ziC P b Q) Q) F H
 | .ret, Q, F, H => Q .ret F H
 | _, _, _, _ => False
theorem zDD : ∀ (c : Code) (Q : AExit → List AV → zaa → Prop) (F : List AV) (H : zaa), ziC P c Q F H → AWp P c Q F H := by
 intro c
 induction c with
 | region id ops draw =>
  intro Q F H h B w G a hH hF hd
  cases draw with
  | false =>
   refine wp_region_list ?_
   exact zum (K := Q .normal) (fun a w G F H h1 h2 h3 h4 h5 => Post.of (e := .normal) h1 h2 h3 h4 h5) ops.toList F H a w G (Ext.refl _ _ _) hH hF hd h
  | true => exact h.elim
 | seq x y ihx ihy =>
  intro Q F H h B w G a hH hF hd
  refine wp_seq (wp_mono (ihx _ F H h B w G a hH hF hd) fun e a' w' hp => ?_)
  obtain ⟨F', H', G', e', rfl, h1, h2, h3, h4, h5⟩ := hp
  cases e' with
  | normal =>
   refine wp_mono (ihy Q F' H' h5 B w' G' a' h2 h3 h4) fun e a'' w'' hp => ?_
   obtain ⟨F'', H'', G'', e'', rfl, k1, k2, k3, k4, k5⟩ := hp
   exact ⟨F'', H'', G'', e'', rfl, h1.trans k1, k2, k3, k4, k5⟩
  | exit id => exact Post.of (e := .exit id) h1 h2 h3 h4 h5
  | ret => exact Post.of (e := .ret) h1 h2 h3 h4 h5
 | ret => intro Q F H h B w G a hH hF hd; exact wp_ret (Post.of (e := .ret) (Ext.refl _ _ _) hH hF hd h)
 | _ => intro Q F H h; exact h.elim
theorem zDn {f : FuncId} {fn : Func} {c : Code} {args : List AV} {K : AV → zaa → Prop} (hf : P.funcs[f]? = some fn) (hb : fn.body = some c)
  (h : HSc H → ziC P c (zal P fn.results.toList K) (args ++ List.replicate (fn.ntmps - args.length) .unk) H) : ACalls P f args H K := by
 intro B w G vs hH hv
 refine calls_of_wp hf hb ?_
 have hF : FRel w G (vs ++ Array.replicate (fn.ntmps - vs.size) undef) (args ++ List.replicate (fn.ntmps - args.length) .unk) := by
  unfold FRel
  have hl : vs.size = args.length := by simpa using hv.length
  rw [hl]
  simpa using hv.append (All2.replicate (R := TRel w G) (a := undef) (b := .unk) trivial (fn.ntmps - args.length))
 refine wp_mono (zDD c _ _ H (h hH.sc) B w G ⟨_, []⟩ hH hF rfl) fun e a' w' hp => ?_
 obtain ⟨F', H', G', e', rfl, h1, h2, h3, h4, h5⟩ := hp
 have fin : (zen P fn.results.toList F' H' fun vs => zaY vs (K · H')) → ∃ v, (results fn a'.tmps).run P w' = .ok v w' ∧ ∃ v' r H'' G'', Ending.returned v = .returned v' ∧ Ext B w G w' G'' ∧ HRel B w' G'' H'' ∧ TRel w' G'' v' r ∧ K r H'' := by
  intro h5
  obtain ⟨us, asx, k1, k2, k3⟩ := zkH h2 h3 fn.results.toList _ h5
  have hres : (results fn a'.tmps).run P w' = .ok (if hh : us.toArray.size = 1 then us.toArray[0] else .tuple us.toArray) w' := by
   rw [zui, Sem.run_bind, Array.mapM_eq_mapM_toList, Sem.run_map, k1]
   rfl
  refine ⟨_, hres, (if hh : us.toArray.size = 1 then us.toArray[0] else .tuple us.toArray), ?_⟩
  have hl := k2.length
  unfold zaY at k3
  split at k3
  ·rename_i r
   match us, hl, k2, hres with
   | [u], _, k2, _ => exact ⟨r, H', G', rfl, h1, h2, by simpa using k2.1, k3⟩
  ·rename_i hne
   refine ⟨.tup asx, H', G', rfl, h1, h2, ?_, k3.2⟩
   have hsz : ¬ us.toArray.size = 1 := by
    intro hs
    have : asx.length = 1 := by rw [← hl]; simpa using hs
    match asx, this with
    | [x], _ => exact hne x rfl
   rw [dif_neg hsz]
   exact ⟨us.toArray, rfl, zdF (p := AV.isV) (fun _ _ => zou) k2 k3.1⟩
 cases e' with
 | normal => exact ⟨h4, fin h5⟩
 | ret => exact ⟨h4, fin h5⟩
 | exit id => exact h5.elim

theorem ACalls.pure0 {f : FuncId} {args args' : List AV} {b : Bool} (h : ACalls P f args' [] fun r _ => r = .bool b) (hread : ∀ B w G, HRel B w G H → ∀ vs : Array Value, All2 (TRel w G) vs.toList args → All2 (TRel w (G0 w)) vs.toList args') {K : Kt} (hK : K (.bool b) H) : ACalls P f args H K := by
 intro B w G vs hH hv
 refine (h w.heap.size w (G0 w) vs (ztz w) (hread B w G hH vs hv)).mono fun e w' he => ?_
 obtain ⟨v, r, H', G', rfl, h1, h2, h3, rfl⟩ := he
 have hv : v = .bool b := h3
 subst hv
 have hx : Ext B w G w' G := by
  refine ⟨h1.dr, h1.below.mono hH.base, fun _ => Nat.le_refl _, fun b off ho => ?_, fun _ gi h => ⟨gi, h, gi.le_refl⟩⟩
  refine h1.below.cell ?_
  by_cases hb : b < w.heap.size
  ·exact hb
  ·have := hH.fresh b (by omega)
   omega
 have hb : ∀ b, b < w.heap.size → w'.heap[b]? = w.heap[b]? := fun b hb => h1.below.block b hb
 exact ⟨.bool b, .bool b, H, G, rfl, hx, hH.keep hx rfl (fun id gi b h3 h4 => ⟨hb b (hH.lt id gi b h3 h4), rfl⟩) (fun b hbb => hH.fresh b (by have := h1.below.size; omega)), rfl, hK⟩
def zoj : AV → Bool
 | .bool _ | .int _ _ | .str _ => true
 | .sl [] .none => true
 | _ => false
theorem zEu {v : Value} {a : AV} (hf : zoj a = true) (h : ARel w G v a) (L : Nat → Nat) : DRel w L v a := by
 cases a <;> simp [zoj] at hf
 case bool b => have h : v = .bool b := h; subst h; exact .bool b
 case int k n => have h : v = .int k n := h; subst h; exact .int k n
 case str s => have h : v = .string ⟨s.toArray⟩ := h; subst h; exact .str s
 case sl es t =>
  cases es with
  | cons _ _ => simp at hf
  | nil =>
   cases t with
   | none =>
    have h : DRel w G.L v (.sl [] .none) := h
    cases h with
    | slE a cap => exact .slE a cap
    | sl b off cap esz _ vs hne => exact absurd rfl hne
   | _ => simp at hf
theorem ztP {id : Nat} {cs : List AV} {v : Value} (hH : HRel B w G H) (hid : H[id]? = some (.cells cs)) (hf : cs.all zoj = true) (h : ARel w G v (.ms id 0 1 1)) : DRel w (zcC w) v (.sl [cs] .none) := by
 obtain ⟨b, h1, rfl⟩ := h
 obtain ⟨_, _, vs, e, h4, h5⟩ := hH.ok id _ _ hid h1
 have hl : vs.size = cs.length := by simpa using h5.length
 have := DRel.of_flat_at (w := w) (L := zcC w) (g := b) (off := 0) (size := cs.length) (cap := 1) (es := [cs]) (zs := vs.toList) (by simp) (by simp) (by simp) (by simp [zcC, h4, hl])
  (All2.of_get (by simp [hl]) fun i x y hx hy => by
   have hy' : cs[i]? = some y := by simpa using hy
   obtain ⟨x', hx', hr⟩ := All2.get h5 hy'
   rw [hx] at hx'
   cases hx'
   exact zEu (List.all_eq_true.1 hf y (List.mem_of_getElem? hy')) hr _)
  (fun j v hj => by
   simp [World.cell?, h4] 
   simpa using hj)
 simpa using this
end Go.Abs
namespace Go.Proofs.Ytkdmpbhbmmhijaa
open Go Go.Abs
set_option maxRecDepth 100000
def zxw (_ : Nat) : List Bool := []
noncomputable def zxx : Code := Try.f15.body.getD .skip
noncomputable def zJJ : List ResultVar := Try.f15.results.toList
def zqw (H : zaa) (K : Kt) : Prop :=
 ACalls tP zkj [] H fun t2 H =>
 zaC [.snil, .snil, .snil, .snil] H fun t1 H =>
 zas 4 t1 t2 H fun H =>
 zaf 3 t1 fun t3 =>
 zae false 1 t3 H fun t4 =>
 zaj 8 t4 (.int .i64 0) fun t5 =>
 zaf 1 t5 fun t6 =>
 zas 1 t6 (.int .i64 1073741824) H fun H =>
 ACalls tP zkj [] H fun t7 H =>
 ACalls tP zhi [t7] H fun t8 H =>
 zab t8 true H (fun K' => zae true 4 t1 H (K' · H)) fun t10 H =>
 zab t8 true H (fun K' => ACalls tP zhi [t10] H K') fun t11 H =>
 zab t8 true H (fun K' => aUn .not t11 (K' · H)) fun t12 H =>
 zah t8 t12 (.bool false) fun t13 =>
 K t13 H
theorem zJH (H : zaa) (K : Kt) : awp tP zxw zxx (zal tP zJJ K) (List.replicate 14 .unk) H = zqw H K := by kernel_rfl
theorem zJI {H : zaa} {K : Kt} (h : HSc H → zqw H K) : ACalls tP zoF [] H K :=
 zaw (M := zxw) Try.func15 (c := zxx) (by kernel_rfl) (fun hs => (zJH H K).mpr (h hs))
end Go.Proofs.Ytkdmpbhbmmhijaa
namespace Go.Proofs.Ytkdmpbhbmmhijaa
open Go Go.Abs
set_option maxRecDepth 100000
def zo7 (H : zaa) (K : Kt) : Prop :=
 zaC [.snil, .snil, .snil, .snil] H fun t0 H =>
 zaL [(.int .i64 0), (.int .i64 0), .snil] [(0, 1), (1, 1), (2, 1)] [(0, (.int .i64 1))] fun t2 =>
 zaC [(.int .i64 0), (.int .i64 0), .snil] H fun t1 H =>
 zas 3 t1 t2 H fun H =>
 zae true 3 t1 H fun t3 =>
 zaL [(.str []), .snil, .snil, (.int .i64 0), (.int .i64 0), .snil, (.int .i64 0)] [(0, 1), (1, 1), (2, 1), (3, 3), (6, 1)] [(0, (.str [102])), (3, t3)] fun t4 =>
 ze8 7 [(.str []), .snil, .snil, (.int .i64 0), (.int .i64 0), .snil, (.int .i64 0)] 1 [(0, t4)] H fun t5 H =>
 zae true 3 t1 H fun t6 =>
 zaL [(.int .i64 0), (.int .i64 0), .snil, .snil, .snil, (.int .i64 0), (.int .i64 0), .snil] [(0, 1), (1, 1), (2, 1), (3, 1), (4, 1), (5, 3)] [(0, (.int .i64 3)), (1, (.int .i64 1)), (5, t6)] fun t7 =>
 ze8 8 [(.int .i64 0), (.int .i64 0), .snil, .snil, .snil, (.int .i64 0), (.int .i64 0), .snil] 1 [(0, t7)] H fun t8 H =>
 zaL [.snil, .snil, .snil, .snil] [(0, 1), (1, 1), (2, 1), (3, 1)] [(1, t5), (3, t8)] fun t9 =>
 zas 4 t0 t9 H fun H =>
 zae true 4 t0 H fun r0 =>
 K r0 H
theorem zE1 (H : zaa) (K : Kt) : ziC tP zxy (zal tP zJK K) (List.replicate 10 .unk) H = zo7 H K := by kernel_rfl
theorem zE2 {H : zaa} {K : Kt} (h : HSc H → zo7 H K) : ACalls tP zkj [] H K :=
 zDn Try.func20 (c := zxy) (by kernel_rfl) (fun hs => (zE1 H K).mpr (h hs))
theorem bm7 (H : zaa) (K : Kt) : ze8 7 [(.str []), .snil, .snil, (.int .i64 0), (.int .i64 0), .snil, (.int .i64 0)] 1 [(0, .agg [.str [102], .snil, .snil, .int .i64 1, .int .i64 0, .snil, .int .i64 0])] H K = K (.ms H.length 0 1 1) (H ++ [.cells zjV]) := propext Iff.rfl
theorem bm8 (H : zaa) (K : Kt) : ze8 8 [(.int .i64 0), (.int .i64 0), .snil, .snil, .snil, (.int .i64 0), (.int .i64 0), .snil] 1 [(0, .agg [.int .i64 3, .int .i64 1, .snil, .snil, .snil, .int .i64 1, .int .i64 0, .snil])] H K = K (.ms H.length 0 1 1) (H ++ [.cells (zex 1)]) := propext Iff.rfl
theorem ztY {H : zaa} {K : Kt} (hK : ∀ X Y, K (.agg [.snil, .ms (H.length + 2) 0 1 1, .snil, .ms (H.length + 3) 0 1 1]) (H ++ [X, Y, .cells zjV, .cells (zex 1)])) : ACalls tP zkj [] H K := by
 refine zE2 fun hs => ?_
 simp [zo7, zaL, zbw]
 rw [bm7]
 simp
 rw [bm8]
 simp
 exact hK _ _
theorem ztZ {H : zaa} {a b : Nat} {n : Int} (ha : H[a]? = some (.cells zjV)) (hb : H[b]? = some (.cells (zex n))) (B : Nat) (w : World) (G : Gh) (hH : HRel B w G H) (vs : Array Value)
  (hv : All2 (TRel w G) vs.toList [.agg [.snil, .ms a 0 1 1, .snil, .ms b 0 1 1]]) : All2 (TRel w (G0 w)) vs.toList [.agg (c1 n).cs] := by
 generalize vs.toList = l at *
 match l, hv with
 | [v], hv =>
  obtain ⟨⟨us, rfl, h2⟩, _⟩ := hv
  refine ⟨⟨us, rfl, ?_⟩, trivial⟩
  rw [zDV]
  generalize us.toList = m at *
  match m, h2 with
  | [x, y, z, u], h2 =>
   obtain ⟨hx, hy, hz, hu, _⟩ := h2
   have hx : x = .slice none 0 0 := hx
   have hz : z = .slice none 0 0 := hz
   subst hx hz
   refine ⟨.slE _ _, ?_, .slE _ _, ?_, trivial⟩
   ·exact ztP hH ha rfl hy
   ·exact ztP hH hb rfl hu
theorem zDT : ¬ ProgV (c1 1073741824) := by
 intro h
 have := h.exprs.rule 0 (by simp [c1])
 simp [c1, progRule, za4, zaE, za8] at this
theorem zDC (H : zaa) (K : Kt) (hK : K (.bool true) H) : ACalls tP zoF [] H K := by
 refine ACalls.out (zJI fun hs => ?_)
 simp [zqw]
 refine ztY fun X Y => ?_
 have hset : (zex 1).set 1 (.int .i64 1073741824) = zex 1073741824 := rfl
 simp [zex]
 refine ztY fun X' Y' => ?_
 simp
 refine ACalls.pure0 (b := true) (zqd (c1 1) (zsQ 1) [] _ fun b hb => ?_) (ztZ (a := H.length + 5 + 2) (b := H.length + 5 + 3) ?_ ?_) ?_
 ·cases b with
  | true => rfl
  | false => exact absurd (hb.2 zDW) (by simp)
 ·rw [Nat.add_assoc]; simp
 ·rw [Nat.add_assoc]; simp
 simp
 refine ACalls.pure0 (b := false) (zqd (c1 1073741824) (zsQ _) [] _ fun b hb => ?_) (ztZ (a := H.length + 2) (b := H.length + 3) ?_ ?_) ?_
 ·cases b with
  | true => exact absurd (hb.1 rfl) zDT
  | false => rfl
 ·simp
 ·simp [zex]
 simp
 exact Out.bool rfl (Nat.le_refl _) hs hK
end Go.Proofs.Ytkdmpbhbmmhijaa
