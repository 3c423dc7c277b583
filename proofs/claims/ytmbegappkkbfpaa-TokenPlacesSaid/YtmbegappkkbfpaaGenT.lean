/- The shallow forms of functions of the program, printed by a program (absgen.py) off the translation, each tied to the model by the kernel. -/
import Derived.Test.YtmbegappkkbfpaaAbsN
import Derived.Test.YtmbegappkkbfpaaProg
import Derived.KernelRfl
namespace Go.Proofs.Ytmbegappkkbfpaa
open Go Go.Abs
set_option linter.unusedVariables false

/-! ### 7: amortcostlaw03.TokenSplits -/
def f7_M : Nat → List Bool
  | 6 => [false, false, false, true, false, false, true, false, false, false, false, false, false, false, false, false, false, false, false, false, false, false, false, false, false, false, false, false, false, false, false, false, false, false, false, false, false, false, true, true, false, false, false, false, false, false, false, false, false, false, false, false, false, false, false, false, false, false, false, false, false, false, false, false, false, false, false, false, false, false, false, false, false, false, false, false, false, false, false, false, false]
  | _ => []
noncomputable def f7_c : Code := Try.f7.body.getD .skip
noncomputable def f7_r : List ResultVar := Try.f7.results.toList
def f7_fr6 (t3 : AV) (t6 : AV) (t38 : AV) (t39 : AV) : List AV := [.unk, .unk, .unk, t3, .unk, .unk, t6, .unk, .unk, .unk, .unk, .unk, .unk, .unk, .unk, .unk, .unk, .unk, .unk, .unk, .unk, .unk, .unk, .unk, .unk, .unk, .unk, .unk, .unk, .unk, .unk, .unk, .unk, .unk, .unk, .unk, .unk, .unk, t38, t39, .unk, .unk, .unk, .unk, .unk, .unk, .unk, .unk, .unk, .unk, .unk, .unk, .unk, .unk, .unk, .unk, .unk, .unk, .unk, .unk, .unk, .unk, .unk, .unk, .unk, .unk, .unk, .unk, .unk, .unk, .unk, .unk, .unk, .unk, .unk, .unk, .unk, .unk, .unk, .unk, .unk]
def f7_m6 : List Bool := f7_M 6
noncomputable def f7_c6 : Code := codeAt [1, 1, 1, 1, 0, 1, 0, 0] f7_c
def f7_Q6 (K : AV → Heap → Prop) : AExit → List AV → Heap → Prop := contAt Try.prog f7_M [1, 1, 1, 1, 0, 1, 0] f7_c (retQ Try.prog f7_r K)
def f7_l6 (t3 : AV) (t6 : AV) (t38 : AV) (t39 : AV) (H : Heap) (K : AV → Heap → Prop) : Prop := ALoop Try.prog f7_c6 (f7_Q6 K) (f7_fr6 t3 t6 t38 t39) H
def f7_b6 (t3 : AV) (t6 : AV) (t38 : AV) (t39 : AV) (H : Heap) (K : AV → Heap → Prop) (Kb6 : List AV → Heap → Prop) : Prop :=
  aBin .lss false t39 t38 fun t40 =>
  aTest t40
  (aPure H (fun K' => K' t3 H) fun t42 =>
  aPure H (fun K' => K' t39 H) fun t43 =>
  aPure H (fun K' => aIdxA 3 t42 t43 (K' · H)) fun t44 =>
  aPure H (fun K' => aFld 0 t44 (K' · H)) fun t45 =>
  aPure H (fun K' => aLoad false 1 t45 H (K' · H)) fun t46 =>
  aPure H (fun K' => K' t6 H) fun t47 =>
  aPure H (fun K' => K' t39 H) fun t48 =>
  aPure H (fun K' => aIdxA 3 t47 t48 (K' · H)) fun t49 =>
  aPure H (fun K' => aFld 0 t49 (K' · H)) fun t50 =>
  aPure H (fun K' => aLoad false 1 t50 H (K' · H)) fun t51 =>
  aPure H (fun K' => aBin .neq false t46 t51 (K' · H)) fun t52 =>
  aPure H (fun K' => K' t52 H) fun t53 =>
  aGuardJ t53 false H (fun K' => aPure H (fun K'' => K'' t3 H) (K' · H)) fun t54 H =>
  aGuardJ t53 false H (fun K' => aPure H (fun K'' => K'' t39 H) (K' · H)) fun t55 H =>
  aGuardJ t53 false H (fun K' => aPure H (fun K'' => aIdxA 3 t54 t55 (K'' · H)) (K' · H)) fun t56 H =>
  aGuardJ t53 false H (fun K' => aPure H (fun K'' => aFld 1 t56 (K'' · H)) (K' · H)) fun t57 H =>
  aGuardJ t53 false H (fun K' => aPure H (fun K'' => aLoad false 1 t57 H (K'' · H)) (K' · H)) fun t58 H =>
  aGuardJ t53 false H (fun K' => aPure H (fun K'' => K'' t6 H) (K' · H)) fun t59 H =>
  aGuardJ t53 false H (fun K' => aPure H (fun K'' => K'' t39 H) (K' · H)) fun t60 H =>
  aGuardJ t53 false H (fun K' => aPure H (fun K'' => aIdxA 3 t59 t60 (K'' · H)) (K' · H)) fun t61 H =>
  aGuardJ t53 false H (fun K' => aPure H (fun K'' => aFld 1 t61 (K'' · H)) (K' · H)) fun t62 H =>
  aGuardJ t53 false H (fun K' => aPure H (fun K'' => aLoad false 1 t62 H (K'' · H)) (K' · H)) fun t63 H =>
  aGuardJ t53 false H (fun K' => aPure H (fun K'' => aBin .neq false t58 t63 (K'' · H)) (K' · H)) fun t64 H =>
  aPure H (fun K' => aPick t53 (.bool true) t64 (K' · H)) fun t65 =>
  aPure H (fun K' => K' t65 H) fun t66 =>
  aGuardJ t66 false H (fun K' => aPure H (fun K'' => K'' t3 H) (K' · H)) fun t67 H =>
  aGuardJ t66 false H (fun K' => aPure H (fun K'' => K'' t39 H) (K' · H)) fun t68 H =>
  aGuardJ t66 false H (fun K' => aPure H (fun K'' => aIdxA 3 t67 t68 (K'' · H)) (K' · H)) fun t69 H =>
  aGuardJ t66 false H (fun K' => aPure H (fun K'' => aFld 2 t69 (K'' · H)) (K' · H)) fun t70 H =>
  aGuardJ t66 false H (fun K' => aPure H (fun K'' => aLoad false 1 t70 H (K'' · H)) (K' · H)) fun t71 H =>
  aGuardJ t66 false H (fun K' => aPure H (fun K'' => K'' t6 H) (K' · H)) fun t72 H =>
  aGuardJ t66 false H (fun K' => aPure H (fun K'' => K'' t39 H) (K' · H)) fun t73 H =>
  aGuardJ t66 false H (fun K' => aPure H (fun K'' => aIdxA 3 t72 t73 (K'' · H)) (K' · H)) fun t74 H =>
  aGuardJ t66 false H (fun K' => aPure H (fun K'' => aFld 2 t74 (K'' · H)) (K' · H)) fun t75 H =>
  aGuardJ t66 false H (fun K' => aPure H (fun K'' => aLoad false 1 t75 H (K'' · H)) (K' · H)) fun t76 H =>
  aGuardJ t66 false H (fun K' => aPure H (fun K'' => aBin .neq false t71 t76 (K'' · H)) (K' · H)) fun t77 H =>
  aPure H (fun K' => aPick t66 (.bool true) t77 (K' · H)) fun t78 =>
  aTest t78
  (K (.bool false) H)
  (aBin .add false t39 (.int .i64 1) fun t79 =>
  Kb6 (f7_fr6 t3 t6 t38 t79) H))
  (ACalls Try.prog 27 [] H fun t80 H =>
  K t80 H)
def f7 (t0 : AV) (H : Heap) (K : AV → Heap → Prop) : Prop :=
  ACalls Try.prog 25 [t0] H fun t12 H =>
  aExt t12 0 fun t13 =>
  aExt t12 1 fun t14 =>
  aExt t12 2 fun t15 =>
  ACalls Try.prog 26 [t0] H fun t18 H =>
  aExt t18 0 fun t19 =>
  aExt t18 1 fun t20 =>
  aExt t18 2 fun t21 =>
  aBin .neq false t14 t20 fun t24 =>
  aGuardJ t24 false H (fun K' => K' t15 H) fun t26 H =>
  aGuardJ t24 false H (fun K' => K' t21 H) fun t27 H =>
  aGuardJ t24 false H (fun K' => aBin .neq false t26 t27 (K' · H)) fun t28 H =>
  aPick t24 (.bool true) t28 fun t29 =>
  aGuardJ t29 false H (fun K' => K' t13 H) fun t31 H =>
  aGuardJ t29 false H (fun K' => aLen 1 t31 (K' · H)) fun t32 H =>
  aGuardJ t29 false H (fun K' => K' t19 H) fun t33 H =>
  aGuardJ t29 false H (fun K' => aLen 1 t33 (K' · H)) fun t34 H =>
  aGuardJ t29 false H (fun K' => aBin .neq false t32 t34 (K' · H)) fun t35 H =>
  aPick t29 (.bool true) t35 fun t36 =>
  aTest t36
  (K (.bool false) H)
  (aLen 1 t13 fun t38 =>
  f7_l6 t13 t19 t38 (.int .i64 0) H K)
theorem f7_b6_eq (t3 : AV) (t6 : AV) (t38 : AV) (t39 : AV) (H : Heap) (K : AV → Heap → Prop) (Kb6 : List AV → Heap → Prop) : awp Try.prog f7_M f7_c6 (roundQ f7_m6 Kb6 (f7_Q6 K)) (f7_fr6 t3 t6 t38 t39) H = f7_b6 t3 t6 t38 t39 H K Kb6 := by kernel_rfl
theorem f7_loop6 {t3 : AV} {t6 : AV} {t38 : AV} {t39 : AV} {H : Heap} {K : AV → Heap → Prop} (Inv : Nat → AV → Heap → Prop) (n : Nat) (h0 : HSc H → Inv n t39 H)
    (round : ∀ n t39 H', Inv n t39 H' → HSc H' → H.length ≤ H'.length → (f7_fr6 t3 t6 t38 t39).all (AV.sc H'.length) = true → ∀ Kb6 : List AV → Heap → Prop, (∀ F'' H'', (∃ n', n' < n ∧ Back H.length (fun F2 H2 => ∃ t39, F2 = f7_fr6 t3 t6 t38 t39 ∧ Inv n' t39 H2) F'' H'') → Kb6 F'' H'') → f7_b6 t3 t6 t38 t39 H' K Kb6) : f7_l6 t3 t6 t38 t39 H K :=
  aloop (M := f7_M) f7_m6 (fun n F H => ∃ t39, F = f7_fr6 t3 t6 t38 t39 ∧ Inv n t39 H) n (fun hs _ => ⟨t39, rfl, h0 hs⟩) (fun n F H' ⟨t39, hF, hI⟩ h1 h2 h3 => by subst hF; rw [f7_b6_eq]; exact round n t39 H' hI h1 h2 h3 _ (fun _ _ h => h))
theorem f7_eq (t0 : AV) (H : Heap) (K : AV → Heap → Prop) : awp Try.prog f7_M f7_c (retQ Try.prog f7_r K) [t0, .unk, .unk, .unk, .unk, .unk, .unk, .unk, .unk, .unk, .unk, .unk, .unk, .unk, .unk, .unk, .unk, .unk, .unk, .unk, .unk, .unk, .unk, .unk, .unk, .unk, .unk, .unk, .unk, .unk, .unk, .unk, .unk, .unk, .unk, .unk, .unk, .unk, .unk, .unk, .unk, .unk, .unk, .unk, .unk, .unk, .unk, .unk, .unk, .unk, .unk, .unk, .unk, .unk, .unk, .unk, .unk, .unk, .unk, .unk, .unk, .unk, .unk, .unk, .unk, .unk, .unk, .unk, .unk, .unk, .unk, .unk, .unk, .unk, .unk, .unk, .unk, .unk, .unk, .unk, .unk] H = f7 t0 H K := by kernel_rfl
theorem f7_ok {t0 : AV} {H : Heap} {K : AV → Heap → Prop} (h : HSc H → f7 t0 H K) : ACalls Try.prog 7 [t0] H K :=
  acalls_body (M := f7_M) Try.func7 (c := f7_c) (by kernel_rfl) (fun hs => (f7_eq t0 H K).mpr (h hs))

/-! ### 8: amortcostlaw03.TokenPlaces -/
def f8_M : Nat → List Bool
  | 6 => [true, false, false, true, false, false, true, false, false, false, false, false, false, false, false, false, false, false, true, true, true, false, false, false, false, false, false, false, false, false, false, false, false, false, false, false, false, false, false, false, false, false, false, false, false, false, false, false, false, false, false, false, false, false, false, false, false, false, false, false, false, false, false, false, false, false, false, false, false, false, false, false, false, false, false, false, false, false, false, false, false, false, false, false, false, false, false, false, false]
  | _ => []
noncomputable def f8_c : Code := Try.f8.body.getD .skip
noncomputable def f8_r : List ResultVar := Try.f8.results.toList
def f8_fr6 (t0 : AV) (t3 : AV) (t6 : AV) (t18 : AV) (t19 : AV) (t20 : AV) : List AV := [t0, .unk, .unk, t3, .unk, .unk, t6, .unk, .unk, .unk, .unk, .unk, .unk, .unk, .unk, .unk, .unk, .unk, t18, t19, t20, .unk, .unk, .unk, .unk, .unk, .unk, .unk, .unk, .unk, .unk, .unk, .unk, .unk, .unk, .unk, .unk, .unk, .unk, .unk, .unk, .unk, .unk, .unk, .unk, .unk, .unk, .unk, .unk, .unk, .unk, .unk, .unk, .unk, .unk, .unk, .unk, .unk, .unk, .unk, .unk, .unk, .unk, .unk, .unk, .unk, .unk, .unk, .unk, .unk, .unk, .unk, .unk, .unk, .unk, .unk, .unk, .unk, .unk, .unk, .unk, .unk, .unk, .unk, .unk, .unk, .unk, .unk, .unk]
def f8_m6 : List Bool := f8_M 6
noncomputable def f8_c6 : Code := codeAt [1, 1, 1, 1, 0, 1, 0, 0] f8_c
def f8_Q6 (K : AV → Heap → Prop) : AExit → List AV → Heap → Prop := contAt Try.prog f8_M [1, 1, 1, 1, 0, 1, 0] f8_c (retQ Try.prog f8_r K)
def f8_l6 (t0 : AV) (t3 : AV) (t6 : AV) (t18 : AV) (t19 : AV) (t20 : AV) (H : Heap) (K : AV → Heap → Prop) : Prop := ALoop Try.prog f8_c6 (f8_Q6 K) (f8_fr6 t0 t3 t6 t18 t19 t20) H
def f8_b6 (t0 : AV) (t3 : AV) (t6 : AV) (t18 : AV) (t19 : AV) (t20 : AV) (H : Heap) (K : AV → Heap → Prop) (Kb6 : List AV → Heap → Prop) : Prop :=
  aBin .lss false t20 t19 fun t21 =>
  aTest t21
  (aIdxA 3 t18 t20 fun t22 =>
  aLoad true 3 t22 H fun t23 =>
  aNew [(.int .i64 0), (.str []), (.int .i64 0)] H fun t8 H =>
  aStore 3 t8 t23 H fun H =>
  aPure H (fun K' => aFld 2 t8 (K' · H)) fun t24 =>
  aPure H (fun K' => aLoad false 1 t24 H (K' · H)) fun t25 =>
  aPure H (fun K' => K' t6 H) fun t26 =>
  aPure H (fun K' => aBin .lss false t25 t26 (K' · H)) fun t27 =>
  aPure H (fun K' => K' t27 H) fun t28 =>
  aGuardJ t28 false H (fun K' => aPure H (fun K'' => aFld 2 t8 (K'' · H)) (K' · H)) fun t29 H =>
  aGuardJ t28 false H (fun K' => aPure H (fun K'' => aLoad false 1 t29 H (K'' · H)) (K' · H)) fun t30 H =>
  aGuardJ t28 false H (fun K' => aPure H (fun K'' => aFld 1 t8 (K'' · H)) (K' · H)) fun t31 H =>
  aGuardJ t28 false H (fun K' => aPure H (fun K'' => aLoad false 1 t31 H (K'' · H)) (K' · H)) fun t32 H =>
  aGuardJ t28 false H (fun K' => aPure H (fun K'' => aLen 0 t32 (K'' · H)) (K' · H)) fun t33 H =>
  aGuardJ t28 false H (fun K' => aPure H (fun K'' => aBin .add false t30 t33 (K'' · H)) (K' · H)) fun t34 H =>
  aGuardJ t28 false H (fun K' => aPure H (fun K'' => K'' t0 H) (K' · H)) fun t35 H =>
  aGuardJ t28 false H (fun K' => aPure H (fun K'' => aLen 0 t35 (K'' · H)) (K' · H)) fun t36 H =>
  aGuardJ t28 false H (fun K' => aPure H (fun K'' => aBin .gtr false t34 t36 (K'' · H)) (K' · H)) fun t37 H =>
  aPure H (fun K' => aPick t28 (.bool true) t37 (K' · H)) fun t38 =>
  aPure H (fun K' => K' t38 H) fun t39 =>
  aGuardJ t39 false H (fun K' => aPure H (fun K'' => K'' t0 H) (K' · H)) fun t40 H =>
  aGuardJ t39 false H (fun K' => aPure H (fun K'' => aFld 2 t8 (K'' · H)) (K' · H)) fun t41 H =>
  aGuardJ t39 false H (fun K' => aPure H (fun K'' => aLoad false 1 t41 H (K'' · H)) (K' · H)) fun t42 H =>
  aGuardJ t39 false H (fun K' => aPure H (fun K'' => aFld 2 t8 (K'' · H)) (K' · H)) fun t43 H =>
  aGuardJ t39 false H (fun K' => aPure H (fun K'' => aLoad false 1 t43 H (K'' · H)) (K' · H)) fun t44 H =>
  aGuardJ t39 false H (fun K' => aPure H (fun K'' => aFld 1 t8 (K'' · H)) (K' · H)) fun t45 H =>
  aGuardJ t39 false H (fun K' => aPure H (fun K'' => aLoad false 1 t45 H (K'' · H)) (K' · H)) fun t46 H =>
  aGuardJ t39 false H (fun K' => aPure H (fun K'' => aLen 0 t46 (K'' · H)) (K' · H)) fun t47 H =>
  aGuardJ t39 false H (fun K' => aPure H (fun K'' => aBin .add false t44 t47 (K'' · H)) (K' · H)) fun t48 H =>
  aGuardJ t39 false H (fun K' => aPure H (fun K'' => aSlice 0 0 t40 (some t42) (some t48) (K'' · H)) (K' · H)) fun t49 H =>
  aGuardJ t39 false H (fun K' => aPure H (fun K'' => aFld 1 t8 (K'' · H)) (K' · H)) fun t50 H =>
  aGuardJ t39 false H (fun K' => aPure H (fun K'' => aLoad false 1 t50 H (K'' · H)) (K' · H)) fun t51 H =>
  aGuardJ t39 false H (fun K' => aPure H (fun K'' => aBin .neq false t49 t51 (K'' · H)) (K' · H)) fun t52 H =>
  aPure H (fun K' => aPick t39 (.bool true) t52 (K' · H)) fun t53 =>
  aTest t53
  (K (.bool false) H)
  (aFld 2 t8 fun t54 =>
  aLoad false 1 t54 H fun t55 =>
  aFld 1 t8 fun t56 =>
  aLoad false 1 t56 H fun t57 =>
  aLen 0 t57 fun t58 =>
  aBin .add false t55 t58 fun t59 =>
  aBin .add false t20 (.int .i64 1) fun t60 =>
  Kb6 (f8_fr6 t0 t3 t59 t18 t19 t60) H))
  (aLen 1 t3 fun t62 =>
  aBin .gtr false t62 (.int .i64 0) fun t63 =>
  aGuardJ t63 true H (fun K' => K' t3 H) fun t65 H =>
  aGuardJ t63 true H (fun K' => K' t3 H) fun t66 H =>
  aGuardJ t63 true H (fun K' => aLen 1 t66 (K' · H)) fun t67 H =>
  aGuardJ t63 true H (fun K' => aBin .sub false t67 (.int .i64 1) (K' · H)) fun t68 H =>
  aGuardJ t63 true H (fun K' => aIdxA 3 t65 t68 (K' · H)) fun t69 H =>
  aGuardJ t63 true H (fun K' => aFld 2 t69 (K' · H)) fun t70 H =>
  aGuardJ t63 true H (fun K' => aLoad false 1 t70 H (K' · H)) fun t71 H =>
  aGuardJ t63 true H (fun K' => K' t0 H) fun t72 H =>
  aGuardJ t63 true H (fun K' => aLen 0 t72 (K' · H)) fun t73 H =>
  aGuardJ t63 true H (fun K' => aBin .eql false t71 t73 (K' · H)) fun t74 H =>
  aPick t63 t74 (.bool false) fun t75 =>
  aGuardJ t75 true H (fun K' => K' t3 H) fun t77 H =>
  aGuardJ t75 true H (fun K' => K' t3 H) fun t78 H =>
  aGuardJ t75 true H (fun K' => aLen 1 t78 (K' · H)) fun t79 H =>
  aGuardJ t75 true H (fun K' => aBin .sub false t79 (.int .i64 1) (K' · H)) fun t80 H =>
  aGuardJ t75 true H (fun K' => aIdxA 3 t77 t80 (K' · H)) fun t81 H =>
  aGuardJ t75 true H (fun K' => aFld 1 t81 (K' · H)) fun t82 H =>
  aGuardJ t75 true H (fun K' => aLoad false 1 t82 H (K' · H)) fun t83 H =>
  aGuardJ t75 true H (fun K' => aBin .eql false t83 (.str []) (K' · H)) fun t84 H =>
  aPick t75 t84 (.bool false) fun t85 =>
  aGuardJ t85 true H (fun K' => ACalls Try.prog 27 [] H K') fun t87 H =>
  aPick t85 t87 (.bool false) fun t88 =>
  K t88 H)
def f8 (t0 : AV) (H : Heap) (K : AV → Heap → Prop) : Prop :=
  ACalls Try.prog 25 [t0] H fun t11 H =>
  aExt t11 0 fun t12 =>
  aExt t11 1 fun t13 =>
  aExt t11 2 fun t14 =>
  aBin .neq false t14 (.int .i64 0) fun t16 =>
  aTest t16
  (ACalls Try.prog 27 [] H fun t17 H =>
  K t17 H)
  (aLen 1 t12 fun t19 =>
  f8_l6 t0 t12 (.int .i64 0) t12 t19 (.int .i64 0) H K)
theorem f8_b6_eq (t0 : AV) (t3 : AV) (t6 : AV) (t18 : AV) (t19 : AV) (t20 : AV) (H : Heap) (K : AV → Heap → Prop) (Kb6 : List AV → Heap → Prop) : awp Try.prog f8_M f8_c6 (roundQ f8_m6 Kb6 (f8_Q6 K)) (f8_fr6 t0 t3 t6 t18 t19 t20) H = f8_b6 t0 t3 t6 t18 t19 t20 H K Kb6 := by kernel_rfl
theorem f8_loop6 {t0 : AV} {t3 : AV} {t6 : AV} {t18 : AV} {t19 : AV} {t20 : AV} {H : Heap} {K : AV → Heap → Prop} (Inv : Nat → AV → AV → Heap → Prop) (n : Nat) (h0 : HSc H → Inv n t6 t20 H)
    (round : ∀ n t6 t20 H', Inv n t6 t20 H' → HSc H' → H.length ≤ H'.length → (f8_fr6 t0 t3 t6 t18 t19 t20).all (AV.sc H'.length) = true → ∀ Kb6 : List AV → Heap → Prop, (∀ F'' H'', (∃ n', n' < n ∧ Back H.length (fun F2 H2 => ∃ t6 t20, F2 = f8_fr6 t0 t3 t6 t18 t19 t20 ∧ Inv n' t6 t20 H2) F'' H'') → Kb6 F'' H'') → f8_b6 t0 t3 t6 t18 t19 t20 H' K Kb6) : f8_l6 t0 t3 t6 t18 t19 t20 H K :=
  aloop (M := f8_M) f8_m6 (fun n F H => ∃ t6 t20, F = f8_fr6 t0 t3 t6 t18 t19 t20 ∧ Inv n t6 t20 H) n (fun hs _ => ⟨t6, t20, rfl, h0 hs⟩) (fun n F H' ⟨t6, t20, hF, hI⟩ h1 h2 h3 => by subst hF; rw [f8_b6_eq]; exact round n t6 t20 H' hI h1 h2 h3 _ (fun _ _ h => h))
theorem f8_eq (t0 : AV) (H : Heap) (K : AV → Heap → Prop) : awp Try.prog f8_M f8_c (retQ Try.prog f8_r K) [t0, .unk, .unk, .unk, .unk, .unk, .unk, .unk, .unk, .unk, .unk, .unk, .unk, .unk, .unk, .unk, .unk, .unk, .unk, .unk, .unk, .unk, .unk, .unk, .unk, .unk, .unk, .unk, .unk, .unk, .unk, .unk, .unk, .unk, .unk, .unk, .unk, .unk, .unk, .unk, .unk, .unk, .unk, .unk, .unk, .unk, .unk, .unk, .unk, .unk, .unk, .unk, .unk, .unk, .unk, .unk, .unk, .unk, .unk, .unk, .unk, .unk, .unk, .unk, .unk, .unk, .unk, .unk, .unk, .unk, .unk, .unk, .unk, .unk, .unk, .unk, .unk, .unk, .unk, .unk, .unk, .unk, .unk, .unk, .unk, .unk, .unk, .unk, .unk] H = f8 t0 H K := by kernel_rfl
theorem f8_ok {t0 : AV} {H : Heap} {K : AV → Heap → Prop} (h : HSc H → f8 t0 H K) : ACalls Try.prog 8 [t0] H K :=
  acalls_body (M := f8_M) Try.func8 (c := f8_c) (by kernel_rfl) (fun hs => (f8_eq t0 H K).mpr (h hs))

/-! ### 9: amortcostlaw03.TokenJoins -/
def f9_M : Nat → List Bool
  | 5 => [false, true, false, false, false, true, false, false, true, false, false, false, false, false, false, false, false, false, false, false, false, false, false, false, false, false, false, false, false, false, false, false, false, false, false, false, false, false, false, false, false, false, false, false, false, false, false, false, false, false, false, false, false, false, false, false, false, false, false, false, false, false, false, false, false, false, false, false, false, false, false, false, false, false, false, false, false, false, false, false, false, false, false, false, false, false, false, false, false, false, false, false, false, false, false, false, false, false, false, false, false, false, false, false, false, false, false, false]
  | 10 => [false, false, false, false, false, true, false, false, false, false, false, false, false, false, false, false, false, false, false, false, false, false, false, false, false, false, false, false, false, false, false, false, false, false, false, false, false, false, false, false, false, false, false, false, false, false, false, false, false, true, true, true, false, false, false, false, false, false, false, false, false, false, false, false, false, false, false, false, false, false, false, false, false, false, false, false, false, false, false, false, false, false, false, false, false, false, false, false, false, false, false, false, false, false, false, false, false, false, false, false, false, false, false, false, false, false, false, false]
  | 18 => [false, false, false, false, false, true, false, false, false, false, false, false, true, false, false, false, false, false, false, false, false, false, false, false, false, false, false, false, false, false, false, false, false, false, false, false, false, false, false, false, false, false, false, false, false, false, false, false, false, true, true, true, false, false, false, false, false, false, false, false, false, false, false, false, false, false, false, false, false, false, false, false, false, false, false, false, false, true, true, false, false, false, false, false, false, false, false, false, false, false, false, false, false, false, false, false, false, false, false, false, false, false, false, false, false, false, false, false]
  | _ => []
noncomputable def f9_c : Code := Try.f9.body.getD .skip
noncomputable def f9_r : List ResultVar := Try.f9.results.toList
def f9_fr5 (t1 : AV) (t5 : AV) (t8 : AV) : List AV := [.unk, t1, .unk, .unk, .unk, t5, .unk, .unk, t8, .unk, .unk, .unk, .unk, .unk, .unk, .unk, .unk, .unk, .unk, .unk, .unk, .unk, .unk, .unk, .unk, .unk, .unk, .unk, .unk, .unk, .unk, .unk, .unk, .unk, .unk, .unk, .unk, .unk, .unk, .unk, .unk, .unk, .unk, .unk, .unk, .unk, .unk, .unk, .unk, .unk, .unk, .unk, .unk, .unk, .unk, .unk, .unk, .unk, .unk, .unk, .unk, .unk, .unk, .unk, .unk, .unk, .unk, .unk, .unk, .unk, .unk, .unk, .unk, .unk, .unk, .unk, .unk, .unk, .unk, .unk, .unk, .unk, .unk, .unk, .unk, .unk, .unk, .unk, .unk, .unk, .unk, .unk, .unk, .unk, .unk, .unk, .unk, .unk, .unk, .unk, .unk, .unk, .unk, .unk, .unk, .unk, .unk, .unk]
def f9_m5 : List Bool := f9_M 5
noncomputable def f9_c5 : Code := codeAt [1, 1, 1, 0, 1, 0, 0] f9_c
def f9_Q5 (K : AV → Heap → Prop) : AExit → List AV → Heap → Prop := contAt Try.prog f9_M [1, 1, 1, 0, 1, 0] f9_c (retQ Try.prog f9_r K)
def f9_l5 (t1 : AV) (t5 : AV) (t8 : AV) (H : Heap) (K : AV → Heap → Prop) : Prop := ALoop Try.prog f9_c5 (f9_Q5 K) (f9_fr5 t1 t5 t8) H
def f9_fr10 (t5 : AV) (t49 : AV) (t50 : AV) (t51 : AV) : List AV := [.unk, .unk, .unk, .unk, .unk, t5, .unk, .unk, .unk, .unk, .unk, .unk, .unk, .unk, .unk, .unk, .unk, .unk, .unk, .unk, .unk, .unk, .unk, .unk, .unk, .unk, .unk, .unk, .unk, .unk, .unk, .unk, .unk, .unk, .unk, .unk, .unk, .unk, .unk, .unk, .unk, .unk, .unk, .unk, .unk, .unk, .unk, .unk, .unk, t49, t50, t51, .unk, .unk, .unk, .unk, .unk, .unk, .unk, .unk, .unk, .unk, .unk, .unk, .unk, .unk, .unk, .unk, .unk, .unk, .unk, .unk, .unk, .unk, .unk, .unk, .unk, .unk, .unk, .unk, .unk, .unk, .unk, .unk, .unk, .unk, .unk, .unk, .unk, .unk, .unk, .unk, .unk, .unk, .unk, .unk, .unk, .unk, .unk, .unk, .unk, .unk, .unk, .unk, .unk, .unk, .unk, .unk]
def f9_m10 : List Bool := f9_M 10
noncomputable def f9_c10 : Code := codeAt [1, 1, 1, 1, 0, 1, 0, 0] f9_c
def f9_Q10 (K : AV → Heap → Prop) : AExit → List AV → Heap → Prop := contAt Try.prog f9_M [1, 1, 1, 1, 0, 1, 0] f9_c (retQ Try.prog f9_r K)
def f9_l10 (t5 : AV) (t49 : AV) (t50 : AV) (t51 : AV) (H : Heap) (K : AV → Heap → Prop) : Prop := ALoop Try.prog f9_c10 (f9_Q10 K) (f9_fr10 t5 t49 t50 t51) H
def f9_j2 (t5 : AV) (t49 : AV) (t50 : AV) (t51 : AV) (H : Heap) (K : AV → Heap → Prop) (Kb10 : List AV → Heap → Prop) : Prop :=
  aBin .add false t51 (.int .i64 1) fun t106 =>
  Kb10 (f9_fr10 t5 t49 t50 t106) H
def f9_j1 (t5 : AV) (t49 : AV) (t50 : AV) (t51 : AV) (H : Heap) (K : AV → Heap → Prop) (Kb10 : List AV → Heap → Prop) : Prop :=
  f9_j2 t5 t49 t50 t51 H K Kb10
def f9_fr18 (t5 : AV) (t12 : AV) (t49 : AV) (t50 : AV) (t51 : AV) (t77 : AV) (t78 : AV) : List AV := [.unk, .unk, .unk, .unk, .unk, t5, .unk, .unk, .unk, .unk, .unk, .unk, t12, .unk, .unk, .unk, .unk, .unk, .unk, .unk, .unk, .unk, .unk, .unk, .unk, .unk, .unk, .unk, .unk, .unk, .unk, .unk, .unk, .unk, .unk, .unk, .unk, .unk, .unk, .unk, .unk, .unk, .unk, .unk, .unk, .unk, .unk, .unk, .unk, t49, t50, t51, .unk, .unk, .unk, .unk, .unk, .unk, .unk, .unk, .unk, .unk, .unk, .unk, .unk, .unk, .unk, .unk, .unk, .unk, .unk, .unk, .unk, .unk, .unk, .unk, .unk, t77, t78, .unk, .unk, .unk, .unk, .unk, .unk, .unk, .unk, .unk, .unk, .unk, .unk, .unk, .unk, .unk, .unk, .unk, .unk, .unk, .unk, .unk, .unk, .unk, .unk, .unk, .unk, .unk, .unk, .unk]
def f9_m18 : List Bool := f9_M 18
noncomputable def f9_c18 : Code := codeAt [1, 1, 0, 0, 1, 1, 1, 1, 1, 1, 0, 0] f9_c10
def f9_Q18 (K : AV → Heap → Prop) (Kb10 : List AV → Heap → Prop) : AExit → List AV → Heap → Prop := contAt Try.prog f9_M [1, 1, 0, 0, 1, 1, 1, 1, 1, 1, 0] f9_c10 (roundQ f9_m10 Kb10 (f9_Q10 K))
def f9_l18 (t5 : AV) (t12 : AV) (t49 : AV) (t50 : AV) (t51 : AV) (t77 : AV) (t78 : AV) (H : Heap) (K : AV → Heap → Prop) (Kb10 : List AV → Heap → Prop) : Prop := ALoop Try.prog f9_c18 (f9_Q18 K Kb10) (f9_fr18 t5 t12 t49 t50 t51 t77 t78) H
def f9_b18 (t5 : AV) (t12 : AV) (t49 : AV) (t50 : AV) (t51 : AV) (t77 : AV) (t78 : AV) (H : Heap) (K : AV → Heap → Prop) (Kb10 : List AV → Heap → Prop) (Kb18 : List AV → Heap → Prop) : Prop :=
  aBin .lss false t78 t77 fun t79 =>
  aTest t79
  (aPure H (fun K' => K' t5 H) fun t81 =>
  aPure H (fun K' => K' t78 H) fun t82 =>
  aPure H (fun K' => aIdxA 3 t81 t82 (K' · H)) fun t83 =>
  aPure H (fun K' => aFld 0 t83 (K' · H)) fun t84 =>
  aPure H (fun K' => aLoad false 1 t84 H (K' · H)) fun t85 =>
  aPure H (fun K' => K' t12 H) fun t86 =>
  aPure H (fun K' => K' t78 H) fun t87 =>
  aPure H (fun K' => aIdxA 3 t86 t87 (K' · H)) fun t88 =>
  aPure H (fun K' => aFld 0 t88 (K' · H)) fun t89 =>
  aPure H (fun K' => aLoad false 1 t89 H (K' · H)) fun t90 =>
  aPure H (fun K' => aBin .neq false t85 t90 (K' · H)) fun t91 =>
  aPure H (fun K' => K' t91 H) fun t92 =>
  aGuardJ t92 false H (fun K' => aPure H (fun K'' => K'' t5 H) (K' · H)) fun t93 H =>
  aGuardJ t92 false H (fun K' => aPure H (fun K'' => K'' t78 H) (K' · H)) fun t94 H =>
  aGuardJ t92 false H (fun K' => aPure H (fun K'' => aIdxA 3 t93 t94 (K'' · H)) (K' · H)) fun t95 H =>
  aGuardJ t92 false H (fun K' => aPure H (fun K'' => aFld 1 t95 (K'' · H)) (K' · H)) fun t96 H =>
  aGuardJ t92 false H (fun K' => aPure H (fun K'' => aLoad false 1 t96 H (K'' · H)) (K' · H)) fun t97 H =>
  aGuardJ t92 false H (fun K' => aPure H (fun K'' => K'' t12 H) (K' · H)) fun t98 H =>
  aGuardJ t92 false H (fun K' => aPure H (fun K'' => K'' t78 H) (K' · H)) fun t99 H =>
  aGuardJ t92 false H (fun K' => aPure H (fun K'' => aIdxA 3 t98 t99 (K'' · H)) (K' · H)) fun t100 H =>
  aGuardJ t92 false H (fun K' => aPure H (fun K'' => aFld 1 t100 (K'' · H)) (K' · H)) fun t101 H =>
  aGuardJ t92 false H (fun K' => aPure H (fun K'' => aLoad false 1 t101 H (K'' · H)) (K' · H)) fun t102 H =>
  aGuardJ t92 false H (fun K' => aPure H (fun K'' => aBin .neq false t97 t102 (K'' · H)) (K' · H)) fun t103 H =>
  aPure H (fun K' => aPick t92 (.bool true) t103 (K' · H)) fun t104 =>
  aTest t104
  (K (.bool false) H)
  (aBin .add false t78 (.int .i64 1) fun t105 =>
  Kb18 (f9_fr18 t5 t12 t49 t50 t51 t77 t105) H))
  (f9_j1 t5 t49 t50 t51 H K Kb10)
def f9_b10 (t5 : AV) (t49 : AV) (t50 : AV) (t51 : AV) (H : Heap) (K : AV → Heap → Prop) (Kb10 : List AV → Heap → Prop) : Prop :=
  aBin .lss false t51 t50 fun t52 =>
  aTest t52
  (aIdxA 1 t49 t51 fun t53 =>
  aLoad false 1 t53 H fun t54 =>
  ACalls Try.prog 28 [t5, t54] H fun t57 H =>
  aLen 0 t57 fun t59 =>
  aBin .gtr false t59 (.int .i64 16384) fun t60 =>
  aTest t60
  (f9_j1 t5 t49 t50 t51 H K Kb10)
  (ACalls Try.prog 25 [t57] H fun t63 H =>
  aExt t63 0 fun t64 =>
  aExt t63 1 fun t65 =>
  aExt t63 2 fun t66 =>
  aBin .neq false t66 (.int .i64 0) fun t68 =>
  aGuardJ t68 false H (fun K' => K' t64 H) fun t70 H =>
  aGuardJ t68 false H (fun K' => aLen 1 t70 (K' · H)) fun t71 H =>
  aGuardJ t68 false H (fun K' => K' t5 H) fun t72 H =>
  aGuardJ t68 false H (fun K' => aLen 1 t72 (K' · H)) fun t73 H =>
  aGuardJ t68 false H (fun K' => aBin .neq false t71 t73 (K' · H)) fun t74 H =>
  aPick t68 (.bool true) t74 fun t75 =>
  aTest t75
  (K (.bool false) H)
  (aLen 1 t5 fun t77 =>
  f9_l18 t5 t64 t49 t50 t51 t77 (.int .i64 0) H K Kb10)))
  (ACalls Try.prog 27 [] H fun t107 H =>
  K t107 H)
def f9_b5 (t1 : AV) (t5 : AV) (t8 : AV) (H : Heap) (K : AV → Heap → Prop) (Kb5 : List AV → Heap → Prop) : Prop :=
  aLen 0 t1 fun t37 =>
  aBin .lss false t8 t37 fun t38 =>
  aTest t38
  (aIdxS t1 t8 fun t43 =>
  aBin .eql false t43 (.int .u8 10) fun t44 =>
  aTest t44
  (ACalls Try.prog 27 [] H fun t45 H =>
  K t45 H)
  (aBin .add false t8 (.int .i64 1) fun t40 =>
  Kb5 (f9_fr5 t1 t5 t40) H))
  (aBin .add false (.str [35]) t1 fun t47 =>
  aBin .add false t47 (.str [10]) fun t48 =>
  aBuildS 1 [(.str [])] 3 [(0, (.str [32])), (1, (.str [9, 13, 10])), (2, t48)] fun t49 =>
  aLen 1 t49 fun t50 =>
  f9_l10 t5 t49 t50 (.int .i64 0) H K)
def f9 (t0 : AV) (t1 : AV) (H : Heap) (K : AV → Heap → Prop) : Prop :=
  ACalls Try.prog 25 [t0] H fun t18 H =>
  aExt t18 0 fun t19 =>
  aExt t18 1 fun t20 =>
  aExt t18 2 fun t21 =>
  aBin .neq false t21 (.int .i64 0) fun t23 =>
  aGuardJ t23 false H (fun K' => K' t19 H) fun t25 H =>
  aGuardJ t23 false H (fun K' => aLen 1 t25 (K' · H)) fun t26 H =>
  aGuardJ t23 false H (fun K' => aBin .gtr false t26 (.int .i64 500) (K' · H)) fun t27 H =>
  aPick t23 (.bool true) t27 fun t28 =>
  aGuardJ t28 false H (fun K' => K' t1 H) fun t30 H =>
  aGuardJ t28 false H (fun K' => aLen 0 t30 (K' · H)) fun t31 H =>
  aGuardJ t28 false H (fun K' => aBin .gtr false t31 (.int .i64 20) (K' · H)) fun t32 H =>
  aPick t28 (.bool true) t32 fun t33 =>
  aTest t33
  (ACalls Try.prog 27 [] H fun t34 H =>
  K t34 H)
  (f9_l5 t1 t19 (.int .i64 0) H K)
theorem f9_b18_eq (t5 : AV) (t12 : AV) (t49 : AV) (t50 : AV) (t51 : AV) (t77 : AV) (t78 : AV) (H : Heap) (K : AV → Heap → Prop) (Kb10 : List AV → Heap → Prop) (Kb18 : List AV → Heap → Prop) : awp Try.prog f9_M f9_c18 (roundQ f9_m18 Kb18 (f9_Q18 K Kb10)) (f9_fr18 t5 t12 t49 t50 t51 t77 t78) H = f9_b18 t5 t12 t49 t50 t51 t77 t78 H K Kb10 Kb18 := by kernel_rfl
theorem f9_loop18 {t5 : AV} {t12 : AV} {t49 : AV} {t50 : AV} {t51 : AV} {t77 : AV} {t78 : AV} {H : Heap} {K : AV → Heap → Prop} {Kb10 : List AV → Heap → Prop} (Inv : Nat → AV → Heap → Prop) (n : Nat) (h0 : HSc H → Inv n t78 H)
    (round : ∀ n t78 H', Inv n t78 H' → HSc H' → H.length ≤ H'.length → (f9_fr18 t5 t12 t49 t50 t51 t77 t78).all (AV.sc H'.length) = true → ∀ Kb18 : List AV → Heap → Prop, (∀ F'' H'', (∃ n', n' < n ∧ Back H.length (fun F2 H2 => ∃ t78, F2 = f9_fr18 t5 t12 t49 t50 t51 t77 t78 ∧ Inv n' t78 H2) F'' H'') → Kb18 F'' H'') → f9_b18 t5 t12 t49 t50 t51 t77 t78 H' K Kb10 Kb18) : f9_l18 t5 t12 t49 t50 t51 t77 t78 H K Kb10 :=
  aloop (M := f9_M) f9_m18 (fun n F H => ∃ t78, F = f9_fr18 t5 t12 t49 t50 t51 t77 t78 ∧ Inv n t78 H) n (fun hs _ => ⟨t78, rfl, h0 hs⟩) (fun n F H' ⟨t78, hF, hI⟩ h1 h2 h3 => by subst hF; rw [f9_b18_eq]; exact round n t78 H' hI h1 h2 h3 _ (fun _ _ h => h))
theorem f9_b10_eq (t5 : AV) (t49 : AV) (t50 : AV) (t51 : AV) (H : Heap) (K : AV → Heap → Prop) (Kb10 : List AV → Heap → Prop) : awp Try.prog f9_M f9_c10 (roundQ f9_m10 Kb10 (f9_Q10 K)) (f9_fr10 t5 t49 t50 t51) H = f9_b10 t5 t49 t50 t51 H K Kb10 := by kernel_rfl
theorem f9_loop10 {t5 : AV} {t49 : AV} {t50 : AV} {t51 : AV} {H : Heap} {K : AV → Heap → Prop} (Inv : Nat → AV → Heap → Prop) (n : Nat) (h0 : HSc H → Inv n t51 H)
    (round : ∀ n t51 H', Inv n t51 H' → HSc H' → H.length ≤ H'.length → (f9_fr10 t5 t49 t50 t51).all (AV.sc H'.length) = true → ∀ Kb10 : List AV → Heap → Prop, (∀ F'' H'', (∃ n', n' < n ∧ Back H.length (fun F2 H2 => ∃ t51, F2 = f9_fr10 t5 t49 t50 t51 ∧ Inv n' t51 H2) F'' H'') → Kb10 F'' H'') → f9_b10 t5 t49 t50 t51 H' K Kb10) : f9_l10 t5 t49 t50 t51 H K :=
  aloop (M := f9_M) f9_m10 (fun n F H => ∃ t51, F = f9_fr10 t5 t49 t50 t51 ∧ Inv n t51 H) n (fun hs _ => ⟨t51, rfl, h0 hs⟩) (fun n F H' ⟨t51, hF, hI⟩ h1 h2 h3 => by subst hF; rw [f9_b10_eq]; exact round n t51 H' hI h1 h2 h3 _ (fun _ _ h => h))
theorem f9_b5_eq (t1 : AV) (t5 : AV) (t8 : AV) (H : Heap) (K : AV → Heap → Prop) (Kb5 : List AV → Heap → Prop) : awp Try.prog f9_M f9_c5 (roundQ f9_m5 Kb5 (f9_Q5 K)) (f9_fr5 t1 t5 t8) H = f9_b5 t1 t5 t8 H K Kb5 := by kernel_rfl
theorem f9_loop5 {t1 : AV} {t5 : AV} {t8 : AV} {H : Heap} {K : AV → Heap → Prop} (Inv : Nat → AV → Heap → Prop) (n : Nat) (h0 : HSc H → Inv n t8 H)
    (round : ∀ n t8 H', Inv n t8 H' → HSc H' → H.length ≤ H'.length → (f9_fr5 t1 t5 t8).all (AV.sc H'.length) = true → ∀ Kb5 : List AV → Heap → Prop, (∀ F'' H'', (∃ n', n' < n ∧ Back H.length (fun F2 H2 => ∃ t8, F2 = f9_fr5 t1 t5 t8 ∧ Inv n' t8 H2) F'' H'') → Kb5 F'' H'') → f9_b5 t1 t5 t8 H' K Kb5) : f9_l5 t1 t5 t8 H K :=
  aloop (M := f9_M) f9_m5 (fun n F H => ∃ t8, F = f9_fr5 t1 t5 t8 ∧ Inv n t8 H) n (fun hs _ => ⟨t8, rfl, h0 hs⟩) (fun n F H' ⟨t8, hF, hI⟩ h1 h2 h3 => by subst hF; rw [f9_b5_eq]; exact round n t8 H' hI h1 h2 h3 _ (fun _ _ h => h))
theorem f9_eq (t0 : AV) (t1 : AV) (H : Heap) (K : AV → Heap → Prop) : awp Try.prog f9_M f9_c (retQ Try.prog f9_r K) [t0, t1, .unk, .unk, .unk, .unk, .unk, .unk, .unk, .unk, .unk, .unk, .unk, .unk, .unk, .unk, .unk, .unk, .unk, .unk, .unk, .unk, .unk, .unk, .unk, .unk, .unk, .unk, .unk, .unk, .unk, .unk, .unk, .unk, .unk, .unk, .unk, .unk, .unk, .unk, .unk, .unk, .unk, .unk, .unk, .unk, .unk, .unk, .unk, .unk, .unk, .unk, .unk, .unk, .unk, .unk, .unk, .unk, .unk, .unk, .unk, .unk, .unk, .unk, .unk, .unk, .unk, .unk, .unk, .unk, .unk, .unk, .unk, .unk, .unk, .unk, .unk, .unk, .unk, .unk, .unk, .unk, .unk, .unk, .unk, .unk, .unk, .unk, .unk, .unk, .unk, .unk, .unk, .unk, .unk, .unk, .unk, .unk, .unk, .unk, .unk, .unk, .unk, .unk, .unk, .unk, .unk, .unk] H = f9 t0 t1 H K := by kernel_rfl
theorem f9_ok {t0 : AV} {t1 : AV} {H : Heap} {K : AV → Heap → Prop} (h : HSc H → f9 t0 t1 H K) : ACalls Try.prog 9 [t0, t1] H K :=
  acalls_body (M := f9_M) Try.func9 (c := f9_c) (by kernel_rfl) (fun hs => (f9_eq t0 t1 H K).mpr (h hs))

/-! ### 10: amortcostlaw03.TokenErrors -/
def f10_M (_ : Nat) : List Bool := []
noncomputable def f10_c : Code := Try.f10.body.getD .skip
noncomputable def f10_r : List ResultVar := Try.f10.results.toList
def f10 (t0 : AV) (H : Heap) (K : AV → Heap → Prop) : Prop :=
  ACalls Try.prog 25 [t0] H fun t11 H =>
  aExt t11 0 fun t12 =>
  aExt t11 1 fun t13 =>
  aExt t11 2 fun t14 =>
  aBin .eql false t14 (.int .i64 0) fun t16 =>
  aGuardJ t16 false H (fun K' => K' t0 H) fun t18 H =>
  aGuardJ t16 false H (fun K' => aLen 0 t18 (K' · H)) fun t19 H =>
  aGuardJ t16 false H (fun K' => aBin .gtr false t19 (.int .i64 16384) (K' · H)) fun t20 H =>
  aPick t16 (.bool true) t20 fun t21 =>
  aTest t21
  (ACalls Try.prog 27 [] H fun t22 H =>
  K t22 H)
  (aLen 1 t12 fun t24 =>
  aBin .neq false t24 (.int .i64 0) fun t25 =>
  aGuardJ t25 false H (fun K' => K' t13 H) fun t27 H =>
  aGuardJ t25 false H (fun K' => aBin .lss false t27 (.int .i64 0) (K' · H)) fun t28 H =>
  aPick t25 (.bool true) t28 fun t29 =>
  aGuardJ t29 false H (fun K' => K' t13 H) fun t31 H =>
  aGuardJ t29 false H (fun K' => K' t0 H) fun t32 H =>
  aGuardJ t29 false H (fun K' => aLen 0 t32 (K' · H)) fun t33 H =>
  aGuardJ t29 false H (fun K' => aBin .geq false t31 t33 (K' · H)) fun t34 H =>
  aPick t29 (.bool true) t34 fun t35 =>
  aTest t35
  (K (.bool false) H)
  (aSlice 0 0 t0 none (some t13) fun t39 =>
  ACalls Try.prog 25 [t39] H fun t40 H =>
  aExt t40 0 fun t41 =>
  aExt t40 1 fun t42 =>
  aExt t40 2 fun t43 =>
  aBin .eql false t43 (.int .i64 0) fun t45 =>
  aGuardJ t45 true H (fun K' => ACalls Try.prog 27 [] H K') fun t47 H =>
  aPick t45 t47 (.bool false) fun t48 =>
  K t48 H))
theorem f10_eq (t0 : AV) (H : Heap) (K : AV → Heap → Prop) : awp Try.prog f10_M f10_c (retQ Try.prog f10_r K) [t0, .unk, .unk, .unk, .unk, .unk, .unk, .unk, .unk, .unk, .unk, .unk, .unk, .unk, .unk, .unk, .unk, .unk, .unk, .unk, .unk, .unk, .unk, .unk, .unk, .unk, .unk, .unk, .unk, .unk, .unk, .unk, .unk, .unk, .unk, .unk, .unk, .unk, .unk, .unk, .unk, .unk, .unk, .unk, .unk, .unk, .unk, .unk, .unk] H = f10 t0 H K := by kernel_rfl
theorem f10_ok {t0 : AV} {H : Heap} {K : AV → Heap → Prop} (h : HSc H → f10 t0 H K) : ACalls Try.prog 10 [t0] H K :=
  acalls_body (M := f10_M) Try.func10 (c := f10_c) (by kernel_rfl) (fun hs => (f10_eq t0 H K).mpr (h hs))

/-! ### 11: token.Keyword -/
def f11_M (_ : Nat) : List Bool := []
noncomputable def f11_c : Code := Try.f11.body.getD .skip
noncomputable def f11_r : List ResultVar := Try.f11.results.toList
def f11_j1 (t4 : AV) (H : Heap) (K : AV → Heap → Prop) : Prop :=
  aTest t4
  (K (.bool true) H)
  (K (.bool false) H)
def f11 (t0 : AV) (H : Heap) (K : AV → Heap → Prop) : Prop :=
  aBin .eql false t0 (.str [97, 114, 114, 97, 121]) fun t5 =>
  aTest t5
  (f11_j1 t5 H K)
  (aBin .eql false t0 (.str [98, 111, 111, 108]) fun t6 =>
  aTest t6
  (f11_j1 t6 H K)
  (aBin .eql false t0 (.str [99, 97, 116, 99, 104]) fun t7 =>
  aTest t7
  (f11_j1 t7 H K)
  (aBin .eql false t0 (.str [100, 97, 116, 97]) fun t8 =>
  aTest t8
  (f11_j1 t8 H K)
  (aBin .eql false t0 (.str [101, 108, 115, 101]) fun t9 =>
  aTest t9
  (f11_j1 t9 H K)
  (aBin .eql false t0 (.str [101, 110, 100]) fun t10 =>
  aTest t10
  (f11_j1 t10 H K)
  (aBin .eql false t0 (.str [102, 97, 108, 115, 101]) fun t11 =>
  aTest t11
  (f11_j1 t11 H K)
  (aBin .eql false t0 (.str [102, 110]) fun t12 =>
  aTest t12
  (f11_j1 t12 H K)
  (aBin .eql false t0 (.str [102, 117, 110]) fun t13 =>
  aTest t13
  (f11_j1 t13 H K)
  (aBin .eql false t0 (.str [103, 101, 116]) fun t14 =>
  aTest t14
  (f11_j1 t14 H K)
  (aBin .eql false t0 (.str [105, 102]) fun t15 =>
  aTest t15
  (f11_j1 t15 H K)
  (aBin .eql false t0 (.str [105, 110]) fun t16 =>
  aTest t16
  (f11_j1 t16 H K)
  (aBin .eql false t0 (.str [105, 110, 116]) fun t17 =>
  aTest t17
  (f11_j1 t17 H K)
  (aBin .eql false t0 (.str [108, 101, 110]) fun t18 =>
  aTest t18
  (f11_j1 t18 H K)
  (aBin .eql false t0 (.str [108, 101, 116]) fun t19 =>
  aTest t19
  (f11_j1 t19 H K)
  (aBin .eql false t0 (.str [109, 97, 116, 99, 104]) fun t20 =>
  aTest t20
  (f11_j1 t20 H K)
  (aBin .eql false t0 (.str [110, 101, 119]) fun t21 =>
  aTest t21
  (f11_j1 t21 H K)
  (aBin .eql false t0 (.str [114, 97, 105, 115, 101]) fun t22 =>
  aTest t22
  (f11_j1 t22 H K)
  (aBin .eql false t0 (.str [114, 101, 97, 100]) fun t23 =>
  aTest t23
  (f11_j1 t23 H K)
  (aBin .eql false t0 (.str [114, 101, 102]) fun t24 =>
  aTest t24
  (f11_j1 t24 H K)
  (aBin .eql false t0 (.str [115, 101, 116]) fun t25 =>
  aTest t25
  (f11_j1 t25 H K)
  (aBin .eql false t0 (.str [116, 104, 101, 110]) fun t26 =>
  aTest t26
  (f11_j1 t26 H K)
  (aBin .eql false t0 (.str [116, 105, 99, 107]) fun t27 =>
  aTest t27
  (f11_j1 t27 H K)
  (aBin .eql false t0 (.str [116, 114, 117, 101]) fun t28 =>
  aTest t28
  (f11_j1 t28 H K)
  (aBin .eql false t0 (.str [116, 114, 121]) fun t29 =>
  aTest t29
  (f11_j1 t29 H K)
  (aBin .eql false t0 (.str [117, 110, 105, 116]) fun t30 =>
  aTest t30
  (f11_j1 t30 H K)
  (aBin .eql false t0 (.str [119, 105, 116, 104]) fun t31 =>
  aTest t31
  (f11_j1 t31 H K)
  (aBin .eql false t0 (.str [119, 114, 105, 116, 101]) fun t32 =>
  f11_j1 t32 H K)))))))))))))))))))))))))))
theorem f11_eq (t0 : AV) (H : Heap) (K : AV → Heap → Prop) : awp Try.prog f11_M f11_c (retQ Try.prog f11_r K) [t0, .unk, .unk, .unk, .unk, .unk, .unk, .unk, .unk, .unk, .unk, .unk, .unk, .unk, .unk, .unk, .unk, .unk, .unk, .unk, .unk, .unk, .unk, .unk, .unk, .unk, .unk, .unk, .unk, .unk, .unk, .unk, .unk] H = f11 t0 H K := by kernel_rfl
theorem f11_ok {t0 : AV} {H : Heap} {K : AV → Heap → Prop} (h : HSc H → f11 t0 H K) : ACalls Try.prog 11 [t0] H K :=
  acalls_body (M := f11_M) Try.func11 (c := f11_c) (by kernel_rfl) (fun hs => (f11_eq t0 H K).mpr (h hs))

/-! ### 12: amortcostref3.Keyword -/
def f12_M : Nat → List Bool
  | 3 => [true, false, false, true, true, false, false, false, false, false, false, false, false, false, false, false, false, false]
  | _ => []
noncomputable def f12_c : Code := Try.f12.body.getD .skip
noncomputable def f12_r : List ResultVar := Try.f12.results.toList
def f12_fr3 (t0 : AV) (t3 : AV) (t4 : AV) : List AV := [t0, .unk, .unk, t3, t4, .unk, .unk, .unk, .unk, .unk, .unk, .unk, .unk, .unk, .unk, .unk, .unk, .unk]
def f12_m3 : List Bool := f12_M 3
noncomputable def f12_c3 : Code := codeAt [1, 1, 0, 1, 0, 0] f12_c
def f12_Q3 (K : AV → Heap → Prop) : AExit → List AV → Heap → Prop := contAt Try.prog f12_M [1, 1, 0, 1, 0] f12_c (retQ Try.prog f12_r K)
def f12_l3 (t0 : AV) (t3 : AV) (t4 : AV) (H : Heap) (K : AV → Heap → Prop) : Prop := ALoop Try.prog f12_c3 (f12_Q3 K) (f12_fr3 t0 t3 t4) H
def f12_b3 (t0 : AV) (t3 : AV) (t4 : AV) (H : Heap) (K : AV → Heap → Prop) (Kb3 : List AV → Heap → Prop) : Prop :=
  aLen 1 t3 fun t8 =>
  aBin .lss false t4 t8 fun t9 =>
  aTest t9
  (aIdxA 1 t3 t4 fun t14 =>
  aLoad false 1 t14 H fun t15 =>
  aBin .eql false t15 t0 fun t17 =>
  aTest t17
  (K (.bool true) H)
  (aBin .add false t4 (.int .i64 1) fun t11 =>
  Kb3 (f12_fr3 t0 t3 t11) H))
  (K (.bool false) H)
def f12 (t0 : AV) (H : Heap) (K : AV → Heap → Prop) : Prop :=
  aBuildS 1 [(.str [])] 28 [(0, (.str [97, 114, 114, 97, 121])), (1, (.str [98, 111, 111, 108])), (2, (.str [99, 97, 116, 99, 104])), (3, (.str [100, 97, 116, 97])), (4, (.str [101, 108, 115, 101])), (5, (.str [101, 110, 100])), (6, (.str [102, 97, 108, 115, 101])), (7, (.str [102, 110])), (8, (.str [102, 117, 110])), (9, (.str [103, 101, 116])), (10, (.str [105, 102])), (11, (.str [105, 110])), (12, (.str [105, 110, 116])), (13, (.str [108, 101, 110])), (14, (.str [108, 101, 116])), (15, (.str [109, 97, 116, 99, 104])), (16, (.str [110, 101, 119])), (17, (.str [114, 97, 105, 115, 101])), (18, (.str [114, 101, 97, 100])), (19, (.str [114, 101, 102])), (20, (.str [115, 101, 116])), (21, (.str [116, 104, 101, 110])), (22, (.str [116, 105, 99, 107])), (23, (.str [116, 114, 117, 101])), (24, (.str [116, 114, 121])), (25, (.str [117, 110, 105, 116])), (26, (.str [119, 105, 116, 104])), (27, (.str [119, 114, 105, 116, 101]))] fun t5 =>
  f12_l3 t0 t5 (.int .i64 0) H K
theorem f12_b3_eq (t0 : AV) (t3 : AV) (t4 : AV) (H : Heap) (K : AV → Heap → Prop) (Kb3 : List AV → Heap → Prop) : awp Try.prog f12_M f12_c3 (roundQ f12_m3 Kb3 (f12_Q3 K)) (f12_fr3 t0 t3 t4) H = f12_b3 t0 t3 t4 H K Kb3 := by kernel_rfl
theorem f12_loop3 {t0 : AV} {t3 : AV} {t4 : AV} {H : Heap} {K : AV → Heap → Prop} (Inv : Nat → AV → Heap → Prop) (n : Nat) (h0 : HSc H → Inv n t4 H)
    (round : ∀ n t4 H', Inv n t4 H' → HSc H' → H.length ≤ H'.length → (f12_fr3 t0 t3 t4).all (AV.sc H'.length) = true → ∀ Kb3 : List AV → Heap → Prop, (∀ F'' H'', (∃ n', n' < n ∧ Back H.length (fun F2 H2 => ∃ t4, F2 = f12_fr3 t0 t3 t4 ∧ Inv n' t4 H2) F'' H'') → Kb3 F'' H'') → f12_b3 t0 t3 t4 H' K Kb3) : f12_l3 t0 t3 t4 H K :=
  aloop (M := f12_M) f12_m3 (fun n F H => ∃ t4, F = f12_fr3 t0 t3 t4 ∧ Inv n t4 H) n (fun hs _ => ⟨t4, rfl, h0 hs⟩) (fun n F H' ⟨t4, hF, hI⟩ h1 h2 h3 => by subst hF; rw [f12_b3_eq]; exact round n t4 H' hI h1 h2 h3 _ (fun _ _ h => h))
theorem f12_eq (t0 : AV) (H : Heap) (K : AV → Heap → Prop) : awp Try.prog f12_M f12_c (retQ Try.prog f12_r K) [t0, .unk, .unk, .unk, .unk, .unk, .unk, .unk, .unk, .unk, .unk, .unk, .unk, .unk, .unk, .unk, .unk, .unk] H = f12 t0 H K := by kernel_rfl
theorem f12_ok {t0 : AV} {H : Heap} {K : AV → Heap → Prop} (h : HSc H → f12 t0 H K) : ACalls Try.prog 12 [t0] H K :=
  acalls_body (M := f12_M) Try.func12 (c := f12_c) (by kernel_rfl) (fun hs => (f12_eq t0 H K).mpr (h hs))

/-! ### 25: token.Split -/
def f25_M : Nat → List Bool
  | 5 => [true, false, false, false, false, true, true, false, false, false, false, false, false, false, false, false, false, false, false, false, false, false, false, false, false, false, false, false, false, false, false, false, false, false, false, false, false, false, false, false, false, false, false, false, false, false, false, false, false, false, false, false, false, false, false, false, false, false, false, false, false]
  | 9 => [true, false, false, false, false, true, true, false, false, false, false, false, false, false, false, false, false, false, false, false, false, false, false, false, false, false, false, false, false, false, false, false, false, false, false, false, false, false, false, false, false, false, false, false, false, false, false, false, false, false, false, false, false, false, false, false, false, false, false, false, false]
  | _ => []
noncomputable def f25_c : Code := Try.f25.body.getD .skip
noncomputable def f25_r : List ResultVar := Try.f25.results.toList
def f25_fr5 (t0 : AV) (t5 : AV) (t6 : AV) : List AV := [t0, .unk, .unk, .unk, .unk, t5, t6, .unk, .unk, .unk, .unk, .unk, .unk, .unk, .unk, .unk, .unk, .unk, .unk, .unk, .unk, .unk, .unk, .unk, .unk, .unk, .unk, .unk, .unk, .unk, .unk, .unk, .unk, .unk, .unk, .unk, .unk, .unk, .unk, .unk, .unk, .unk, .unk, .unk, .unk, .unk, .unk, .unk, .unk, .unk, .unk, .unk, .unk, .unk, .unk, .unk, .unk, .unk, .unk, .unk, .unk]
def f25_m5 : List Bool := f25_M 5
noncomputable def f25_c5 : Code := codeAt [1, 0, 1, 1, 1, 1, 0, 0, 0] f25_c
def f25_Q5 (K : AV → Heap → Prop) : AExit → List AV → Heap → Prop := contAt Try.prog f25_M [1, 0, 1, 1, 1, 1, 0, 0] f25_c (retQ Try.prog f25_r K)
def f25_l5 (t0 : AV) (t5 : AV) (t6 : AV) (H : Heap) (K : AV → Heap → Prop) : Prop := ALoop Try.prog f25_c5 (f25_Q5 K) (f25_fr5 t0 t5 t6) H
def f25_j1 (t0 : AV) (t5 : AV) (t6 : AV) (H : Heap) (K : AV → Heap → Prop) (Kb5 : List AV → Heap → Prop) : Prop :=
  Kb5 (f25_fr5 t0 t5 t6) H
def f25_fr9 (t0 : AV) (t5 : AV) (t6 : AV) : List AV := [t0, .unk, .unk, .unk, .unk, t5, t6, .unk, .unk, .unk, .unk, .unk, .unk, .unk, .unk, .unk, .unk, .unk, .unk, .unk, .unk, .unk, .unk, .unk, .unk, .unk, .unk, .unk, .unk, .unk, .unk, .unk, .unk, .unk, .unk, .unk, .unk, .unk, .unk, .unk, .unk, .unk, .unk, .unk, .unk, .unk, .unk, .unk, .unk, .unk, .unk, .unk, .unk, .unk, .unk, .unk, .unk, .unk, .unk, .unk, .unk]
def f25_m9 : List Bool := f25_M 9
noncomputable def f25_c9 : Code := codeAt [1, 0, 1, 0, 1, 0, 0, 0, 0] f25_c5
def f25_Q9 (K : AV → Heap → Prop) (Kb5 : List AV → Heap → Prop) : AExit → List AV → Heap → Prop := contAt Try.prog f25_M [1, 0, 1, 0, 1, 0, 0, 0] f25_c5 (roundQ f25_m5 Kb5 (f25_Q5 K))
def f25_l9 (t0 : AV) (t5 : AV) (t6 : AV) (H : Heap) (K : AV → Heap → Prop) (Kb5 : List AV → Heap → Prop) : Prop := ALoop Try.prog f25_c9 (f25_Q9 K Kb5) (f25_fr9 t0 t5 t6) H
def f25_j3 (t0 : AV) (t5 : AV) (H : Heap) (K : AV → Heap → Prop) : Prop :=
  aLen 0 t0 fun t57 =>
  aBuild [(.int .i64 0), (.str []), (.int .i64 0)] [(0, 1), (1, 1), (2, 1)] [(0, (.int .i64 6)), (2, t57)] fun t58 =>
  aBuildS 3 [(.int .i64 0), (.str []), (.int .i64 0)] 1 [(0, t58)] fun t59 =>
  aAppend 46 3 32 t5 t59 H fun t60 H =>
  aRet [t60, (.int .i64 0), (.int .i64 0)] (K · H)
def f25_j2 (t0 : AV) (t5 : AV) (H : Heap) (K : AV → Heap → Prop) : Prop :=
  f25_j3 t0 t5 H K
def f25_b9 (t0 : AV) (t5 : AV) (t6 : AV) (H : Heap) (K : AV → Heap → Prop) (Kb5 : List AV → Heap → Prop) (Kb9 : List AV → Heap → Prop) : Prop :=
  aLen 0 t0 fun t28 =>
  aBin .lss false t6 t28 fun t29 =>
  aTest t29
  (aIdxS t0 t6 fun t34 =>
  aBin .eql false t34 (.int .u8 10) fun t35 =>
  aTest t35
  (f25_j1 t0 t5 t6 H K Kb5)
  (aBin .add false t6 (.int .i64 1) fun t31 =>
  Kb9 (f25_fr9 t0 t5 t31) H))
  (f25_j2 t0 t5 H K)
def f25_b5 (t0 : AV) (t5 : AV) (t6 : AV) (H : Heap) (K : AV → Heap → Prop) (Kb5 : List AV → Heap → Prop) : Prop :=
  aLen 0 t0 fun t14 =>
  aBin .lss false t6 t14 fun t15 =>
  aTest t15
  (aIdxS t0 t6 fun t18 =>
  ACalls Try.prog 41 [t18] H fun t19 H =>
  aTest t19
  (aBin .add false t6 (.int .i64 1) fun t21 =>
  f25_j1 t0 t5 t21 H K Kb5)
  (aIdxS t0 t6 fun t24 =>
  aBin .eql false t24 (.int .u8 35) fun t25 =>
  aTest t25
  (f25_l9 t0 t5 t6 H K Kb5)
  (ACalls Try.prog 42 [t0, t6] H fun t39 H =>
  aExt t39 0 fun t40 =>
  aExt t39 1 fun t41 =>
  aNew [(.int .i64 0), (.str []), (.int .i64 0)] H fun t7 H =>
  aStore 3 t7 t40 H fun H =>
  aBin .neq false t41 (.int .i64 0) fun t43 =>
  aTest t43
  (aRet [.snil, t6, t41] (K · H))
  (aLoad true 3 t7 H fun t47 =>
  aBuildS 3 [(.int .i64 0), (.str []), (.int .i64 0)] 1 [(0, t47)] fun t48 =>
  aAppend 46 3 32 t5 t48 H fun t49 H =>
  aFld 1 t7 fun t51 =>
  aLoad false 1 t51 H fun t52 =>
  aLen 0 t52 fun t53 =>
  aBin .add false t6 t53 fun t54 =>
  f25_j1 t0 t49 t54 H K Kb5))))
  (f25_j2 t0 t5 H K)
def f25 (t0 : AV) (H : Heap) (K : AV → Heap → Prop) : Prop :=
  aLen 0 t0 fun t10 =>
  aBin .gtr false t10 (.int .i64 16384) fun t11 =>
  aTest t11
  (aRet [.snil, (.int .i64 0), (.int .i64 9)] (K · H))
  (f25_l5 t0 .snil (.int .i64 0) H K)
theorem f25_b9_eq (t0 : AV) (t5 : AV) (t6 : AV) (H : Heap) (K : AV → Heap → Prop) (Kb5 : List AV → Heap → Prop) (Kb9 : List AV → Heap → Prop) : awp Try.prog f25_M f25_c9 (roundQ f25_m9 Kb9 (f25_Q9 K Kb5)) (f25_fr9 t0 t5 t6) H = f25_b9 t0 t5 t6 H K Kb5 Kb9 := by kernel_rfl
theorem f25_loop9 {t0 : AV} {t5 : AV} {t6 : AV} {H : Heap} {K : AV → Heap → Prop} {Kb5 : List AV → Heap → Prop} (Inv : Nat → AV → Heap → Prop) (n : Nat) (h0 : HSc H → Inv n t6 H)
    (round : ∀ n t6 H', Inv n t6 H' → HSc H' → H.length ≤ H'.length → (f25_fr9 t0 t5 t6).all (AV.sc H'.length) = true → ∀ Kb9 : List AV → Heap → Prop, (∀ F'' H'', (∃ n', n' < n ∧ Back H.length (fun F2 H2 => ∃ t6, F2 = f25_fr9 t0 t5 t6 ∧ Inv n' t6 H2) F'' H'') → Kb9 F'' H'') → f25_b9 t0 t5 t6 H' K Kb5 Kb9) : f25_l9 t0 t5 t6 H K Kb5 :=
  aloop (M := f25_M) f25_m9 (fun n F H => ∃ t6, F = f25_fr9 t0 t5 t6 ∧ Inv n t6 H) n (fun hs _ => ⟨t6, rfl, h0 hs⟩) (fun n F H' ⟨t6, hF, hI⟩ h1 h2 h3 => by subst hF; rw [f25_b9_eq]; exact round n t6 H' hI h1 h2 h3 _ (fun _ _ h => h))
theorem f25_b5_eq (t0 : AV) (t5 : AV) (t6 : AV) (H : Heap) (K : AV → Heap → Prop) (Kb5 : List AV → Heap → Prop) : awp Try.prog f25_M f25_c5 (roundQ f25_m5 Kb5 (f25_Q5 K)) (f25_fr5 t0 t5 t6) H = f25_b5 t0 t5 t6 H K Kb5 := by kernel_rfl
theorem f25_loop5 {t0 : AV} {t5 : AV} {t6 : AV} {H : Heap} {K : AV → Heap → Prop} (Inv : Nat → AV → AV → Heap → Prop) (n : Nat) (h0 : HSc H → Inv n t5 t6 H)
    (round : ∀ n t5 t6 H', Inv n t5 t6 H' → HSc H' → H.length ≤ H'.length → (f25_fr5 t0 t5 t6).all (AV.sc H'.length) = true → ∀ Kb5 : List AV → Heap → Prop, (∀ F'' H'', (∃ n', n' < n ∧ Back H.length (fun F2 H2 => ∃ t5 t6, F2 = f25_fr5 t0 t5 t6 ∧ Inv n' t5 t6 H2) F'' H'') → Kb5 F'' H'') → f25_b5 t0 t5 t6 H' K Kb5) : f25_l5 t0 t5 t6 H K :=
  aloop (M := f25_M) f25_m5 (fun n F H => ∃ t5 t6, F = f25_fr5 t0 t5 t6 ∧ Inv n t5 t6 H) n (fun hs _ => ⟨t5, t6, rfl, h0 hs⟩) (fun n F H' ⟨t5, t6, hF, hI⟩ h1 h2 h3 => by subst hF; rw [f25_b5_eq]; exact round n t5 t6 H' hI h1 h2 h3 _ (fun _ _ h => h))
theorem f25_eq (t0 : AV) (H : Heap) (K : AV → Heap → Prop) : awp Try.prog f25_M f25_c (retQ Try.prog f25_r K) [t0, .unk, .unk, .unk, .unk, .unk, .unk, .unk, .unk, .unk, .unk, .unk, .unk, .unk, .unk, .unk, .unk, .unk, .unk, .unk, .unk, .unk, .unk, .unk, .unk, .unk, .unk, .unk, .unk, .unk, .unk, .unk, .unk, .unk, .unk, .unk, .unk, .unk, .unk, .unk, .unk, .unk, .unk, .unk, .unk, .unk, .unk, .unk, .unk, .unk, .unk, .unk, .unk, .unk, .unk, .unk, .unk, .unk, .unk, .unk, .unk] H = f25 t0 H K := by kernel_rfl
theorem f25_ok {t0 : AV} {H : Heap} {K : AV → Heap → Prop} (h : HSc H → f25 t0 H K) : ACalls Try.prog 25 [t0] H K :=
  acalls_body (M := f25_M) Try.func25 (c := f25_c) (by kernel_rfl) (fun hs => (f25_eq t0 H K).mpr (h hs))

/-! ### 26: amortcostref3.Split -/
def f26_M : Nat → List Bool
  | 5 => [true, false, false, false, false, true, true, false, false, false, false, false, false, false, false, false, false, false, false, false, false, false, false, false, false, false, false, false, false, false, false, false, false, false, false, false, false, false, false, false, false, false, false, false, false, false, false, false, false, false, false, false, false, false, false, false, false, false, false, false, false, false, false, false, false, false, false, false, false, false, false, false, false, false, false, false, false, false, false, false, false, false, false, false, false, false, false, false, false, false, false, false, false, false, false, false, false, false, false, false, false, false, false, false, false, false, false, false, false, false, false, false, false, false, false, false, false, false, false, false, false, false, false, false, false, false, false, false, false, false, false, false, false, false, false, false, false, false, false, false, false, false, false, false, false, false, false, false, false, false, false, false, false, false, false, false, false, false, false, false, false, false, false, false, false, false, false, false, false, false, false, false, false, false, false, false, false, false, false, false, false, false, false, false, false, false, false, false, false, false, false, false, false, false, false, false, false, false, false, false]
  | 10 => [true, false, false, false, false, true, true, false, false, false, false, false, false, false, false, false, false, false, false, false, false, false, false, false, false, false, false, false, false, false, false, false, false, false, false, false, false, false, false, false, false, false, false, false, false, false, false, false, false, false, false, false, false, false, false, false, false, false, false, false, false, false, false, false, false, false, false, false, false, false, false, false, false, false, false, false, false, false, false, false, false, false, false, false, false, false, false, false, false, false, false, false, false, false, false, false, false, false, false, false, false, false, false, false, false, false, false, false, false, false, false, false, false, false, false, false, false, false, false, false, false, false, false, false, false, false, false, false, false, false, false, false, false, false, false, false, false, false, false, false, false, false, false, false, false, false, false, false, false, false, false, false, false, false, false, false, false, false, false, false, false, false, false, false, false, false, false, false, false, false, false, false, false, false, false, false, false, false, false, false, false, false, false, false, false, false, false, false, false, false, false, false, false, false, false, false, false, false, false, false]
  | 18 => [true, false, false, false, false, true, true, true, true, false, false, false, false, false, false, false, false, false, false, false, false, false, false, false, false, false, false, false, false, false, false, false, false, false, false, false, false, false, false, false, false, false, false, false, false, false, false, false, false, false, false, false, false, false, false, false, false, false, false, false, false, false, false, false, false, false, false, false, false, false, false, false, false, false, false, false, false, false, false, false, false, false, false, false, false, false, false, false, false, false, false, false, false, false, false, false, false, false, false, false, false, false, false, false, false, false, false, false, false, false, false, false, false, false, false, false, false, false, false, false, false, false, false, false, false, false, false, false, false, false, false, false, false, false, false, false, false, false, false, false, false, false, false, false, false, false, false, false, false, false, false, false, false, false, false, false, false, false, false, false, false, false, false, false, false, false, false, false, false, false, false, false, false, false, false, false, false, false, false, false, false, false, false, false, false, false, false, false, false, false, false, false, false, false, false, false, false, false, false, false]
  | 29 => [true, false, false, false, false, true, true, true, true, false, false, false, false, false, false, false, false, false, false, false, false, false, false, false, false, false, false, false, false, false, false, false, false, false, false, false, false, false, false, false, false, false, false, false, false, false, false, false, false, false, false, false, false, false, false, false, false, false, false, false, false, false, false, false, false, false, false, false, false, false, false, false, false, false, false, false, false, false, false, false, false, false, false, false, false, false, false, false, false, false, false, false, false, false, false, false, false, false, false, false, false, false, false, false, false, false, false, false, false, false, false, false, false, false, false, false, false, false, false, false, false, false, false, false, false, false, false, false, false, false, false, false, false, false, false, false, false, false, false, false, false, false, false, false, false, false, false, false, false, false, false, false, false, false, false, false, false, false, false, false, false, false, false, false, false, false, false, false, false, false, false, false, false, false, false, false, false, false, false, false, false, false, false, false, false, false, false, false, false, false, false, false, false, false, false, false, false, false, false, false]
  | _ => []
noncomputable def f26_c : Code := Try.f26.body.getD .skip
noncomputable def f26_r : List ResultVar := Try.f26.results.toList
def f26_fr5 (t0 : AV) (t5 : AV) (t6 : AV) : List AV := [t0, .unk, .unk, .unk, .unk, t5, t6, .unk, .unk, .unk, .unk, .unk, .unk, .unk, .unk, .unk, .unk, .unk, .unk, .unk, .unk, .unk, .unk, .unk, .unk, .unk, .unk, .unk, .unk, .unk, .unk, .unk, .unk, .unk, .unk, .unk, .unk, .unk, .unk, .unk, .unk, .unk, .unk, .unk, .unk, .unk, .unk, .unk, .unk, .unk, .unk, .unk, .unk, .unk, .unk, .unk, .unk, .unk, .unk, .unk, .unk, .unk, .unk, .unk, .unk, .unk, .unk, .unk, .unk, .unk, .unk, .unk, .unk, .unk, .unk, .unk, .unk, .unk, .unk, .unk, .unk, .unk, .unk, .unk, .unk, .unk, .unk, .unk, .unk, .unk, .unk, .unk, .unk, .unk, .unk, .unk, .unk, .unk, .unk, .unk, .unk, .unk, .unk, .unk, .unk, .unk, .unk, .unk, .unk, .unk, .unk, .unk, .unk, .unk, .unk, .unk, .unk, .unk, .unk, .unk, .unk, .unk, .unk, .unk, .unk, .unk, .unk, .unk, .unk, .unk, .unk, .unk, .unk, .unk, .unk, .unk, .unk, .unk, .unk, .unk, .unk, .unk, .unk, .unk, .unk, .unk, .unk, .unk, .unk, .unk, .unk, .unk, .unk, .unk, .unk, .unk, .unk, .unk, .unk, .unk, .unk, .unk, .unk, .unk, .unk, .unk, .unk, .unk, .unk, .unk, .unk, .unk, .unk, .unk, .unk, .unk, .unk, .unk, .unk, .unk, .unk, .unk, .unk, .unk, .unk, .unk, .unk, .unk, .unk, .unk, .unk, .unk, .unk, .unk, .unk, .unk, .unk, .unk, .unk, .unk]
def f26_m5 : List Bool := f26_M 5
noncomputable def f26_c5 : Code := codeAt [1, 1, 1, 0, 1, 0, 0] f26_c
def f26_Q5 (K : AV → Heap → Prop) : AExit → List AV → Heap → Prop := contAt Try.prog f26_M [1, 1, 1, 0, 1, 0] f26_c (retQ Try.prog f26_r K)
def f26_l5 (t0 : AV) (t5 : AV) (t6 : AV) (H : Heap) (K : AV → Heap → Prop) : Prop := ALoop Try.prog f26_c5 (f26_Q5 K) (f26_fr5 t0 t5 t6) H
def f26_j1 (t0 : AV) (t5 : AV) (t6 : AV) (H : Heap) (K : AV → Heap → Prop) (Kb5 : List AV → Heap → Prop) : Prop :=
  Kb5 (f26_fr5 t0 t5 t6) H
def f26_fr10 (t0 : AV) (t5 : AV) (t6 : AV) : List AV := [t0, .unk, .unk, .unk, .unk, t5, t6, .unk, .unk, .unk, .unk, .unk, .unk, .unk, .unk, .unk, .unk, .unk, .unk, .unk, .unk, .unk, .unk, .unk, .unk, .unk, .unk, .unk, .unk, .unk, .unk, .unk, .unk, .unk, .unk, .unk, .unk, .unk, .unk, .unk, .unk, .unk, .unk, .unk, .unk, .unk, .unk, .unk, .unk, .unk, .unk, .unk, .unk, .unk, .unk, .unk, .unk, .unk, .unk, .unk, .unk, .unk, .unk, .unk, .unk, .unk, .unk, .unk, .unk, .unk, .unk, .unk, .unk, .unk, .unk, .unk, .unk, .unk, .unk, .unk, .unk, .unk, .unk, .unk, .unk, .unk, .unk, .unk, .unk, .unk, .unk, .unk, .unk, .unk, .unk, .unk, .unk, .unk, .unk, .unk, .unk, .unk, .unk, .unk, .unk, .unk, .unk, .unk, .unk, .unk, .unk, .unk, .unk, .unk, .unk, .unk, .unk, .unk, .unk, .unk, .unk, .unk, .unk, .unk, .unk, .unk, .unk, .unk, .unk, .unk, .unk, .unk, .unk, .unk, .unk, .unk, .unk, .unk, .unk, .unk, .unk, .unk, .unk, .unk, .unk, .unk, .unk, .unk, .unk, .unk, .unk, .unk, .unk, .unk, .unk, .unk, .unk, .unk, .unk, .unk, .unk, .unk, .unk, .unk, .unk, .unk, .unk, .unk, .unk, .unk, .unk, .unk, .unk, .unk, .unk, .unk, .unk, .unk, .unk, .unk, .unk, .unk, .unk, .unk, .unk, .unk, .unk, .unk, .unk, .unk, .unk, .unk, .unk, .unk, .unk, .unk, .unk, .unk, .unk, .unk]
def f26_m10 : List Bool := f26_M 10
noncomputable def f26_c10 : Code := codeAt [1, 0, 1, 1, 0, 1, 0, 0, 0, 0] f26_c5
def f26_Q10 (K : AV → Heap → Prop) (Kb5 : List AV → Heap → Prop) : AExit → List AV → Heap → Prop := contAt Try.prog f26_M [1, 0, 1, 1, 0, 1, 0, 0, 0] f26_c5 (roundQ f26_m5 Kb5 (f26_Q5 K))
def f26_l10 (t0 : AV) (t5 : AV) (t6 : AV) (H : Heap) (K : AV → Heap → Prop) (Kb5 : List AV → Heap → Prop) : Prop := ALoop Try.prog f26_c10 (f26_Q10 K Kb5) (f26_fr10 t0 t5 t6) H
def f26_b10 (t0 : AV) (t5 : AV) (t6 : AV) (H : Heap) (K : AV → Heap → Prop) (Kb5 : List AV → Heap → Prop) (Kb10 : List AV → Heap → Prop) : Prop :=
  aLen 0 t0 fun t42 =>
  aBin .lss false t6 t42 fun t43 =>
  aGuardJ t43 true H (fun K' => K' t0 H) fun t45 H =>
  aGuardJ t43 true H (fun K' => K' t6 H) fun t46 H =>
  aGuardJ t43 true H (fun K' => aIdxS t45 t46 (K' · H)) fun t47 H =>
  aGuardJ t43 true H (fun K' => aBin .neq false t47 (.int .u8 10) (K' · H)) fun t48 H =>
  aPick t43 t48 (.bool false) fun t49 =>
  aTest t49
  (aBin .add false t6 (.int .i64 1) fun t51 =>
  Kb10 (f26_fr10 t0 t5 t51) H)
  (f26_j1 t0 t5 t6 H K Kb5)
def f26_fr18 (t0 : AV) (t5 : AV) (t6 : AV) (t7 : AV) (t8 : AV) : List AV := [t0, .unk, .unk, .unk, .unk, t5, t6, t7, t8, .unk, .unk, .unk, .unk, .unk, .unk, .unk, .unk, .unk, .unk, .unk, .unk, .unk, .unk, .unk, .unk, .unk, .unk, .unk, .unk, .unk, .unk, .unk, .unk, .unk, .unk, .unk, .unk, .unk, .unk, .unk, .unk, .unk, .unk, .unk, .unk, .unk, .unk, .unk, .unk, .unk, .unk, .unk, .unk, .unk, .unk, .unk, .unk, .unk, .unk, .unk, .unk, .unk, .unk, .unk, .unk, .unk, .unk, .unk, .unk, .unk, .unk, .unk, .unk, .unk, .unk, .unk, .unk, .unk, .unk, .unk, .unk, .unk, .unk, .unk, .unk, .unk, .unk, .unk, .unk, .unk, .unk, .unk, .unk, .unk, .unk, .unk, .unk, .unk, .unk, .unk, .unk, .unk, .unk, .unk, .unk, .unk, .unk, .unk, .unk, .unk, .unk, .unk, .unk, .unk, .unk, .unk, .unk, .unk, .unk, .unk, .unk, .unk, .unk, .unk, .unk, .unk, .unk, .unk, .unk, .unk, .unk, .unk, .unk, .unk, .unk, .unk, .unk, .unk, .unk, .unk, .unk, .unk, .unk, .unk, .unk, .unk, .unk, .unk, .unk, .unk, .unk, .unk, .unk, .unk, .unk, .unk, .unk, .unk, .unk, .unk, .unk, .unk, .unk, .unk, .unk, .unk, .unk, .unk, .unk, .unk, .unk, .unk, .unk, .unk, .unk, .unk, .unk, .unk, .unk, .unk, .unk, .unk, .unk, .unk, .unk, .unk, .unk, .unk, .unk, .unk, .unk, .unk, .unk, .unk, .unk, .unk, .unk, .unk, .unk, .unk]
def f26_m18 : List Bool := f26_M 18
noncomputable def f26_c18 : Code := codeAt [1, 0, 1, 1, 1, 1, 0, 0, 1, 0, 0, 0, 0] f26_c5
def f26_Q18 (K : AV → Heap → Prop) (Kb5 : List AV → Heap → Prop) : AExit → List AV → Heap → Prop := contAt Try.prog f26_M [1, 0, 1, 1, 1, 1, 0, 0, 1, 0, 0, 0] f26_c5 (roundQ f26_m5 Kb5 (f26_Q5 K))
def f26_l18 (t0 : AV) (t5 : AV) (t6 : AV) (t7 : AV) (t8 : AV) (H : Heap) (K : AV → Heap → Prop) (Kb5 : List AV → Heap → Prop) : Prop := ALoop Try.prog f26_c18 (f26_Q18 K Kb5) (f26_fr18 t0 t5 t6 t7 t8) H
def f26_j4 (t0 : AV) (t5 : AV) (t6 : AV) (t8 : AV) (H : Heap) (K : AV → Heap → Prop) (Kb5 : List AV → Heap → Prop) : Prop :=
  aBin .add false t6 t8 fun t193 =>
  f26_j1 t0 t5 t193 H K Kb5
def f26_j3 (t0 : AV) (t5 : AV) (t6 : AV) (t8 : AV) (H : Heap) (K : AV → Heap → Prop) (Kb5 : List AV → Heap → Prop) : Prop :=
  f26_j4 t0 t5 t6 t8 H K Kb5
def f26_j2 (t0 : AV) (t5 : AV) (t6 : AV) (t8 : AV) (t9 : AV) (H : Heap) (K : AV → Heap → Prop) (Kb5 : List AV → Heap → Prop) : Prop :=
  aBin .add false t6 t8 fun t135 =>
  aSlice 0 0 t0 (some t6) (some t135) fun t136 =>
  aBuild [(.int .i64 0), (.str []), (.int .i64 0)] [(0, 1), (1, 1), (2, 1)] [(0, t9), (1, t136), (2, t6)] fun t138 =>
  aBuildS 3 [(.int .i64 0), (.str []), (.int .i64 0)] 1 [(0, t138)] fun t139 =>
  aAppend 47 3 32 t5 t139 H fun t140 H =>
  f26_j3 t0 t140 t6 t8 H K Kb5
def f26_b18 (t0 : AV) (t5 : AV) (t6 : AV) (t7 : AV) (t8 : AV) (H : Heap) (K : AV → Heap → Prop) (Kb5 : List AV → Heap → Prop) (Kb18 : List AV → Heap → Prop) : Prop :=
  aBin .add false t6 t8 fun t79 =>
  aLen 0 t0 fun t81 =>
  aBin .lss false t79 t81 fun t82 =>
  aGuardJ t82 true H (fun K' => K' t0 H) fun t84 H =>
  aGuardJ t82 true H (fun K' => K' t6 H) fun t85 H =>
  aGuardJ t82 true H (fun K' => K' t8 H) fun t86 H =>
  aGuardJ t82 true H (fun K' => aBin .add false t85 t86 (K' · H)) fun t87 H =>
  aGuardJ t82 true H (fun K' => aIdxS t84 t87 (K' · H)) fun t88 H =>
  aGuardJ t82 true H (fun K' => ACalls Try.prog 43 [t88] H K') fun t89 H =>
  aGuardJ t82 true H (fun K' => K' t89 H) fun t90 H =>
  aGuardJ t90 false H (fun K' => K' t0 H) fun t91 H =>
  aGuardJ t90 false H (fun K' => K' t6 H) fun t92 H =>
  aGuardJ t90 false H (fun K' => K' t8 H) fun t93 H =>
  aGuardJ t90 false H (fun K' => aBin .add false t92 t93 (K' · H)) fun t94 H =>
  aGuardJ t90 false H (fun K' => aIdxS t91 t94 (K' · H)) fun t95 H =>
  aGuardJ t90 false H (fun K' => ACalls Try.prog 44 [t95] H K') fun t96 H =>
  aGuardJ t82 true H (fun K' => aPick t90 (.bool true) t96 (K' · H)) fun t97 H =>
  aGuardJ t82 true H (fun K' => K' t97 H) fun t98 H =>
  aGuardJ t98 false H (fun K' => K' t0 H) fun t99 H =>
  aGuardJ t98 false H (fun K' => K' t6 H) fun t100 H =>
  aGuardJ t98 false H (fun K' => K' t8 H) fun t101 H =>
  aGuardJ t98 false H (fun K' => aBin .add false t100 t101 (K' · H)) fun t102 H =>
  aGuardJ t98 false H (fun K' => aIdxS t99 t102 (K' · H)) fun t103 H =>
  aGuardJ t98 false H (fun K' => ACalls Try.prog 45 [t103] H K') fun t104 H =>
  aGuardJ t82 true H (fun K' => aPick t98 (.bool true) t104 (K' · H)) fun t105 H =>
  aGuardJ t82 true H (fun K' => K' t105 H) fun t106 H =>
  aGuardJ t106 false H (fun K' => K' t0 H) fun t107 H =>
  aGuardJ t106 false H (fun K' => K' t6 H) fun t108 H =>
  aGuardJ t106 false H (fun K' => K' t8 H) fun t109 H =>
  aGuardJ t106 false H (fun K' => aBin .add false t108 t109 (K' · H)) fun t110 H =>
  aGuardJ t106 false H (fun K' => aIdxS t107 t110 (K' · H)) fun t111 H =>
  aGuardJ t106 false H (fun K' => aBin .eql false t111 (.int .u8 95) (K' · H)) fun t112 H =>
  aGuardJ t82 true H (fun K' => aPick t106 (.bool true) t112 (K' · H)) fun t113 H =>
  aPick t82 t113 (.bool false) fun t114 =>
  aTest t114
  (aBin .add false t8 (.int .i64 1) fun t116 =>
  Kb18 (f26_fr18 t0 t5 t6 t7 t116) H)
  (aBin .gtr false t8 (.int .i64 24) fun t118 =>
  aTest t118
  (aRet [.snil, t6, (.int .i64 9)] (K · H))
  (ACalls Try.prog 44 [t7] H fun t121 H =>
  aTest t121
  (f26_j2 t0 t5 t6 t8 (.int .i64 2) H K Kb5)
  (aBin .add false t6 t8 fun t126 =>
  aSlice 0 0 t0 (some t6) (some t126) fun t127 =>
  ACalls Try.prog 12 [t127] H fun t128 H =>
  aTest t128
  (f26_j2 t0 t5 t6 t8 (.int .i64 4) H K Kb5)
  (f26_j2 t0 t5 t6 t8 (.int .i64 1) H K Kb5))))
def f26_fr29 (t0 : AV) (t5 : AV) (t6 : AV) (t7 : AV) (t8 : AV) : List AV := [t0, .unk, .unk, .unk, .unk, t5, t6, t7, t8, .unk, .unk, .unk, .unk, .unk, .unk, .unk, .unk, .unk, .unk, .unk, .unk, .unk, .unk, .unk, .unk, .unk, .unk, .unk, .unk, .unk, .unk, .unk, .unk, .unk, .unk, .unk, .unk, .unk, .unk, .unk, .unk, .unk, .unk, .unk, .unk, .unk, .unk, .unk, .unk, .unk, .unk, .unk, .unk, .unk, .unk, .unk, .unk, .unk, .unk, .unk, .unk, .unk, .unk, .unk, .unk, .unk, .unk, .unk, .unk, .unk, .unk, .unk, .unk, .unk, .unk, .unk, .unk, .unk, .unk, .unk, .unk, .unk, .unk, .unk, .unk, .unk, .unk, .unk, .unk, .unk, .unk, .unk, .unk, .unk, .unk, .unk, .unk, .unk, .unk, .unk, .unk, .unk, .unk, .unk, .unk, .unk, .unk, .unk, .unk, .unk, .unk, .unk, .unk, .unk, .unk, .unk, .unk, .unk, .unk, .unk, .unk, .unk, .unk, .unk, .unk, .unk, .unk, .unk, .unk, .unk, .unk, .unk, .unk, .unk, .unk, .unk, .unk, .unk, .unk, .unk, .unk, .unk, .unk, .unk, .unk, .unk, .unk, .unk, .unk, .unk, .unk, .unk, .unk, .unk, .unk, .unk, .unk, .unk, .unk, .unk, .unk, .unk, .unk, .unk, .unk, .unk, .unk, .unk, .unk, .unk, .unk, .unk, .unk, .unk, .unk, .unk, .unk, .unk, .unk, .unk, .unk, .unk, .unk, .unk, .unk, .unk, .unk, .unk, .unk, .unk, .unk, .unk, .unk, .unk, .unk, .unk, .unk, .unk, .unk, .unk]
def f26_m29 : List Bool := f26_M 29
noncomputable def f26_c29 : Code := codeAt [1, 0, 1, 1, 1, 1, 0, 0, 1, 1, 1, 0, 0, 0, 0] f26_c5
def f26_Q29 (K : AV → Heap → Prop) (Kb5 : List AV → Heap → Prop) : AExit → List AV → Heap → Prop := contAt Try.prog f26_M [1, 0, 1, 1, 1, 1, 0, 0, 1, 1, 1, 0, 0, 0] f26_c5 (roundQ f26_m5 Kb5 (f26_Q5 K))
def f26_l29 (t0 : AV) (t5 : AV) (t6 : AV) (t7 : AV) (t8 : AV) (H : Heap) (K : AV → Heap → Prop) (Kb5 : List AV → Heap → Prop) : Prop := ALoop Try.prog f26_c29 (f26_Q29 K Kb5) (f26_fr29 t0 t5 t6 t7 t8) H
def f26_b29 (t0 : AV) (t5 : AV) (t6 : AV) (t7 : AV) (t8 : AV) (H : Heap) (K : AV → Heap → Prop) (Kb5 : List AV → Heap → Prop) (Kb29 : List AV → Heap → Prop) : Prop :=
  aBin .add false t6 t8 fun t146 =>
  aLen 0 t0 fun t148 =>
  aBin .lss false t146 t148 fun t149 =>
  aGuardJ t149 true H (fun K' => K' t0 H) fun t151 H =>
  aGuardJ t149 true H (fun K' => K' t6 H) fun t152 H =>
  aGuardJ t149 true H (fun K' => K' t8 H) fun t153 H =>
  aGuardJ t149 true H (fun K' => aBin .add false t152 t153 (K' · H)) fun t154 H =>
  aGuardJ t149 true H (fun K' => aIdxS t151 t154 (K' · H)) fun t155 H =>
  aGuardJ t149 true H (fun K' => ACalls Try.prog 45 [t155] H K') fun t156 H =>
  aPick t149 t156 (.bool false) fun t157 =>
  aTest t157
  (aBin .add false t8 (.int .i64 1) fun t159 =>
  Kb29 (f26_fr29 t0 t5 t6 t7 t159) H)
  (aBin .gtr false t8 (.int .i64 1) fun t161 =>
  aGuardJ t161 true H (fun K' => K' t7 H) fun t163 H =>
  aGuardJ t161 true H (fun K' => aBin .eql false t163 (.int .u8 48) (K' · H)) fun t164 H =>
  aPick t161 t164 (.bool false) fun t165 =>
  aTest t165
  (aRet [.snil, t6, (.int .i64 2)] (K · H))
  (aBin .add false t6 t8 fun t172 =>
  aSlice 0 0 t0 (some t6) (some t172) fun t173 =>
  ACalls Try.prog 46 [t173] H fun t174 H =>
  aExt t174 0 fun t175 =>
  aExt t174 1 fun t176 =>
  aUn .not t176 fun t178 =>
  aTest t178
  (aRet [.snil, t6, (.int .i64 9)] (K · H))
  (aBin .add false t6 t8 fun t185 =>
  aSlice 0 0 t0 (some t6) (some t185) fun t186 =>
  aBuild [(.int .i64 0), (.str []), (.int .i64 0)] [(0, 1), (1, 1), (2, 1)] [(0, (.int .i64 3)), (1, t186), (2, t6)] fun t188 =>
  aBuildS 3 [(.int .i64 0), (.str []), (.int .i64 0)] 1 [(0, t188)] fun t189 =>
  aAppend 47 3 32 t5 t189 H fun t190 H =>
  f26_j3 t0 t190 t6 t8 H K Kb5)))
def f26_b5 (t0 : AV) (t5 : AV) (t6 : AV) (H : Heap) (K : AV → Heap → Prop) (Kb5 : List AV → Heap → Prop) : Prop :=
  aLen 0 t0 fun t17 =>
  aBin .lss false t6 t17 fun t18 =>
  aTest t18
  (aIdxS t0 t6 fun t21 =>
  aBin .eql false t21 (.int .u8 9) fun t23 =>
  aGuardJ t23 false H (fun K' => K' t21 H) fun t25 H =>
  aGuardJ t23 false H (fun K' => aBin .eql false t25 (.int .u8 10) (K' · H)) fun t26 H =>
  aPick t23 (.bool true) t26 fun t27 =>
  aGuardJ t27 false H (fun K' => K' t21 H) fun t29 H =>
  aGuardJ t27 false H (fun K' => aBin .eql false t29 (.int .u8 13) (K' · H)) fun t30 H =>
  aPick t27 (.bool true) t30 fun t31 =>
  aGuardJ t31 false H (fun K' => K' t21 H) fun t33 H =>
  aGuardJ t31 false H (fun K' => aBin .eql false t33 (.int .u8 32) (K' · H)) fun t34 H =>
  aPick t31 (.bool true) t34 fun t35 =>
  aTest t35
  (aBin .add false t6 (.int .i64 1) fun t37 =>
  f26_j1 t0 t5 t37 H K Kb5)
  (aBin .eql false t21 (.int .u8 35) fun t39 =>
  aTest t39
  (f26_l10 t0 t5 t6 H K Kb5)
  (ACalls Try.prog 43 [t21] H fun t72 H =>
  aGuardJ t72 false H (fun K' => K' t21 H) fun t74 H =>
  aGuardJ t72 false H (fun K' => ACalls Try.prog 44 [t74] H K') fun t75 H =>
  aPick t72 (.bool true) t75 fun t76 =>
  aTest t76
  (f26_l18 t0 t5 t6 t21 (.int .i64 1) H K Kb5)
  (ACalls Try.prog 45 [t21] H fun t143 H =>
  aTest t143
  (f26_l29 t0 t5 t6 t21 (.int .i64 1) H K Kb5)
  (aSlice 0 0 t0 (some t6) none fun t54 =>
  ACalls Try.prog 47 [t54] H fun t55 H =>
  aBin .eql false t55 (.int .i64 0) fun t57 =>
  aTest t57
  (aRet [.snil, t6, (.int .i64 2)] (K · H))
  (aBin .add false t6 t55 fun t64 =>
  aSlice 0 0 t0 (some t6) (some t64) fun t65 =>
  aBuild [(.int .i64 0), (.str []), (.int .i64 0)] [(0, 1), (1, 1), (2, 1)] [(0, (.int .i64 5)), (1, t65), (2, t6)] fun t67 =>
  aBuildS 3 [(.int .i64 0), (.str []), (.int .i64 0)] 1 [(0, t67)] fun t68 =>
  aAppend 47 3 32 t5 t68 H fun t69 H =>
  f26_j3 t0 t69 t6 t55 H K Kb5))))))
  (aLen 0 t0 fun t196 =>
  aBuild [(.int .i64 0), (.str []), (.int .i64 0)] [(0, 1), (1, 1), (2, 1)] [(0, (.int .i64 6)), (1, (.str [])), (2, t196)] fun t197 =>
  aBuildS 3 [(.int .i64 0), (.str []), (.int .i64 0)] 1 [(0, t197)] fun t198 =>
  aAppend 47 3 32 t5 t198 H fun t199 H =>
  aRet [t199, (.int .i64 0), (.int .i64 0)] (K · H))
def f26 (t0 : AV) (H : Heap) (K : AV → Heap → Prop) : Prop :=
  aLen 0 t0 fun t13 =>
  aBin .gtr false t13 (.int .i64 16384) fun t14 =>
  aTest t14
  (aRet [.snil, (.int .i64 0), (.int .i64 9)] (K · H))
  (f26_l5 t0 .snil (.int .i64 0) H K)
theorem f26_b10_eq (t0 : AV) (t5 : AV) (t6 : AV) (H : Heap) (K : AV → Heap → Prop) (Kb5 : List AV → Heap → Prop) (Kb10 : List AV → Heap → Prop) : awp Try.prog f26_M f26_c10 (roundQ f26_m10 Kb10 (f26_Q10 K Kb5)) (f26_fr10 t0 t5 t6) H = f26_b10 t0 t5 t6 H K Kb5 Kb10 := by kernel_rfl
theorem f26_loop10 {t0 : AV} {t5 : AV} {t6 : AV} {H : Heap} {K : AV → Heap → Prop} {Kb5 : List AV → Heap → Prop} (Inv : Nat → AV → Heap → Prop) (n : Nat) (h0 : HSc H → Inv n t6 H)
    (round : ∀ n t6 H', Inv n t6 H' → HSc H' → H.length ≤ H'.length → (f26_fr10 t0 t5 t6).all (AV.sc H'.length) = true → ∀ Kb10 : List AV → Heap → Prop, (∀ F'' H'', (∃ n', n' < n ∧ Back H.length (fun F2 H2 => ∃ t6, F2 = f26_fr10 t0 t5 t6 ∧ Inv n' t6 H2) F'' H'') → Kb10 F'' H'') → f26_b10 t0 t5 t6 H' K Kb5 Kb10) : f26_l10 t0 t5 t6 H K Kb5 :=
  aloop (M := f26_M) f26_m10 (fun n F H => ∃ t6, F = f26_fr10 t0 t5 t6 ∧ Inv n t6 H) n (fun hs _ => ⟨t6, rfl, h0 hs⟩) (fun n F H' ⟨t6, hF, hI⟩ h1 h2 h3 => by subst hF; rw [f26_b10_eq]; exact round n t6 H' hI h1 h2 h3 _ (fun _ _ h => h))
theorem f26_b18_eq (t0 : AV) (t5 : AV) (t6 : AV) (t7 : AV) (t8 : AV) (H : Heap) (K : AV → Heap → Prop) (Kb5 : List AV → Heap → Prop) (Kb18 : List AV → Heap → Prop) : awp Try.prog f26_M f26_c18 (roundQ f26_m18 Kb18 (f26_Q18 K Kb5)) (f26_fr18 t0 t5 t6 t7 t8) H = f26_b18 t0 t5 t6 t7 t8 H K Kb5 Kb18 := by kernel_rfl
theorem f26_loop18 {t0 : AV} {t5 : AV} {t6 : AV} {t7 : AV} {t8 : AV} {H : Heap} {K : AV → Heap → Prop} {Kb5 : List AV → Heap → Prop} (Inv : Nat → AV → Heap → Prop) (n : Nat) (h0 : HSc H → Inv n t8 H)
    (round : ∀ n t8 H', Inv n t8 H' → HSc H' → H.length ≤ H'.length → (f26_fr18 t0 t5 t6 t7 t8).all (AV.sc H'.length) = true → ∀ Kb18 : List AV → Heap → Prop, (∀ F'' H'', (∃ n', n' < n ∧ Back H.length (fun F2 H2 => ∃ t8, F2 = f26_fr18 t0 t5 t6 t7 t8 ∧ Inv n' t8 H2) F'' H'') → Kb18 F'' H'') → f26_b18 t0 t5 t6 t7 t8 H' K Kb5 Kb18) : f26_l18 t0 t5 t6 t7 t8 H K Kb5 :=
  aloop (M := f26_M) f26_m18 (fun n F H => ∃ t8, F = f26_fr18 t0 t5 t6 t7 t8 ∧ Inv n t8 H) n (fun hs _ => ⟨t8, rfl, h0 hs⟩) (fun n F H' ⟨t8, hF, hI⟩ h1 h2 h3 => by subst hF; rw [f26_b18_eq]; exact round n t8 H' hI h1 h2 h3 _ (fun _ _ h => h))
theorem f26_b29_eq (t0 : AV) (t5 : AV) (t6 : AV) (t7 : AV) (t8 : AV) (H : Heap) (K : AV → Heap → Prop) (Kb5 : List AV → Heap → Prop) (Kb29 : List AV → Heap → Prop) : awp Try.prog f26_M f26_c29 (roundQ f26_m29 Kb29 (f26_Q29 K Kb5)) (f26_fr29 t0 t5 t6 t7 t8) H = f26_b29 t0 t5 t6 t7 t8 H K Kb5 Kb29 := by kernel_rfl
theorem f26_loop29 {t0 : AV} {t5 : AV} {t6 : AV} {t7 : AV} {t8 : AV} {H : Heap} {K : AV → Heap → Prop} {Kb5 : List AV → Heap → Prop} (Inv : Nat → AV → Heap → Prop) (n : Nat) (h0 : HSc H → Inv n t8 H)
    (round : ∀ n t8 H', Inv n t8 H' → HSc H' → H.length ≤ H'.length → (f26_fr29 t0 t5 t6 t7 t8).all (AV.sc H'.length) = true → ∀ Kb29 : List AV → Heap → Prop, (∀ F'' H'', (∃ n', n' < n ∧ Back H.length (fun F2 H2 => ∃ t8, F2 = f26_fr29 t0 t5 t6 t7 t8 ∧ Inv n' t8 H2) F'' H'') → Kb29 F'' H'') → f26_b29 t0 t5 t6 t7 t8 H' K Kb5 Kb29) : f26_l29 t0 t5 t6 t7 t8 H K Kb5 :=
  aloop (M := f26_M) f26_m29 (fun n F H => ∃ t8, F = f26_fr29 t0 t5 t6 t7 t8 ∧ Inv n t8 H) n (fun hs _ => ⟨t8, rfl, h0 hs⟩) (fun n F H' ⟨t8, hF, hI⟩ h1 h2 h3 => by subst hF; rw [f26_b29_eq]; exact round n t8 H' hI h1 h2 h3 _ (fun _ _ h => h))
theorem f26_b5_eq (t0 : AV) (t5 : AV) (t6 : AV) (H : Heap) (K : AV → Heap → Prop) (Kb5 : List AV → Heap → Prop) : awp Try.prog f26_M f26_c5 (roundQ f26_m5 Kb5 (f26_Q5 K)) (f26_fr5 t0 t5 t6) H = f26_b5 t0 t5 t6 H K Kb5 := by kernel_rfl
theorem f26_loop5 {t0 : AV} {t5 : AV} {t6 : AV} {H : Heap} {K : AV → Heap → Prop} (Inv : Nat → AV → AV → Heap → Prop) (n : Nat) (h0 : HSc H → Inv n t5 t6 H)
    (round : ∀ n t5 t6 H', Inv n t5 t6 H' → HSc H' → H.length ≤ H'.length → (f26_fr5 t0 t5 t6).all (AV.sc H'.length) = true → ∀ Kb5 : List AV → Heap → Prop, (∀ F'' H'', (∃ n', n' < n ∧ Back H.length (fun F2 H2 => ∃ t5 t6, F2 = f26_fr5 t0 t5 t6 ∧ Inv n' t5 t6 H2) F'' H'') → Kb5 F'' H'') → f26_b5 t0 t5 t6 H' K Kb5) : f26_l5 t0 t5 t6 H K :=
  aloop (M := f26_M) f26_m5 (fun n F H => ∃ t5 t6, F = f26_fr5 t0 t5 t6 ∧ Inv n t5 t6 H) n (fun hs _ => ⟨t5, t6, rfl, h0 hs⟩) (fun n F H' ⟨t5, t6, hF, hI⟩ h1 h2 h3 => by subst hF; rw [f26_b5_eq]; exact round n t5 t6 H' hI h1 h2 h3 _ (fun _ _ h => h))
theorem f26_eq (t0 : AV) (H : Heap) (K : AV → Heap → Prop) : awp Try.prog f26_M f26_c (retQ Try.prog f26_r K) [t0, .unk, .unk, .unk, .unk, .unk, .unk, .unk, .unk, .unk, .unk, .unk, .unk, .unk, .unk, .unk, .unk, .unk, .unk, .unk, .unk, .unk, .unk, .unk, .unk, .unk, .unk, .unk, .unk, .unk, .unk, .unk, .unk, .unk, .unk, .unk, .unk, .unk, .unk, .unk, .unk, .unk, .unk, .unk, .unk, .unk, .unk, .unk, .unk, .unk, .unk, .unk, .unk, .unk, .unk, .unk, .unk, .unk, .unk, .unk, .unk, .unk, .unk, .unk, .unk, .unk, .unk, .unk, .unk, .unk, .unk, .unk, .unk, .unk, .unk, .unk, .unk, .unk, .unk, .unk, .unk, .unk, .unk, .unk, .unk, .unk, .unk, .unk, .unk, .unk, .unk, .unk, .unk, .unk, .unk, .unk, .unk, .unk, .unk, .unk, .unk, .unk, .unk, .unk, .unk, .unk, .unk, .unk, .unk, .unk, .unk, .unk, .unk, .unk, .unk, .unk, .unk, .unk, .unk, .unk, .unk, .unk, .unk, .unk, .unk, .unk, .unk, .unk, .unk, .unk, .unk, .unk, .unk, .unk, .unk, .unk, .unk, .unk, .unk, .unk, .unk, .unk, .unk, .unk, .unk, .unk, .unk, .unk, .unk, .unk, .unk, .unk, .unk, .unk, .unk, .unk, .unk, .unk, .unk, .unk, .unk, .unk, .unk, .unk, .unk, .unk, .unk, .unk, .unk, .unk, .unk, .unk, .unk, .unk, .unk, .unk, .unk, .unk, .unk, .unk, .unk, .unk, .unk, .unk, .unk, .unk, .unk, .unk, .unk, .unk, .unk, .unk, .unk, .unk, .unk, .unk, .unk, .unk, .unk, .unk] H = f26 t0 H K := by kernel_rfl
theorem f26_ok {t0 : AV} {H : Heap} {K : AV → Heap → Prop} (h : HSc H → f26 t0 H K) : ACalls Try.prog 26 [t0] H K :=
  acalls_body (M := f26_M) Try.func26 (c := f26_c) (by kernel_rfl) (fun hs => (f26_eq t0 H K).mpr (h hs))

/-! ### 27: amortcostlaw03.awake -/
def f27_M (_ : Nat) : List Bool := []
noncomputable def f27_c : Code := Try.f27.body.getD .skip
noncomputable def f27_r : List ResultVar := Try.f27.results.toList
def f27 (H : Heap) (K : AV → Heap → Prop) : Prop :=
  ACalls Try.prog 25 [(.str [97, 60, 61, 98])] H fun t5 H =>
  aExt t5 0 fun t6 =>
  aExt t5 1 fun t7 =>
  aExt t5 2 fun t8 =>
  aBin .eql false t8 (.int .i64 0) fun t10 =>
  aGuardJ t10 true H (fun K' => K' t6 H) fun t12 H =>
  aGuardJ t10 true H (fun K' => aLen 1 t12 (K' · H)) fun t13 H =>
  aGuardJ t10 true H (fun K' => aBin .eql false t13 (.int .i64 4) (K' · H)) fun t14 H =>
  aPick t10 t14 (.bool false) fun t15 =>
  aGuardJ t15 true H (fun K' => K' t6 H) fun t17 H =>
  aGuardJ t15 true H (fun K' => aIdxA 3 t17 (.int .i64 1) (K' · H)) fun t18 H =>
  aGuardJ t15 true H (fun K' => aFld 0 t18 (K' · H)) fun t19 H =>
  aGuardJ t15 true H (fun K' => aLoad false 1 t19 H (K' · H)) fun t20 H =>
  aGuardJ t15 true H (fun K' => aBin .eql false t20 (.int .i64 5) (K' · H)) fun t21 H =>
  aPick t15 t21 (.bool false) fun t22 =>
  aGuardJ t22 true H (fun K' => K' t6 H) fun t24 H =>
  aGuardJ t22 true H (fun K' => aIdxA 3 t24 (.int .i64 1) (K' · H)) fun t25 H =>
  aGuardJ t22 true H (fun K' => aFld 1 t25 (K' · H)) fun t26 H =>
  aGuardJ t22 true H (fun K' => aLoad false 1 t26 H (K' · H)) fun t27 H =>
  aGuardJ t22 true H (fun K' => aBin .eql false t27 (.str [60, 61]) (K' · H)) fun t28 H =>
  aPick t22 t28 (.bool false) fun t29 =>
  aGuardJ t29 true H (fun K' => K' t6 H) fun t31 H =>
  aGuardJ t29 true H (fun K' => aIdxA 3 t31 (.int .i64 3) (K' · H)) fun t32 H =>
  aGuardJ t29 true H (fun K' => aFld 0 t32 (K' · H)) fun t33 H =>
  aGuardJ t29 true H (fun K' => aLoad false 1 t33 H (K' · H)) fun t34 H =>
  aGuardJ t29 true H (fun K' => aBin .eql false t34 (.int .i64 6) (K' · H)) fun t35 H =>
  aPick t29 t35 (.bool false) fun t36 =>
  K t36 H
theorem f27_eq (H : Heap) (K : AV → Heap → Prop) : awp Try.prog f27_M f27_c (retQ Try.prog f27_r K) [.unk, .unk, .unk, .unk, .unk, .unk, .unk, .unk, .unk, .unk, .unk, .unk, .unk, .unk, .unk, .unk, .unk, .unk, .unk, .unk, .unk, .unk, .unk, .unk, .unk, .unk, .unk, .unk, .unk, .unk, .unk, .unk, .unk, .unk, .unk, .unk, .unk] H = f27 H K := by kernel_rfl
theorem f27_ok {H : Heap} {K : AV → Heap → Prop} (h : HSc H → f27 H K) : ACalls Try.prog 27 [] H K :=
  acalls_body (M := f27_M) Try.func27 (c := f27_c) (by kernel_rfl) (fun hs => (f27_eq H K).mpr (h hs))

/-! ### 28: amortcostlaw03.joined -/
def f28_M : Nat → List Bool
  | 3 => [false, true, false, false, false, true, false, false, true, true, true, false, false, false, false, false, false, false, false, false, false, false]
  | _ => []
noncomputable def f28_c : Code := Try.f28.body.getD .skip
noncomputable def f28_r : List ResultVar := Try.f28.results.toList
def f28_fr3 (t1 : AV) (t5 : AV) (t8 : AV) (t9 : AV) (t10 : AV) : List AV := [.unk, t1, .unk, .unk, .unk, t5, .unk, .unk, t8, t9, t10, .unk, .unk, .unk, .unk, .unk, .unk, .unk, .unk, .unk, .unk, .unk]
def f28_m3 : List Bool := f28_M 3
noncomputable def f28_c3 : Code := codeAt [1, 1, 0, 1, 0, 0] f28_c
def f28_Q3 (K : AV → Heap → Prop) : AExit → List AV → Heap → Prop := contAt Try.prog f28_M [1, 1, 0, 1, 0] f28_c (retQ Try.prog f28_r K)
def f28_l3 (t1 : AV) (t5 : AV) (t8 : AV) (t9 : AV) (t10 : AV) (H : Heap) (K : AV → Heap → Prop) : Prop := ALoop Try.prog f28_c3 (f28_Q3 K) (f28_fr3 t1 t5 t8 t9 t10) H
def f28_b3 (t1 : AV) (t5 : AV) (t8 : AV) (t9 : AV) (t10 : AV) (H : Heap) (K : AV → Heap → Prop) (Kb3 : List AV → Heap → Prop) : Prop :=
  aBin .lss false t10 t9 fun t11 =>
  aTest t11
  (aIdxA 3 t8 t10 fun t12 =>
  aLoad true 3 t12 H fun t13 =>
  aNew [(.int .i64 0), (.str []), (.int .i64 0)] H fun t7 H =>
  aStore 3 t7 t13 H fun H =>
  aFld 1 t7 fun t15 =>
  aLoad false 1 t15 H fun t16 =>
  aBin .add false t16 t1 fun t18 =>
  aBin .add false t5 t18 fun t19 =>
  aBin .add false t10 (.int .i64 1) fun t20 =>
  Kb3 (f28_fr3 t1 t19 t8 t9 t20) H)
  (K t5 H)
def f28 (t0 : AV) (t1 : AV) (H : Heap) (K : AV → Heap → Prop) : Prop :=
  aLen 1 t0 fun t9 =>
  f28_l3 t1 (.str []) t0 t9 (.int .i64 0) H K
theorem f28_b3_eq (t1 : AV) (t5 : AV) (t8 : AV) (t9 : AV) (t10 : AV) (H : Heap) (K : AV → Heap → Prop) (Kb3 : List AV → Heap → Prop) : awp Try.prog f28_M f28_c3 (roundQ f28_m3 Kb3 (f28_Q3 K)) (f28_fr3 t1 t5 t8 t9 t10) H = f28_b3 t1 t5 t8 t9 t10 H K Kb3 := by kernel_rfl
theorem f28_loop3 {t1 : AV} {t5 : AV} {t8 : AV} {t9 : AV} {t10 : AV} {H : Heap} {K : AV → Heap → Prop} (Inv : Nat → AV → AV → Heap → Prop) (n : Nat) (h0 : HSc H → Inv n t5 t10 H)
    (round : ∀ n t5 t10 H', Inv n t5 t10 H' → HSc H' → H.length ≤ H'.length → (f28_fr3 t1 t5 t8 t9 t10).all (AV.sc H'.length) = true → ∀ Kb3 : List AV → Heap → Prop, (∀ F'' H'', (∃ n', n' < n ∧ Back H.length (fun F2 H2 => ∃ t5 t10, F2 = f28_fr3 t1 t5 t8 t9 t10 ∧ Inv n' t5 t10 H2) F'' H'') → Kb3 F'' H'') → f28_b3 t1 t5 t8 t9 t10 H' K Kb3) : f28_l3 t1 t5 t8 t9 t10 H K :=
  aloop (M := f28_M) f28_m3 (fun n F H => ∃ t5 t10, F = f28_fr3 t1 t5 t8 t9 t10 ∧ Inv n t5 t10 H) n (fun hs _ => ⟨t5, t10, rfl, h0 hs⟩) (fun n F H' ⟨t5, t10, hF, hI⟩ h1 h2 h3 => by subst hF; rw [f28_b3_eq]; exact round n t5 t10 H' hI h1 h2 h3 _ (fun _ _ h => h))
theorem f28_eq (t0 : AV) (t1 : AV) (H : Heap) (K : AV → Heap → Prop) : awp Try.prog f28_M f28_c (retQ Try.prog f28_r K) [t0, t1, .unk, .unk, .unk, .unk, .unk, .unk, .unk, .unk, .unk, .unk, .unk, .unk, .unk, .unk, .unk, .unk, .unk, .unk, .unk, .unk] H = f28 t0 t1 H K := by kernel_rfl
theorem f28_ok {t0 : AV} {t1 : AV} {H : Heap} {K : AV → Heap → Prop} (h : HSc H → f28 t0 t1 H K) : ACalls Try.prog 28 [t0, t1] H K :=
  acalls_body (M := f28_M) Try.func28 (c := f28_c) (by kernel_rfl) (fun hs => (f28_eq t0 t1 H K).mpr (h hs))

/-! ### 41: token.blank -/
def f41_M (_ : Nat) : List Bool := []
noncomputable def f41_c : Code := Try.f41.body.getD .skip
noncomputable def f41_r : List ResultVar := Try.f41.results.toList
def f41 (t0 : AV) (H : Heap) (K : AV → Heap → Prop) : Prop :=
  aBin .eql false t0 (.int .u8 9) fun t4 =>
  aGuardJ t4 false H (fun K' => K' t0 H) fun t6 H =>
  aGuardJ t4 false H (fun K' => aBin .eql false t6 (.int .u8 10) (K' · H)) fun t7 H =>
  aPick t4 (.bool true) t7 fun t8 =>
  aGuardJ t8 false H (fun K' => K' t0 H) fun t10 H =>
  aGuardJ t8 false H (fun K' => aBin .eql false t10 (.int .u8 13) (K' · H)) fun t11 H =>
  aPick t8 (.bool true) t11 fun t12 =>
  aGuardJ t12 false H (fun K' => K' t0 H) fun t14 H =>
  aGuardJ t12 false H (fun K' => aBin .eql false t14 (.int .u8 32) (K' · H)) fun t15 H =>
  aPick t12 (.bool true) t15 fun t16 =>
  K t16 H
theorem f41_eq (t0 : AV) (H : Heap) (K : AV → Heap → Prop) : awp Try.prog f41_M f41_c (retQ Try.prog f41_r K) [t0, .unk, .unk, .unk, .unk, .unk, .unk, .unk, .unk, .unk, .unk, .unk, .unk, .unk, .unk, .unk, .unk] H = f41 t0 H K := by kernel_rfl
theorem f41_ok {t0 : AV} {H : Heap} {K : AV → Heap → Prop} (h : HSc H → f41 t0 H K) : ACalls Try.prog 41 [t0] H K :=
  acalls_body (M := f41_M) Try.func41 (c := f41_c) (by kernel_rfl) (fun hs => (f41_eq t0 H K).mpr (h hs))

/-! ### 42: token.scan -/
def f42_M (_ : Nat) : List Bool := []
noncomputable def f42_c : Code := Try.f42.body.getD .skip
noncomputable def f42_r : List ResultVar := Try.f42.results.toList
def f42_j3 (t4 : AV) (t6 : AV) (H : Heap) (K : AV → Heap → Prop) : Prop :=
  aLoad true 3 t6 H fun t74 =>
  aStore 3 t4 t74 H fun H =>
  aLoad true 3 t4 H fun r0 =>
  aRet [r0, (.int .i64 0)] (K · H)
def f42_j2 (t4 : AV) (t6 : AV) (H : Heap) (K : AV → Heap → Prop) : Prop :=
  f42_j3 t4 t6 H K
def f42_j1 (t4 : AV) (t6 : AV) (H : Heap) (K : AV → Heap → Prop) : Prop :=
  f42_j2 t4 t6 H K
def f42 (t0 : AV) (t1 : AV) (H : Heap) (K : AV → Heap → Prop) : Prop :=
  aNew [(.int .i64 0), (.str []), (.int .i64 0)] H fun t4 H =>
  aBuild [(.int .i64 0), (.str []), (.int .i64 0)] [(0, 1), (1, 1), (2, 1)] [(2, t1)] fun t9 =>
  aNew [(.int .i64 0), (.str []), (.int .i64 0)] H fun t6 H =>
  aStore 3 t6 t9 H fun H =>
  aIdxS t0 t1 fun t12 =>
  ACalls Try.prog 50 [t12] H fun t25 H =>
  aGuardJ t25 false H (fun K' => K' t12 H) fun t27 H =>
  aGuardJ t25 false H (fun K' => ACalls Try.prog 51 [t27] H K') fun t28 H =>
  aPick t25 (.bool true) t28 fun t29 =>
  aTest t29
  (aSlice 0 0 t0 (some t1) none fun t32 =>
  ACalls Try.prog 52 [t32, (.fn 53 [])] H fun t33 H =>
  aFld 1 t6 fun t34 =>
  aStore 1 t34 t33 H fun H =>
  aFld 1 t6 fun t37 =>
  aLoad false 1 t37 H fun t38 =>
  aLen 0 t38 fun t39 =>
  aBin .gtr false t39 (.int .i64 24) fun t40 =>
  aTest t40
  (aBuild [(.int .i64 0), (.str []), (.int .i64 0)] [(0, 1), (1, 1), (2, 1)] [] fun t41 =>
  aStore 3 t4 t41 H fun H =>
  aLoad true 3 t4 H fun r0 =>
  aRet [r0, (.int .i64 9)] (K · H))
  (ACalls Try.prog 51 [t12] H fun t44 H =>
  aTest t44
  (aFld 0 t6 fun t45 =>
  aStore 1 t45 (.int .i64 2) H fun H =>
  f42_j1 t4 t6 H K)
  (aFld 1 t6 fun t47 =>
  aLoad false 1 t47 H fun t48 =>
  ACalls Try.prog 11 [t48] H fun t49 H =>
  aTest t49
  (aFld 0 t6 fun t50 =>
  aStore 1 t50 (.int .i64 4) H fun H =>
  f42_j1 t4 t6 H K)
  (aFld 0 t6 fun t35 =>
  aStore 1 t35 (.int .i64 1) H fun H =>
  f42_j1 t4 t6 H K))))
  (ACalls Try.prog 54 [t12] H fun t53 H =>
  aTest t53
  (aFld 0 t6 fun t54 =>
  aStore 1 t54 (.int .i64 3) H fun H =>
  aSlice 0 0 t0 (some t1) none fun t57 =>
  ACalls Try.prog 52 [t57, (.fn 54 [])] H fun t58 H =>
  aFld 1 t6 fun t59 =>
  aStore 1 t59 t58 H fun H =>
  aBin .eql false t12 (.int .u8 48) fun t61 =>
  aGuardJ t61 true H (fun K' => aFld 1 t6 (K' · H)) fun t63 H =>
  aGuardJ t61 true H (fun K' => aLoad false 1 t63 H (K' · H)) fun t64 H =>
  aGuardJ t61 true H (fun K' => aLen 0 t64 (K' · H)) fun t65 H =>
  aGuardJ t61 true H (fun K' => aBin .gtr false t65 (.int .i64 1) (K' · H)) fun t66 H =>
  aPick t61 t66 (.bool false) fun t67 =>
  aTest t67
  (aBuild [(.int .i64 0), (.str []), (.int .i64 0)] [(0, 1), (1, 1), (2, 1)] [] fun t68 =>
  aStore 3 t4 t68 H fun H =>
  aLoad true 3 t4 H fun r0 =>
  aRet [r0, (.int .i64 2)] (K · H))
  (aFld 1 t6 fun t69 =>
  aLoad false 1 t69 H fun t70 =>
  ACalls Try.prog 55 [t70] H fun t71 H =>
  aUn .not t71 fun t72 =>
  aTest t72
  (aBuild [(.int .i64 0), (.str []), (.int .i64 0)] [(0, 1), (1, 1), (2, 1)] [] fun t73 =>
  aStore 3 t4 t73 H fun H =>
  aLoad true 3 t4 H fun r0 =>
  aRet [r0, (.int .i64 9)] (K · H))
  (f42_j2 t4 t6 H K)))
  (aFld 0 t6 fun t13 =>
  aStore 1 t13 (.int .i64 5) H fun H =>
  aSlice 0 0 t0 (some t1) none fun t16 =>
  ACalls Try.prog 56 [t16] H fun t17 H =>
  aFld 1 t6 fun t18 =>
  aStore 1 t18 t17 H fun H =>
  aFld 1 t6 fun t19 =>
  aLoad false 1 t19 H fun t20 =>
  aBin .eql false t20 (.str []) fun t21 =>
  aTest t21
  (aBuild [(.int .i64 0), (.str []), (.int .i64 0)] [(0, 1), (1, 1), (2, 1)] [] fun t22 =>
  aStore 3 t4 t22 H fun H =>
  aLoad true 3 t4 H fun r0 =>
  aRet [r0, (.int .i64 2)] (K · H))
  (f42_j2 t4 t6 H K)))
theorem f42_eq (t0 : AV) (t1 : AV) (H : Heap) (K : AV → Heap → Prop) : awp Try.prog f42_M f42_c (retQ Try.prog f42_r K) [t0, t1, .unk, .unk, .unk, .unk, .unk, .unk, .unk, .unk, .unk, .unk, .unk, .unk, .unk, .unk, .unk, .unk, .unk, .unk, .unk, .unk, .unk, .unk, .unk, .unk, .unk, .unk, .unk, .unk, .unk, .unk, .unk, .unk, .unk, .unk, .unk, .unk, .unk, .unk, .unk, .unk, .unk, .unk, .unk, .unk, .unk, .unk, .unk, .unk, .unk, .unk, .unk, .unk, .unk, .unk, .unk, .unk, .unk, .unk, .unk, .unk, .unk, .unk, .unk, .unk, .unk, .unk, .unk, .unk, .unk, .unk, .unk, .unk, .unk] H = f42 t0 t1 H K := by kernel_rfl
theorem f42_ok {t0 : AV} {t1 : AV} {H : Heap} {K : AV → Heap → Prop} (h : HSc H → f42 t0 t1 H K) : ACalls Try.prog 42 [t0, t1] H K :=
  acalls_body (M := f42_M) Try.func42 (c := f42_c) (by kernel_rfl) (fun hs => (f42_eq t0 t1 H K).mpr (h hs))

/-! ### 43: amortcostref3.lower -/
def f43_M (_ : Nat) : List Bool := []
noncomputable def f43_c : Code := Try.f43.body.getD .skip
noncomputable def f43_r : List ResultVar := Try.f43.results.toList
def f43 (t0 : AV) (H : Heap) (K : AV → Heap → Prop) : Prop :=
  aBin .geq false t0 (.int .u8 97) fun t4 =>
  aGuardJ t4 true H (fun K' => K' t0 H) fun t6 H =>
  aGuardJ t4 true H (fun K' => aBin .leq false t6 (.int .u8 122) (K' · H)) fun t7 H =>
  aPick t4 t7 (.bool false) fun t8 =>
  K t8 H
theorem f43_eq (t0 : AV) (H : Heap) (K : AV → Heap → Prop) : awp Try.prog f43_M f43_c (retQ Try.prog f43_r K) [t0, .unk, .unk, .unk, .unk, .unk, .unk, .unk, .unk] H = f43 t0 H K := by kernel_rfl
theorem f43_ok {t0 : AV} {H : Heap} {K : AV → Heap → Prop} (h : HSc H → f43 t0 H K) : ACalls Try.prog 43 [t0] H K :=
  acalls_body (M := f43_M) Try.func43 (c := f43_c) (by kernel_rfl) (fun hs => (f43_eq t0 H K).mpr (h hs))

/-! ### 44: amortcostref3.upper -/
def f44_M (_ : Nat) : List Bool := []
noncomputable def f44_c : Code := Try.f44.body.getD .skip
noncomputable def f44_r : List ResultVar := Try.f44.results.toList
def f44 (t0 : AV) (H : Heap) (K : AV → Heap → Prop) : Prop :=
  aBin .geq false t0 (.int .u8 65) fun t4 =>
  aGuardJ t4 true H (fun K' => K' t0 H) fun t6 H =>
  aGuardJ t4 true H (fun K' => aBin .leq false t6 (.int .u8 90) (K' · H)) fun t7 H =>
  aPick t4 t7 (.bool false) fun t8 =>
  K t8 H
theorem f44_eq (t0 : AV) (H : Heap) (K : AV → Heap → Prop) : awp Try.prog f44_M f44_c (retQ Try.prog f44_r K) [t0, .unk, .unk, .unk, .unk, .unk, .unk, .unk, .unk] H = f44 t0 H K := by kernel_rfl
theorem f44_ok {t0 : AV} {H : Heap} {K : AV → Heap → Prop} (h : HSc H → f44 t0 H K) : ACalls Try.prog 44 [t0] H K :=
  acalls_body (M := f44_M) Try.func44 (c := f44_c) (by kernel_rfl) (fun hs => (f44_eq t0 H K).mpr (h hs))

/-! ### 45: amortcostref3.digit -/
def f45_M (_ : Nat) : List Bool := []
noncomputable def f45_c : Code := Try.f45.body.getD .skip
noncomputable def f45_r : List ResultVar := Try.f45.results.toList
def f45 (t0 : AV) (H : Heap) (K : AV → Heap → Prop) : Prop :=
  aBin .geq false t0 (.int .u8 48) fun t4 =>
  aGuardJ t4 true H (fun K' => K' t0 H) fun t6 H =>
  aGuardJ t4 true H (fun K' => aBin .leq false t6 (.int .u8 57) (K' · H)) fun t7 H =>
  aPick t4 t7 (.bool false) fun t8 =>
  K t8 H
theorem f45_eq (t0 : AV) (H : Heap) (K : AV → Heap → Prop) : awp Try.prog f45_M f45_c (retQ Try.prog f45_r K) [t0, .unk, .unk, .unk, .unk, .unk, .unk, .unk, .unk] H = f45 t0 H K := by kernel_rfl
theorem f45_ok {t0 : AV} {H : Heap} {K : AV → Heap → Prop} (h : HSc H → f45 t0 H K) : ACalls Try.prog 45 [t0] H K :=
  acalls_body (M := f45_M) Try.func45 (c := f45_c) (by kernel_rfl) (fun hs => (f45_eq t0 H K).mpr (h hs))

/-! ### 46: amortcostref3.Value -/
def f46_M : Nat → List Bool
  | 3 => [true, false, false, false, true, true, false, false, false, false, false, false, false, false, false, false, false, false, false, false, false, false, false]
  | _ => []
noncomputable def f46_c : Code := Try.f46.body.getD .skip
noncomputable def f46_r : List ResultVar := Try.f46.results.toList
def f46_fr3 (t0 : AV) (t4 : AV) (t5 : AV) : List AV := [t0, .unk, .unk, .unk, t4, t5, .unk, .unk, .unk, .unk, .unk, .unk, .unk, .unk, .unk, .unk, .unk, .unk, .unk, .unk, .unk, .unk, .unk]
def f46_m3 : List Bool := f46_M 3
noncomputable def f46_c3 : Code := codeAt [1, 1, 0, 1, 0, 0] f46_c
def f46_Q3 (K : AV → Heap → Prop) : AExit → List AV → Heap → Prop := contAt Try.prog f46_M [1, 1, 0, 1, 0] f46_c (retQ Try.prog f46_r K)
def f46_l3 (t0 : AV) (t4 : AV) (t5 : AV) (H : Heap) (K : AV → Heap → Prop) : Prop := ALoop Try.prog f46_c3 (f46_Q3 K) (f46_fr3 t0 t4 t5) H
def f46_b3 (t0 : AV) (t4 : AV) (t5 : AV) (H : Heap) (K : AV → Heap → Prop) (Kb3 : List AV → Heap → Prop) : Prop :=
  aLen 0 t0 fun t8 =>
  aBin .lss false t5 t8 fun t9 =>
  aTest t9
  (aBin .mul false t4 (.int .i64 10) fun t13 =>
  aIdxS t0 t5 fun t16 =>
  aBin .sub false t16 (.int .u8 48) fun t17 =>
  aConv .i64 t17 fun t18 =>
  aBin .add false t13 t18 fun t19 =>
  aBin .gtr false t19 (.int .i64 1000000) fun t21 =>
  aTest t21
  (aRet [(.int .i64 0), (.bool false)] (K · H))
  (aBin .add false t5 (.int .i64 1) fun t11 =>
  Kb3 (f46_fr3 t0 t19 t11) H))
  (aRet [t4, (.bool true)] (K · H))
def f46 (t0 : AV) (H : Heap) (K : AV → Heap → Prop) : Prop :=
  f46_l3 t0 (.int .i64 0) (.int .i64 0) H K
theorem f46_b3_eq (t0 : AV) (t4 : AV) (t5 : AV) (H : Heap) (K : AV → Heap → Prop) (Kb3 : List AV → Heap → Prop) : awp Try.prog f46_M f46_c3 (roundQ f46_m3 Kb3 (f46_Q3 K)) (f46_fr3 t0 t4 t5) H = f46_b3 t0 t4 t5 H K Kb3 := by kernel_rfl
theorem f46_loop3 {t0 : AV} {t4 : AV} {t5 : AV} {H : Heap} {K : AV → Heap → Prop} (Inv : Nat → AV → AV → Heap → Prop) (n : Nat) (h0 : HSc H → Inv n t4 t5 H)
    (round : ∀ n t4 t5 H', Inv n t4 t5 H' → HSc H' → H.length ≤ H'.length → (f46_fr3 t0 t4 t5).all (AV.sc H'.length) = true → ∀ Kb3 : List AV → Heap → Prop, (∀ F'' H'', (∃ n', n' < n ∧ Back H.length (fun F2 H2 => ∃ t4 t5, F2 = f46_fr3 t0 t4 t5 ∧ Inv n' t4 t5 H2) F'' H'') → Kb3 F'' H'') → f46_b3 t0 t4 t5 H' K Kb3) : f46_l3 t0 t4 t5 H K :=
  aloop (M := f46_M) f46_m3 (fun n F H => ∃ t4 t5, F = f46_fr3 t0 t4 t5 ∧ Inv n t4 t5 H) n (fun hs _ => ⟨t4, t5, rfl, h0 hs⟩) (fun n F H' ⟨t4, t5, hF, hI⟩ h1 h2 h3 => by subst hF; rw [f46_b3_eq]; exact round n t4 t5 H' hI h1 h2 h3 _ (fun _ _ h => h))
theorem f46_eq (t0 : AV) (H : Heap) (K : AV → Heap → Prop) : awp Try.prog f46_M f46_c (retQ Try.prog f46_r K) [t0, .unk, .unk, .unk, .unk, .unk, .unk, .unk, .unk, .unk, .unk, .unk, .unk, .unk, .unk, .unk, .unk, .unk, .unk, .unk, .unk, .unk, .unk] H = f46 t0 H K := by kernel_rfl
theorem f46_ok {t0 : AV} {H : Heap} {K : AV → Heap → Prop} (h : HSc H → f46 t0 H K) : ACalls Try.prog 46 [t0] H K :=
  acalls_body (M := f46_M) Try.func46 (c := f46_c) (by kernel_rfl) (fun hs => (f46_eq t0 H K).mpr (h hs))

/-! ### 47: amortcostref3.sign -/
def f47_M : Nat → List Bool
  | 5 => [true, false, false, true, true, false, false, false, false, false, false, false, false, false, false, false, false, false, false, false, false, false, false, false, false, false, false, false, false, false, false, false, false, false, false]
  | _ => []
noncomputable def f47_c : Code := Try.f47.body.getD .skip
noncomputable def f47_r : List ResultVar := Try.f47.results.toList
def f47_fr5 (t0 : AV) (t3 : AV) (t4 : AV) : List AV := [t0, .unk, .unk, t3, t4, .unk, .unk, .unk, .unk, .unk, .unk, .unk, .unk, .unk, .unk, .unk, .unk, .unk, .unk, .unk, .unk, .unk, .unk, .unk, .unk, .unk, .unk, .unk, .unk, .unk, .unk, .unk, .unk, .unk, .unk]
def f47_m5 : List Bool := f47_M 5
noncomputable def f47_c5 : Code := codeAt [1, 1, 1, 0, 1, 0, 0] f47_c
def f47_Q5 (K : AV → Heap → Prop) : AExit → List AV → Heap → Prop := contAt Try.prog f47_M [1, 1, 1, 0, 1, 0] f47_c (retQ Try.prog f47_r K)
def f47_l5 (t0 : AV) (t3 : AV) (t4 : AV) (H : Heap) (K : AV → Heap → Prop) : Prop := ALoop Try.prog f47_c5 (f47_Q5 K) (f47_fr5 t0 t3 t4) H
def f47_b5 (t0 : AV) (t3 : AV) (t4 : AV) (H : Heap) (K : AV → Heap → Prop) (Kb5 : List AV → Heap → Prop) : Prop :=
  aLen 0 t3 fun t25 =>
  aBin .lss false t4 t25 fun t26 =>
  aTest t26
  (aPure H (fun K' => K' t0 H) fun t29 =>
  aPure H (fun K' => aIdxS t29 (.int .i64 0) (K' · H)) fun t30 =>
  aPure H (fun K' => K' t3 H) fun t31 =>
  aPure H (fun K' => K' t4 H) fun t32 =>
  aPure H (fun K' => aIdxS t31 t32 (K' · H)) fun t33 =>
  aPure H (fun K' => aBin .eql false t30 t33 (K' · H)) fun t34 =>
  aTest t34
  (K (.int .i64 1) H)
  (aBin .add false t4 (.int .i64 1) fun t28 =>
  Kb5 (f47_fr5 t0 t3 t28) H))
  (K (.int .i64 0) H)
def f47 (t0 : AV) (H : Heap) (K : AV → Heap → Prop) : Prop :=
  aLen 0 t0 fun t6 =>
  aBin .geq false t6 (.int .i64 2) fun t7 =>
  aGuardJ t7 true H (fun K' => K' t0 H) fun t9 H =>
  aGuardJ t7 true H (fun K' => aSlice 0 0 t9 none (some (.int .i64 2)) (K' · H)) fun t10 H =>
  aGuardJ t7 true H (fun K' => aBin .eql false t10 (.str [45, 62]) (K' · H)) fun t11 H =>
  aGuardJ t7 true H (fun K' => K' t11 H) fun t12 H =>
  aGuardJ t12 false H (fun K' => K' t0 H) fun t13 H =>
  aGuardJ t12 false H (fun K' => aSlice 0 0 t13 none (some (.int .i64 2)) (K' · H)) fun t14 H =>
  aGuardJ t12 false H (fun K' => aBin .eql false t14 (.str [60, 61]) (K' · H)) fun t15 H =>
  aGuardJ t7 true H (fun K' => aPick t12 (.bool true) t15 (K' · H)) fun t16 H =>
  aGuardJ t7 true H (fun K' => K' t16 H) fun t17 H =>
  aGuardJ t17 false H (fun K' => K' t0 H) fun t18 H =>
  aGuardJ t17 false H (fun K' => aSlice 0 0 t18 none (some (.int .i64 2)) (K' · H)) fun t19 H =>
  aGuardJ t17 false H (fun K' => aBin .eql false t19 (.str [61, 61]) (K' · H)) fun t20 H =>
  aGuardJ t7 true H (fun K' => aPick t17 (.bool true) t20 (K' · H)) fun t21 H =>
  aPick t7 t21 (.bool false) fun t22 =>
  aTest t22
  (K (.int .i64 2) H)
  (f47_l5 t0 (.str [40, 41, 44, 61, 124, 43, 45, 42, 47, 37, 60, 59, 95]) (.int .i64 0) H K)
theorem f47_b5_eq (t0 : AV) (t3 : AV) (t4 : AV) (H : Heap) (K : AV → Heap → Prop) (Kb5 : List AV → Heap → Prop) : awp Try.prog f47_M f47_c5 (roundQ f47_m5 Kb5 (f47_Q5 K)) (f47_fr5 t0 t3 t4) H = f47_b5 t0 t3 t4 H K Kb5 := by kernel_rfl
theorem f47_loop5 {t0 : AV} {t3 : AV} {t4 : AV} {H : Heap} {K : AV → Heap → Prop} (Inv : Nat → AV → Heap → Prop) (n : Nat) (h0 : HSc H → Inv n t4 H)
    (round : ∀ n t4 H', Inv n t4 H' → HSc H' → H.length ≤ H'.length → (f47_fr5 t0 t3 t4).all (AV.sc H'.length) = true → ∀ Kb5 : List AV → Heap → Prop, (∀ F'' H'', (∃ n', n' < n ∧ Back H.length (fun F2 H2 => ∃ t4, F2 = f47_fr5 t0 t3 t4 ∧ Inv n' t4 H2) F'' H'') → Kb5 F'' H'') → f47_b5 t0 t3 t4 H' K Kb5) : f47_l5 t0 t3 t4 H K :=
  aloop (M := f47_M) f47_m5 (fun n F H => ∃ t4, F = f47_fr5 t0 t3 t4 ∧ Inv n t4 H) n (fun hs _ => ⟨t4, rfl, h0 hs⟩) (fun n F H' ⟨t4, hF, hI⟩ h1 h2 h3 => by subst hF; rw [f47_b5_eq]; exact round n t4 H' hI h1 h2 h3 _ (fun _ _ h => h))
theorem f47_eq (t0 : AV) (H : Heap) (K : AV → Heap → Prop) : awp Try.prog f47_M f47_c (retQ Try.prog f47_r K) [t0, .unk, .unk, .unk, .unk, .unk, .unk, .unk, .unk, .unk, .unk, .unk, .unk, .unk, .unk, .unk, .unk, .unk, .unk, .unk, .unk, .unk, .unk, .unk, .unk, .unk, .unk, .unk, .unk, .unk, .unk, .unk, .unk, .unk, .unk] H = f47 t0 H K := by kernel_rfl
theorem f47_ok {t0 : AV} {H : Heap} {K : AV → Heap → Prop} (h : HSc H → f47 t0 H K) : ACalls Try.prog 47 [t0] H K :=
  acalls_body (M := f47_M) Try.func47 (c := f47_c) (by kernel_rfl) (fun hs => (f47_eq t0 H K).mpr (h hs))

/-! ### 50: token.lower -/
def f50_M (_ : Nat) : List Bool := []
noncomputable def f50_c : Code := Try.f50.body.getD .skip
noncomputable def f50_r : List ResultVar := Try.f50.results.toList
def f50 (t0 : AV) (H : Heap) (K : AV → Heap → Prop) : Prop :=
  aBin .geq false t0 (.int .u8 97) fun t4 =>
  aGuardJ t4 true H (fun K' => K' t0 H) fun t6 H =>
  aGuardJ t4 true H (fun K' => aBin .leq false t6 (.int .u8 122) (K' · H)) fun t7 H =>
  aPick t4 t7 (.bool false) fun t8 =>
  K t8 H
theorem f50_eq (t0 : AV) (H : Heap) (K : AV → Heap → Prop) : awp Try.prog f50_M f50_c (retQ Try.prog f50_r K) [t0, .unk, .unk, .unk, .unk, .unk, .unk, .unk, .unk] H = f50 t0 H K := by kernel_rfl
theorem f50_ok {t0 : AV} {H : Heap} {K : AV → Heap → Prop} (h : HSc H → f50 t0 H K) : ACalls Try.prog 50 [t0] H K :=
  acalls_body (M := f50_M) Try.func50 (c := f50_c) (by kernel_rfl) (fun hs => (f50_eq t0 H K).mpr (h hs))

/-! ### 51: token.upper -/
def f51_M (_ : Nat) : List Bool := []
noncomputable def f51_c : Code := Try.f51.body.getD .skip
noncomputable def f51_r : List ResultVar := Try.f51.results.toList
def f51 (t0 : AV) (H : Heap) (K : AV → Heap → Prop) : Prop :=
  aBin .geq false t0 (.int .u8 65) fun t4 =>
  aGuardJ t4 true H (fun K' => K' t0 H) fun t6 H =>
  aGuardJ t4 true H (fun K' => aBin .leq false t6 (.int .u8 90) (K' · H)) fun t7 H =>
  aPick t4 t7 (.bool false) fun t8 =>
  K t8 H
theorem f51_eq (t0 : AV) (H : Heap) (K : AV → Heap → Prop) : awp Try.prog f51_M f51_c (retQ Try.prog f51_r K) [t0, .unk, .unk, .unk, .unk, .unk, .unk, .unk, .unk] H = f51 t0 H K := by kernel_rfl
theorem f51_ok {t0 : AV} {H : Heap} {K : AV → Heap → Prop} (h : HSc H → f51 t0 H K) : ACalls Try.prog 51 [t0] H K :=
  acalls_body (M := f51_M) Try.func51 (c := f51_c) (by kernel_rfl) (fun hs => (f51_eq t0 H K).mpr (h hs))

/-! ### 52: token.prefix -/
def f52_M : Nat → List Bool
  | 2 => [true, true, false, false, false, true, false, false, false, false, false, false, false, false, false, false, false, false, false, false, false, false]
  | _ => []
noncomputable def f52_c : Code := Try.f52.body.getD .skip
noncomputable def f52_r : List ResultVar := Try.f52.results.toList
def f52_fr2 (t0 : AV) (t1 : AV) (t5 : AV) : List AV := [t0, t1, .unk, .unk, .unk, t5, .unk, .unk, .unk, .unk, .unk, .unk, .unk, .unk, .unk, .unk, .unk, .unk, .unk, .unk, .unk, .unk]
def f52_m2 : List Bool := f52_M 2
noncomputable def f52_c2 : Code := codeAt [1, 1, 0, 0, 0] f52_c
def f52_Q2 (K : AV → Heap → Prop) : AExit → List AV → Heap → Prop := contAt Try.prog f52_M [1, 1, 0, 0] f52_c (retQ Try.prog f52_r K)
def f52_l2 (t0 : AV) (t1 : AV) (t5 : AV) (H : Heap) (K : AV → Heap → Prop) : Prop := ALoop Try.prog f52_c2 (f52_Q2 K) (f52_fr2 t0 t1 t5) H
def f52_b2 (t0 : AV) (t1 : AV) (t5 : AV) (H : Heap) (K : AV → Heap → Prop) (Kb2 : List AV → Heap → Prop) : Prop :=
  aLen 0 t0 fun t8 =>
  aBin .lss false t5 t8 fun t9 =>
  aGuardJ t9 true H (fun K' => K' t1 H) fun t11 H =>
  aGuardJ t9 true H (fun K' => K' t0 H) fun t12 H =>
  aGuardJ t9 true H (fun K' => K' t5 H) fun t13 H =>
  aGuardJ t9 true H (fun K' => aIdxS t12 t13 (K' · H)) fun t14 H =>
  aGuardJ t9 true H (fun K' => aCallV Try.prog t11 [t14] H K') fun t15 H =>
  aPick t9 t15 (.bool false) fun t16 =>
  aTest t16
  (aBin .add false t5 (.int .i64 1) fun t18 =>
  Kb2 (f52_fr2 t0 t1 t18) H)
  (aSlice 0 0 t0 none (some t5) fun t21 =>
  K t21 H)
def f52 (t0 : AV) (t1 : AV) (H : Heap) (K : AV → Heap → Prop) : Prop :=
  f52_l2 t0 t1 (.int .i64 0) H K
theorem f52_b2_eq (t0 : AV) (t1 : AV) (t5 : AV) (H : Heap) (K : AV → Heap → Prop) (Kb2 : List AV → Heap → Prop) : awp Try.prog f52_M f52_c2 (roundQ f52_m2 Kb2 (f52_Q2 K)) (f52_fr2 t0 t1 t5) H = f52_b2 t0 t1 t5 H K Kb2 := by kernel_rfl
theorem f52_loop2 {t0 : AV} {t1 : AV} {t5 : AV} {H : Heap} {K : AV → Heap → Prop} (Inv : Nat → AV → Heap → Prop) (n : Nat) (h0 : HSc H → Inv n t5 H)
    (round : ∀ n t5 H', Inv n t5 H' → HSc H' → H.length ≤ H'.length → (f52_fr2 t0 t1 t5).all (AV.sc H'.length) = true → ∀ Kb2 : List AV → Heap → Prop, (∀ F'' H'', (∃ n', n' < n ∧ Back H.length (fun F2 H2 => ∃ t5, F2 = f52_fr2 t0 t1 t5 ∧ Inv n' t5 H2) F'' H'') → Kb2 F'' H'') → f52_b2 t0 t1 t5 H' K Kb2) : f52_l2 t0 t1 t5 H K :=
  aloop (M := f52_M) f52_m2 (fun n F H => ∃ t5, F = f52_fr2 t0 t1 t5 ∧ Inv n t5 H) n (fun hs _ => ⟨t5, rfl, h0 hs⟩) (fun n F H' ⟨t5, hF, hI⟩ h1 h2 h3 => by subst hF; rw [f52_b2_eq]; exact round n t5 H' hI h1 h2 h3 _ (fun _ _ h => h))
theorem f52_eq (t0 : AV) (t1 : AV) (H : Heap) (K : AV → Heap → Prop) : awp Try.prog f52_M f52_c (retQ Try.prog f52_r K) [t0, t1, .unk, .unk, .unk, .unk, .unk, .unk, .unk, .unk, .unk, .unk, .unk, .unk, .unk, .unk, .unk, .unk, .unk, .unk, .unk, .unk] H = f52 t0 t1 H K := by kernel_rfl
theorem f52_ok {t0 : AV} {t1 : AV} {H : Heap} {K : AV → Heap → Prop} (h : HSc H → f52 t0 t1 H K) : ACalls Try.prog 52 [t0, t1] H K :=
  acalls_body (M := f52_M) Try.func52 (c := f52_c) (by kernel_rfl) (fun hs => (f52_eq t0 t1 H K).mpr (h hs))

/-! ### 53: token.within -/
def f53_M (_ : Nat) : List Bool := []
noncomputable def f53_c : Code := Try.f53.body.getD .skip
noncomputable def f53_r : List ResultVar := Try.f53.results.toList
def f53 (t0 : AV) (H : Heap) (K : AV → Heap → Prop) : Prop :=
  ACalls Try.prog 50 [t0] H fun t4 H =>
  aGuardJ t4 false H (fun K' => K' t0 H) fun t6 H =>
  aGuardJ t4 false H (fun K' => ACalls Try.prog 51 [t6] H K') fun t7 H =>
  aPick t4 (.bool true) t7 fun t8 =>
  aGuardJ t8 false H (fun K' => K' t0 H) fun t10 H =>
  aGuardJ t8 false H (fun K' => ACalls Try.prog 54 [t10] H K') fun t11 H =>
  aPick t8 (.bool true) t11 fun t12 =>
  aGuardJ t12 false H (fun K' => K' t0 H) fun t14 H =>
  aGuardJ t12 false H (fun K' => aBin .eql false t14 (.int .u8 95) (K' · H)) fun t15 H =>
  aPick t12 (.bool true) t15 fun t16 =>
  K t16 H
theorem f53_eq (t0 : AV) (H : Heap) (K : AV → Heap → Prop) : awp Try.prog f53_M f53_c (retQ Try.prog f53_r K) [t0, .unk, .unk, .unk, .unk, .unk, .unk, .unk, .unk, .unk, .unk, .unk, .unk, .unk, .unk, .unk, .unk] H = f53 t0 H K := by kernel_rfl
theorem f53_ok {t0 : AV} {H : Heap} {K : AV → Heap → Prop} (h : HSc H → f53 t0 H K) : ACalls Try.prog 53 [t0] H K :=
  acalls_body (M := f53_M) Try.func53 (c := f53_c) (by kernel_rfl) (fun hs => (f53_eq t0 H K).mpr (h hs))

/-! ### 54: token.digit -/
def f54_M (_ : Nat) : List Bool := []
noncomputable def f54_c : Code := Try.f54.body.getD .skip
noncomputable def f54_r : List ResultVar := Try.f54.results.toList
def f54 (t0 : AV) (H : Heap) (K : AV → Heap → Prop) : Prop :=
  aBin .geq false t0 (.int .u8 48) fun t4 =>
  aGuardJ t4 true H (fun K' => K' t0 H) fun t6 H =>
  aGuardJ t4 true H (fun K' => aBin .leq false t6 (.int .u8 57) (K' · H)) fun t7 H =>
  aPick t4 t7 (.bool false) fun t8 =>
  K t8 H
theorem f54_eq (t0 : AV) (H : Heap) (K : AV → Heap → Prop) : awp Try.prog f54_M f54_c (retQ Try.prog f54_r K) [t0, .unk, .unk, .unk, .unk, .unk, .unk, .unk, .unk] H = f54 t0 H K := by kernel_rfl
theorem f54_ok {t0 : AV} {H : Heap} {K : AV → Heap → Prop} (h : HSc H → f54 t0 H K) : ACalls Try.prog 54 [t0] H K :=
  acalls_body (M := f54_M) Try.func54 (c := f54_c) (by kernel_rfl) (fun hs => (f54_eq t0 H K).mpr (h hs))

/-! ### 55: token.small -/
def f55_M : Nat → List Bool
  | 3 => [true, false, false, true, false, false, true, true, false, false, false, false, false, false, false, false, false, false, false, false, false]
  | _ => []
noncomputable def f55_c : Code := Try.f55.body.getD .skip
noncomputable def f55_r : List ResultVar := Try.f55.results.toList
def f55_fr3 (t0 : AV) (t3 : AV) (t6 : AV) (t7 : AV) : List AV := [t0, .unk, .unk, t3, .unk, .unk, t6, t7, .unk, .unk, .unk, .unk, .unk, .unk, .unk, .unk, .unk, .unk, .unk, .unk, .unk]
def f55_m3 : List Bool := f55_M 3
noncomputable def f55_c3 : Code := codeAt [1, 1, 0, 1, 0, 0] f55_c
def f55_Q3 (K : AV → Heap → Prop) : AExit → List AV → Heap → Prop := contAt Try.prog f55_M [1, 1, 0, 1, 0] f55_c (retQ Try.prog f55_r K)
def f55_l3 (t0 : AV) (t3 : AV) (t6 : AV) (t7 : AV) (H : Heap) (K : AV → Heap → Prop) : Prop := ALoop Try.prog f55_c3 (f55_Q3 K) (f55_fr3 t0 t3 t6 t7) H
def f55_b3 (t0 : AV) (t3 : AV) (t6 : AV) (t7 : AV) (H : Heap) (K : AV → Heap → Prop) (Kb3 : List AV → Heap → Prop) : Prop :=
  aBin .lss false t7 t6 fun t8 =>
  aTest t8
  (aBin .mul false t3 (.int .i64 10) fun t11 =>
  aIdxS t0 t7 fun t14 =>
  aBin .sub false t14 (.int .u8 48) fun t15 =>
  aConv .i64 t15 fun t16 =>
  aBin .add false t11 t16 fun t17 =>
  aBin .gtr false t17 (.int .i64 1000000) fun t19 =>
  aTest t19
  (K (.bool false) H)
  (aBin .add false t7 (.int .i64 1) fun t20 =>
  Kb3 (f55_fr3 t0 t17 t6 t20) H))
  (K (.bool true) H)
def f55 (t0 : AV) (H : Heap) (K : AV → Heap → Prop) : Prop :=
  aLen 0 t0 fun t6 =>
  f55_l3 t0 (.int .i64 0) t6 (.int .i64 0) H K
theorem f55_b3_eq (t0 : AV) (t3 : AV) (t6 : AV) (t7 : AV) (H : Heap) (K : AV → Heap → Prop) (Kb3 : List AV → Heap → Prop) : awp Try.prog f55_M f55_c3 (roundQ f55_m3 Kb3 (f55_Q3 K)) (f55_fr3 t0 t3 t6 t7) H = f55_b3 t0 t3 t6 t7 H K Kb3 := by kernel_rfl
theorem f55_loop3 {t0 : AV} {t3 : AV} {t6 : AV} {t7 : AV} {H : Heap} {K : AV → Heap → Prop} (Inv : Nat → AV → AV → Heap → Prop) (n : Nat) (h0 : HSc H → Inv n t3 t7 H)
    (round : ∀ n t3 t7 H', Inv n t3 t7 H' → HSc H' → H.length ≤ H'.length → (f55_fr3 t0 t3 t6 t7).all (AV.sc H'.length) = true → ∀ Kb3 : List AV → Heap → Prop, (∀ F'' H'', (∃ n', n' < n ∧ Back H.length (fun F2 H2 => ∃ t3 t7, F2 = f55_fr3 t0 t3 t6 t7 ∧ Inv n' t3 t7 H2) F'' H'') → Kb3 F'' H'') → f55_b3 t0 t3 t6 t7 H' K Kb3) : f55_l3 t0 t3 t6 t7 H K :=
  aloop (M := f55_M) f55_m3 (fun n F H => ∃ t3 t7, F = f55_fr3 t0 t3 t6 t7 ∧ Inv n t3 t7 H) n (fun hs _ => ⟨t3, t7, rfl, h0 hs⟩) (fun n F H' ⟨t3, t7, hF, hI⟩ h1 h2 h3 => by subst hF; rw [f55_b3_eq]; exact round n t3 t7 H' hI h1 h2 h3 _ (fun _ _ h => h))
theorem f55_eq (t0 : AV) (H : Heap) (K : AV → Heap → Prop) : awp Try.prog f55_M f55_c (retQ Try.prog f55_r K) [t0, .unk, .unk, .unk, .unk, .unk, .unk, .unk, .unk, .unk, .unk, .unk, .unk, .unk, .unk, .unk, .unk, .unk, .unk, .unk, .unk] H = f55 t0 H K := by kernel_rfl
theorem f55_ok {t0 : AV} {H : Heap} {K : AV → Heap → Prop} (h : HSc H → f55 t0 H K) : ACalls Try.prog 55 [t0] H K :=
  acalls_body (M := f55_M) Try.func55 (c := f55_c) (by kernel_rfl) (fun hs => (f55_eq t0 H K).mpr (h hs))

/-! ### 56: token.sign -/
def f56_M (_ : Nat) : List Bool := []
noncomputable def f56_c : Code := Try.f56.body.getD .skip
noncomputable def f56_r : List ResultVar := Try.f56.results.toList
def f56_j3 (t0 : AV) (t16 : AV) (H : Heap) (K : AV → Heap → Prop) : Prop :=
  aTest t16
  (aSlice 0 0 t0 none (some (.int .i64 1)) fun t31 =>
  K t31 H)
  (K (.str []) H)
def f56_j2 (t0 : AV) (H : Heap) (K : AV → Heap → Prop) : Prop :=
  aSlice 0 0 t0 none (some (.int .i64 1)) fun t15 =>
  aBin .eql false t15 (.str [40]) fun t17 =>
  aTest t17
  (f56_j3 t0 t17 H K)
  (aBin .eql false t15 (.str [41]) fun t18 =>
  aTest t18
  (f56_j3 t0 t18 H K)
  (aBin .eql false t15 (.str [44]) fun t19 =>
  aTest t19
  (f56_j3 t0 t19 H K)
  (aBin .eql false t15 (.str [61]) fun t20 =>
  aTest t20
  (f56_j3 t0 t20 H K)
  (aBin .eql false t15 (.str [124]) fun t21 =>
  aTest t21
  (f56_j3 t0 t21 H K)
  (aBin .eql false t15 (.str [43]) fun t22 =>
  aTest t22
  (f56_j3 t0 t22 H K)
  (aBin .eql false t15 (.str [45]) fun t23 =>
  aTest t23
  (f56_j3 t0 t23 H K)
  (aBin .eql false t15 (.str [42]) fun t24 =>
  aTest t24
  (f56_j3 t0 t24 H K)
  (aBin .eql false t15 (.str [47]) fun t25 =>
  aTest t25
  (f56_j3 t0 t25 H K)
  (aBin .eql false t15 (.str [37]) fun t26 =>
  aTest t26
  (f56_j3 t0 t26 H K)
  (aBin .eql false t15 (.str [60]) fun t27 =>
  aTest t27
  (f56_j3 t0 t27 H K)
  (aBin .eql false t15 (.str [59]) fun t28 =>
  aTest t28
  (f56_j3 t0 t28 H K)
  (aBin .eql false t15 (.str [95]) fun t29 =>
  f56_j3 t0 t29 H K))))))))))))
def f56_j1 (t0 : AV) (t8 : AV) (H : Heap) (K : AV → Heap → Prop) : Prop :=
  aTest t8
  (aSlice 0 0 t0 none (some (.int .i64 2)) fun t13 =>
  K t13 H)
  (f56_j2 t0 H K)
def f56 (t0 : AV) (H : Heap) (K : AV → Heap → Prop) : Prop :=
  aLen 0 t0 fun t4 =>
  aBin .geq false t4 (.int .i64 2) fun t5 =>
  aTest t5
  (aSlice 0 0 t0 none (some (.int .i64 2)) fun t7 =>
  aBin .eql false t7 (.str [45, 62]) fun t9 =>
  aTest t9
  (f56_j1 t0 t9 H K)
  (aBin .eql false t7 (.str [60, 61]) fun t10 =>
  aTest t10
  (f56_j1 t0 t10 H K)
  (aBin .eql false t7 (.str [61, 61]) fun t11 =>
  f56_j1 t0 t11 H K)))
  (f56_j2 t0 H K)
theorem f56_eq (t0 : AV) (H : Heap) (K : AV → Heap → Prop) : awp Try.prog f56_M f56_c (retQ Try.prog f56_r K) [t0, .unk, .unk, .unk, .unk, .unk, .unk, .unk, .unk, .unk, .unk, .unk, .unk, .unk, .unk, .unk, .unk, .unk, .unk, .unk, .unk, .unk, .unk, .unk, .unk, .unk, .unk, .unk, .unk, .unk, .unk, .unk] H = f56 t0 H K := by kernel_rfl
theorem f56_ok {t0 : AV} {H : Heap} {K : AV → Heap → Prop} (h : HSc H → f56 t0 H K) : ACalls Try.prog 56 [t0] H K :=
  acalls_body (M := f56_M) Try.func56 (c := f56_c) (by kernel_rfl) (fun hs => (f56_eq t0 H K).mpr (h hs))

end Go.Proofs.Ytmbegappkkbfpaa
