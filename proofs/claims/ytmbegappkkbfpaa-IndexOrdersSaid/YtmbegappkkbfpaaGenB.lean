/- The shallow forms of functions of the program, printed by a program (absgen.py) off the translation, each tied to the model by the kernel. -/
import Derived.Test.YtmbegappkkbfpaaAbsN
import Derived.Test.YtmbegappkkbfpaaProg
import Derived.KernelRfl
namespace Go.Proofs.Ytmbegappkkbfpaa
open Go Go.Abs
set_option linter.unusedVariables false

/-! ### 5: amortcostlaw10.ValueOrders -/
def f5_M (_ : Nat) : List Bool := []
noncomputable def f5_c : Code := Try.f5.body.getD .skip
noncomputable def f5_r : List ResultVar := Try.f5.results.toList
def f5 (t0 : AV) (t1 : AV) (t2 : AV) (H : Heap) (K : AV → Heap → Prop) : Prop :=
  aBox t0 H fun t3 H =>
  aBox t1 H fun t4 H =>
  aBox t2 H fun t5 H =>
  aLoad true 3 t3 H fun t8 =>
  ACalls Try.prog 13 [t8] H fun t9 H =>
  aUn .not t9 fun t10 =>
  aGuardJ t10 false H (fun K' => aLoad true 3 t4 H (K' · H)) fun t12 H =>
  aGuardJ t10 false H (fun K' => ACalls Try.prog 13 [t12] H K') fun t13 H =>
  aGuardJ t10 false H (fun K' => aUn .not t13 (K' · H)) fun t14 H =>
  aPick t10 (.bool true) t14 fun t15 =>
  aGuardJ t15 false H (fun K' => aLoad true 3 t5 H (K' · H)) fun t17 H =>
  aGuardJ t15 false H (fun K' => ACalls Try.prog 13 [t17] H K') fun t18 H =>
  aGuardJ t15 false H (fun K' => aUn .not t18 (K' · H)) fun t19 H =>
  aPick t15 (.bool true) t19 fun t20 =>
  aTest t20
  (K (.bool true) H)
  (aLoad true 3 t3 H fun t21 =>
  aLoad true 3 t4 H fun t22 =>
  ACalls Try.prog 18 [t21, t22] H fun t23 H =>
  aLoad true 3 t3 H fun t25 =>
  aLoad true 3 t4 H fun t26 =>
  ACalls Try.prog 19 [t25, t26] H fun t27 H =>
  aBin .neq false t23 t27 fun t28 =>
  aGuardJ t28 false H (fun K' => K' t23 H) fun t30 H =>
  aGuardJ t28 false H (fun K' => aLoad true 3 t4 H (K' · H)) fun t31 H =>
  aGuardJ t28 false H (fun K' => aLoad true 3 t3 H (K' · H)) fun t32 H =>
  aGuardJ t28 false H (fun K' => ACalls Try.prog 18 [t31, t32] H K') fun t33 H =>
  aGuardJ t28 false H (fun K' => aUn .neg t33 (K' · H)) fun t34 H =>
  aGuardJ t28 false H (fun K' => aBin .neq false t30 t34 (K' · H)) fun t35 H =>
  aPick t28 (.bool true) t35 fun t36 =>
  aGuardJ t36 false H (fun K' => K' t23 H) fun t38 H =>
  aGuardJ t36 false H (fun K' => aBin .eql false t38 (.int .i64 0) (K' · H)) fun t39 H =>
  aGuardJ t36 false H (fun K' => aLoad true 3 t3 H (K' · H)) fun t40 H =>
  aGuardJ t36 false H (fun K' => aLoad true 3 t4 H (K' · H)) fun t41 H =>
  aGuardJ t36 false H (fun K' => ACalls Try.prog 20 [t40, t41] H K') fun t42 H =>
  aGuardJ t36 false H (fun K' => aBin .neq true t39 t42 (K' · H)) fun t43 H =>
  aPick t36 (.bool true) t43 fun t44 =>
  aTest t44
  (K (.bool false) H)
  (aBin .leq false t23 (.int .i64 0) fun t46 =>
  aGuardJ t46 true H (fun K' => aLoad true 3 t4 H (K' · H)) fun t48 H =>
  aGuardJ t46 true H (fun K' => aLoad true 3 t5 H (K' · H)) fun t49 H =>
  aGuardJ t46 true H (fun K' => ACalls Try.prog 18 [t48, t49] H K') fun t50 H =>
  aGuardJ t46 true H (fun K' => aBin .leq false t50 (.int .i64 0) (K' · H)) fun t51 H =>
  aPick t46 t51 (.bool false) fun t52 =>
  aGuardJ t52 true H (fun K' => aLoad true 3 t3 H (K' · H)) fun t54 H =>
  aGuardJ t52 true H (fun K' => aLoad true 3 t5 H (K' · H)) fun t55 H =>
  aGuardJ t52 true H (fun K' => ACalls Try.prog 18 [t54, t55] H K') fun t56 H =>
  aGuardJ t52 true H (fun K' => aBin .gtr false t56 (.int .i64 0) (K' · H)) fun t57 H =>
  aPick t52 t57 (.bool false) fun t58 =>
  aTest t58
  (K (.bool false) H)
  (aBuild [(.int .i64 0), (.int .i64 0), .snil] [(0, 1), (1, 1), (2, 1)] [(0, (.int .i64 1))] fun t59 =>
  aBuild [(.int .i64 0), (.int .i64 0), .snil] [(0, 1), (1, 1), (2, 1)] [(0, (.int .i64 3))] fun t60 =>
  ACalls Try.prog 18 [t59, t60] H fun t61 H =>
  aBin .eql false t61 (.int .i64 (-1)) fun t62 =>
  K t62 H)))
theorem f5_eq (t0 : AV) (t1 : AV) (t2 : AV) (H : Heap) (K : AV → Heap → Prop) : awp Try.prog f5_M f5_c (retQ Try.prog f5_r K) [t0, t1, t2, .unk, .unk, .unk, .unk, .unk, .unk, .unk, .unk, .unk, .unk, .unk, .unk, .unk, .unk, .unk, .unk, .unk, .unk, .unk, .unk, .unk, .unk, .unk, .unk, .unk, .unk, .unk, .unk, .unk, .unk, .unk, .unk, .unk, .unk, .unk, .unk, .unk, .unk, .unk, .unk, .unk, .unk, .unk, .unk, .unk, .unk, .unk, .unk, .unk, .unk, .unk, .unk, .unk, .unk, .unk, .unk, .unk, .unk, .unk, .unk] H = f5 t0 t1 t2 H K := by kernel_rfl
theorem f5_ok {t0 : AV} {t1 : AV} {t2 : AV} {H : Heap} {K : AV → Heap → Prop} (h : HSc H → f5 t0 t1 t2 H K) : ACalls Try.prog 5 [t0, t1, t2] H K :=
  acalls_body (M := f5_M) Try.func5 (c := f5_c) (by kernel_rfl) (fun hs => (f5_eq t0 t1 t2 H K).mpr (h hs))

/-! ### 18: value.Compare -/
def f18_M (_ : Nat) : List Bool := []
noncomputable def f18_c : Code := Try.f18.body.getD .skip
noncomputable def f18_r : List ResultVar := Try.f18.results.toList
def f18 (t0 : AV) (t1 : AV) (H : Heap) (K : AV → Heap → Prop) : Prop :=
  aBox t0 H fun t2 H =>
  aBox t1 H fun t3 H =>
  aPure H (fun K' => aFld 0 t2 (K' · H)) fun t6 =>
  aPure H (fun K' => aLoad false 1 t6 H (K' · H)) fun t7 =>
  aPure H (fun K' => aFld 0 t3 (K' · H)) fun t8 =>
  aPure H (fun K' => aLoad false 1 t8 H (K' · H)) fun t9 =>
  aPure H (fun K' => ACalls Try.prog 31 [t7, t9] H K') fun t10 =>
  aPure H (fun K' => aFld 1 t2 (K' · H)) fun t11 =>
  aPure H (fun K' => aLoad false 1 t11 H (K' · H)) fun t12 =>
  aPure H (fun K' => aFld 1 t3 (K' · H)) fun t13 =>
  aPure H (fun K' => aLoad false 1 t13 H (K' · H)) fun t14 =>
  aPure H (fun K' => ACalls Try.prog 32 [t12, t14] H K') fun t15 =>
  aPure H (fun K' => aFld 2 t2 (K' · H)) fun t16 =>
  aPure H (fun K' => aLoad false 1 t16 H (K' · H)) fun t17 =>
  aPure H (fun K' => aLen 1 t17 (K' · H)) fun t18 =>
  aPure H (fun K' => aFld 2 t3 (K' · H)) fun t19 =>
  aPure H (fun K' => aLoad false 1 t19 H (K' · H)) fun t20 =>
  aPure H (fun K' => aLen 1 t20 (K' · H)) fun t21 =>
  aPure H (fun K' => ACalls Try.prog 31 [t18, t21] H K') fun t22 =>
  aPure H (fun K' => aBuildS 1 [(.int .i64 0)] 3 [(0, t10), (1, t15), (2, t22)] (K' · H)) fun t23 =>
  aPure H (fun K' => ACalls Try.prog 30 [t23] H K') fun t24 =>
  aPure H (fun K' => K' t24 H) fun t5 =>
  aBin .neq false t5 (.int .i64 0) fun t26 =>
  aTest t26
  (K t5 H)
  (aFld 2 t2 fun t28 =>
  aLoad false 1 t28 H fun t29 =>
  aFld 2 t3 fun t30 =>
  aLoad false 1 t30 H fun t31 =>
  ACalls Try.prog 33 [t29, t31, (.fn 18 [])] H fun t32 H =>
  K t32 H)
theorem f18_eq (t0 : AV) (t1 : AV) (H : Heap) (K : AV → Heap → Prop) : awp Try.prog f18_M f18_c (retQ Try.prog f18_r K) [t0, t1, .unk, .unk, .unk, .unk, .unk, .unk, .unk, .unk, .unk, .unk, .unk, .unk, .unk, .unk, .unk, .unk, .unk, .unk, .unk, .unk, .unk, .unk, .unk, .unk, .unk, .unk, .unk, .unk, .unk, .unk, .unk] H = f18 t0 t1 H K := by kernel_rfl
theorem f18_ok {t0 : AV} {t1 : AV} {H : Heap} {K : AV → Heap → Prop} (h : HSc H → f18 t0 t1 H K) : ACalls Try.prog 18 [t0, t1] H K :=
  acalls_body (M := f18_M) Try.func18 (c := f18_c) (by kernel_rfl) (fun hs => (f18_eq t0 t1 H K).mpr (h hs))

/-! ### 19: amortcostref10.Compare -/
def f19_M : Nat → List Bool
  | 8 => [false, false, true, true, false, true, false, false, false, false, false, false, false, false, false, false, false, false, false, false, false, false, false, false, false, false, false, false, false, false, false, false, false, false, false, false, false, false, false, false, false, false, false, false, false, false, false, false, false, false, false, false, false, false, false, false, false, false, false, false, false, false, false, false, false, false, false, false]
  | _ => []
noncomputable def f19_c : Code := Try.f19.body.getD .skip
noncomputable def f19_r : List ResultVar := Try.f19.results.toList
def f19_fr8 (t2 : AV) (t3 : AV) (t5 : AV) : List AV := [.unk, .unk, t2, t3, .unk, t5, .unk, .unk, .unk, .unk, .unk, .unk, .unk, .unk, .unk, .unk, .unk, .unk, .unk, .unk, .unk, .unk, .unk, .unk, .unk, .unk, .unk, .unk, .unk, .unk, .unk, .unk, .unk, .unk, .unk, .unk, .unk, .unk, .unk, .unk, .unk, .unk, .unk, .unk, .unk, .unk, .unk, .unk, .unk, .unk, .unk, .unk, .unk, .unk, .unk, .unk, .unk, .unk, .unk, .unk, .unk, .unk, .unk, .unk, .unk, .unk, .unk, .unk]
def f19_m8 : List Bool := f19_M 8
noncomputable def f19_c8 : Code := codeAt [1, 1, 0, 1, 0, 0] f19_c
def f19_Q8 (K : AV → Heap → Prop) : AExit → List AV → Heap → Prop := contAt Try.prog f19_M [1, 1, 0, 1, 0] f19_c (retQ Try.prog f19_r K)
def f19_l8 (t2 : AV) (t3 : AV) (t5 : AV) (H : Heap) (K : AV → Heap → Prop) : Prop := ALoop Try.prog f19_c8 (f19_Q8 K) (f19_fr8 t2 t3 t5) H
def f19_b8 (t2 : AV) (t3 : AV) (t5 : AV) (H : Heap) (K : AV → Heap → Prop) (Kb8 : List AV → Heap → Prop) : Prop :=
  aFld 2 t2 fun t48 =>
  aLoad false 1 t48 H fun t49 =>
  aLen 1 t49 fun t50 =>
  aBin .lss false t5 t50 fun t51 =>
  aTest t51
  (aPure H (fun K' => aFld 2 t2 (K' · H)) fun t54 =>
  aPure H (fun K' => aLoad false 1 t54 H (K' · H)) fun t55 =>
  aPure H (fun K' => K' t5 H) fun t56 =>
  aPure H (fun K' => aIdxA 3 t55 t56 (K' · H)) fun t57 =>
  aPure H (fun K' => aLoad true 3 t57 H (K' · H)) fun t58 =>
  aPure H (fun K' => aFld 2 t3 (K' · H)) fun t59 =>
  aPure H (fun K' => aLoad false 1 t59 H (K' · H)) fun t60 =>
  aPure H (fun K' => K' t5 H) fun t61 =>
  aPure H (fun K' => aIdxA 3 t60 t61 (K' · H)) fun t62 =>
  aPure H (fun K' => aLoad true 3 t62 H (K' · H)) fun t63 =>
  aPure H (fun K' => ACalls Try.prog 19 [t58, t63] H K') fun t64 =>
  aPure H (fun K' => K' t64 H) fun t6 =>
  aBin .neq false t6 (.int .i64 0) fun t66 =>
  aTest t66
  (K t6 H)
  (aBin .add false t5 (.int .i64 1) fun t53 =>
  Kb8 (f19_fr8 t2 t3 t53) H))
  (K (.int .i64 0) H)
def f19 (t0 : AV) (t1 : AV) (H : Heap) (K : AV → Heap → Prop) : Prop :=
  aBox t0 H fun t2 H =>
  aBox t1 H fun t3 H =>
  aFld 0 t2 fun t8 =>
  aLoad false 1 t8 H fun t9 =>
  aFld 0 t3 fun t10 =>
  aLoad false 1 t10 H fun t11 =>
  aBin .neq false t9 t11 fun t12 =>
  aTest t12
  (aFld 0 t2 fun t13 =>
  aLoad false 1 t13 H fun t14 =>
  aFld 0 t3 fun t15 =>
  aLoad false 1 t15 H fun t16 =>
  aBin .lss false t14 t16 fun t17 =>
  ACalls Try.prog 34 [t17] H fun t18 H =>
  K t18 H)
  (aFld 1 t2 fun t20 =>
  aLoad false 1 t20 H fun t21 =>
  aFld 1 t3 fun t22 =>
  aLoad false 1 t22 H fun t23 =>
  aBin .neq false t21 t23 fun t24 =>
  aTest t24
  (aFld 1 t2 fun t25 =>
  aLoad false 1 t25 H fun t26 =>
  aFld 1 t3 fun t27 =>
  aLoad false 1 t27 H fun t28 =>
  aBin .lss false t26 t28 fun t29 =>
  ACalls Try.prog 34 [t29] H fun t30 H =>
  K t30 H)
  (aFld 2 t2 fun t32 =>
  aLoad false 1 t32 H fun t33 =>
  aLen 1 t33 fun t34 =>
  aFld 2 t3 fun t35 =>
  aLoad false 1 t35 H fun t36 =>
  aLen 1 t36 fun t37 =>
  aBin .neq false t34 t37 fun t38 =>
  aTest t38
  (aFld 2 t2 fun t39 =>
  aLoad false 1 t39 H fun t40 =>
  aLen 1 t40 fun t41 =>
  aFld 2 t3 fun t42 =>
  aLoad false 1 t42 H fun t43 =>
  aLen 1 t43 fun t44 =>
  aBin .lss false t41 t44 fun t45 =>
  ACalls Try.prog 34 [t45] H fun t46 H =>
  K t46 H)
  (f19_l8 t2 t3 (.int .i64 0) H K)))
theorem f19_b8_eq (t2 : AV) (t3 : AV) (t5 : AV) (H : Heap) (K : AV → Heap → Prop) (Kb8 : List AV → Heap → Prop) : awp Try.prog f19_M f19_c8 (roundQ f19_m8 Kb8 (f19_Q8 K)) (f19_fr8 t2 t3 t5) H = f19_b8 t2 t3 t5 H K Kb8 := by kernel_rfl
theorem f19_loop8 {t2 : AV} {t3 : AV} {t5 : AV} {H : Heap} {K : AV → Heap → Prop} (Inv : Nat → AV → Heap → Prop) (n : Nat) (h0 : HSc H → Inv n t5 H)
    (round : ∀ n t5 H', Inv n t5 H' → HSc H' → H.length ≤ H'.length → (f19_fr8 t2 t3 t5).all (AV.sc H'.length) = true → ∀ Kb8 : List AV → Heap → Prop, (∀ F'' H'', (∃ n', n' < n ∧ Back H.length (fun F2 H2 => ∃ t5, F2 = f19_fr8 t2 t3 t5 ∧ Inv n' t5 H2) F'' H'') → Kb8 F'' H'') → f19_b8 t2 t3 t5 H' K Kb8) : f19_l8 t2 t3 t5 H K :=
  aloop (M := f19_M) f19_m8 (fun n F H => ∃ t5, F = f19_fr8 t2 t3 t5 ∧ Inv n t5 H) n (fun hs _ => ⟨t5, rfl, h0 hs⟩) (fun n F H' ⟨t5, hF, hI⟩ h1 h2 h3 => by subst hF; rw [f19_b8_eq]; exact round n t5 H' hI h1 h2 h3 _ (fun _ _ h => h))
theorem f19_eq (t0 : AV) (t1 : AV) (H : Heap) (K : AV → Heap → Prop) : awp Try.prog f19_M f19_c (retQ Try.prog f19_r K) [t0, t1, .unk, .unk, .unk, .unk, .unk, .unk, .unk, .unk, .unk, .unk, .unk, .unk, .unk, .unk, .unk, .unk, .unk, .unk, .unk, .unk, .unk, .unk, .unk, .unk, .unk, .unk, .unk, .unk, .unk, .unk, .unk, .unk, .unk, .unk, .unk, .unk, .unk, .unk, .unk, .unk, .unk, .unk, .unk, .unk, .unk, .unk, .unk, .unk, .unk, .unk, .unk, .unk, .unk, .unk, .unk, .unk, .unk, .unk, .unk, .unk, .unk, .unk, .unk, .unk, .unk, .unk] H = f19 t0 t1 H K := by kernel_rfl
theorem f19_ok {t0 : AV} {t1 : AV} {H : Heap} {K : AV → Heap → Prop} (h : HSc H → f19 t0 t1 H K) : ACalls Try.prog 19 [t0, t1] H K :=
  acalls_body (M := f19_M) Try.func19 (c := f19_c) (by kernel_rfl) (fun hs => (f19_eq t0 t1 H K).mpr (h hs))

/-! ### 20: amortcostkeep.SameValue -/
def f20_M (_ : Nat) : List Bool := []
noncomputable def f20_c : Code := Try.f20.body.getD .skip
noncomputable def f20_r : List ResultVar := Try.f20.results.toList
def f20 (t0 : AV) (t1 : AV) (H : Heap) (K : AV → Heap → Prop) : Prop :=
  aBox t0 H fun t2 H =>
  aBox t1 H fun t3 H =>
  aFld 0 t2 fun t5 =>
  aLoad false 1 t5 H fun t6 =>
  aFld 0 t3 fun t7 =>
  aLoad false 1 t7 H fun t8 =>
  aBin .eql false t6 t8 fun t9 =>
  aGuardJ t9 true H (fun K' => aFld 1 t2 (K' · H)) fun t11 H =>
  aGuardJ t9 true H (fun K' => aLoad false 1 t11 H (K' · H)) fun t12 H =>
  aGuardJ t9 true H (fun K' => aFld 1 t3 (K' · H)) fun t13 H =>
  aGuardJ t9 true H (fun K' => aLoad false 1 t13 H (K' · H)) fun t14 H =>
  aGuardJ t9 true H (fun K' => aBin .eql false t12 t14 (K' · H)) fun t15 H =>
  aPick t9 t15 (.bool false) fun t16 =>
  aGuardJ t16 true H (fun K' => aFld 2 t2 (K' · H)) fun t18 H =>
  aGuardJ t16 true H (fun K' => aLoad false 1 t18 H (K' · H)) fun t19 H =>
  aGuardJ t16 true H (fun K' => aFld 2 t3 (K' · H)) fun t20 H =>
  aGuardJ t16 true H (fun K' => aLoad false 1 t20 H (K' · H)) fun t21 H =>
  aGuardJ t16 true H (fun K' => ACalls Try.prog 35 [t19, t21] H K') fun t22 H =>
  aPick t16 t22 (.bool false) fun t23 =>
  K t23 H
theorem f20_eq (t0 : AV) (t1 : AV) (H : Heap) (K : AV → Heap → Prop) : awp Try.prog f20_M f20_c (retQ Try.prog f20_r K) [t0, t1, .unk, .unk, .unk, .unk, .unk, .unk, .unk, .unk, .unk, .unk, .unk, .unk, .unk, .unk, .unk, .unk, .unk, .unk, .unk, .unk, .unk, .unk] H = f20 t0 t1 H K := by kernel_rfl
theorem f20_ok {t0 : AV} {t1 : AV} {H : Heap} {K : AV → Heap → Prop} (h : HSc H → f20 t0 t1 H K) : ACalls Try.prog 20 [t0, t1] H K :=
  acalls_body (M := f20_M) Try.func20 (c := f20_c) (by kernel_rfl) (fun hs => (f20_eq t0 t1 H K).mpr (h hs))

/-! ### 30: cmp.Or[int] -/
def f30_M : Nat → List Bool
  | 3 => [false, false, false, true, false, false, true, true, true, false, false, false, false, false, false, false, false, false]
  | _ => []
noncomputable def f30_c : Code := Try.f30.body.getD .skip
noncomputable def f30_r : List ResultVar := Try.f30.results.toList
def f30_fr3 (t3 : AV) (t6 : AV) (t7 : AV) (t8 : AV) : List AV := [.unk, .unk, .unk, t3, .unk, .unk, t6, t7, t8, .unk, .unk, .unk, .unk, .unk, .unk, .unk, .unk, .unk]
def f30_m3 : List Bool := f30_M 3
noncomputable def f30_c3 : Code := codeAt [1, 1, 0, 1, 0, 0] f30_c
def f30_Q3 (K : AV → Heap → Prop) : AExit → List AV → Heap → Prop := contAt Try.prog f30_M [1, 1, 0, 1, 0] f30_c (retQ Try.prog f30_r K)
def f30_l3 (t3 : AV) (t6 : AV) (t7 : AV) (t8 : AV) (H : Heap) (K : AV → Heap → Prop) : Prop := ALoop Try.prog f30_c3 (f30_Q3 K) (f30_fr3 t3 t6 t7 t8) H
def f30_b3 (t3 : AV) (t6 : AV) (t7 : AV) (t8 : AV) (H : Heap) (K : AV → Heap → Prop) (Kb3 : List AV → Heap → Prop) : Prop :=
  aBin .lss false t8 t7 fun t9 =>
  aTest t9
  (aIdxA 1 t6 t8 fun t10 =>
  aLoad false 1 t10 H fun t11 =>
  aBin .neq false t11 t3 fun t14 =>
  aTest t14
  (K t11 H)
  (aBin .add false t8 (.int .i64 1) fun t16 =>
  Kb3 (f30_fr3 t3 t6 t7 t16) H))
  (K t3 H)
def f30 (t0 : AV) (H : Heap) (K : AV → Heap → Prop) : Prop :=
  aLen 1 t0 fun t7 =>
  f30_l3 (.int .i64 0) t0 t7 (.int .i64 0) H K
theorem f30_b3_eq (t3 : AV) (t6 : AV) (t7 : AV) (t8 : AV) (H : Heap) (K : AV → Heap → Prop) (Kb3 : List AV → Heap → Prop) : awp Try.prog f30_M f30_c3 (roundQ f30_m3 Kb3 (f30_Q3 K)) (f30_fr3 t3 t6 t7 t8) H = f30_b3 t3 t6 t7 t8 H K Kb3 := by kernel_rfl
theorem f30_loop3 {t3 : AV} {t6 : AV} {t7 : AV} {t8 : AV} {H : Heap} {K : AV → Heap → Prop} (Inv : Nat → AV → Heap → Prop) (n : Nat) (h0 : HSc H → Inv n t8 H)
    (round : ∀ n t8 H', Inv n t8 H' → HSc H' → H.length ≤ H'.length → (f30_fr3 t3 t6 t7 t8).all (AV.sc H'.length) = true → ∀ Kb3 : List AV → Heap → Prop, (∀ F'' H'', (∃ n', n' < n ∧ Back H.length (fun F2 H2 => ∃ t8, F2 = f30_fr3 t3 t6 t7 t8 ∧ Inv n' t8 H2) F'' H'') → Kb3 F'' H'') → f30_b3 t3 t6 t7 t8 H' K Kb3) : f30_l3 t3 t6 t7 t8 H K :=
  aloop (M := f30_M) f30_m3 (fun n F H => ∃ t8, F = f30_fr3 t3 t6 t7 t8 ∧ Inv n t8 H) n (fun hs _ => ⟨t8, rfl, h0 hs⟩) (fun n F H' ⟨t8, hF, hI⟩ h1 h2 h3 => by subst hF; rw [f30_b3_eq]; exact round n t8 H' hI h1 h2 h3 _ (fun _ _ h => h))
theorem f30_eq (t0 : AV) (H : Heap) (K : AV → Heap → Prop) : awp Try.prog f30_M f30_c (retQ Try.prog f30_r K) [t0, .unk, .unk, .unk, .unk, .unk, .unk, .unk, .unk, .unk, .unk, .unk, .unk, .unk, .unk, .unk, .unk, .unk] H = f30 t0 H K := by kernel_rfl
theorem f30_ok {t0 : AV} {H : Heap} {K : AV → Heap → Prop} (h : HSc H → f30 t0 H K) : ACalls Try.prog 30 [t0] H K :=
  acalls_body (M := f30_M) Try.func30 (c := f30_c) (by kernel_rfl) (fun hs => (f30_eq t0 H K).mpr (h hs))

/-! ### 31: cmp.Compare[int] -/
def f31_M (_ : Nat) : List Bool := []
noncomputable def f31_c : Code := Try.f31.body.getD .skip
noncomputable def f31_r : List ResultVar := Try.f31.results.toList
def f31 (t0 : AV) (t1 : AV) (H : Heap) (K : AV → Heap → Prop) : Prop :=
  ACalls Try.prog 48 [t0] H fun t8 H =>
  ACalls Try.prog 48 [t1] H fun t10 H =>
  aTest t8
  (aTest t10
  (K (.int .i64 0) H)
  (K (.int .i64 (-1)) H))
  (aTest t10
  (K (.int .i64 1) H)
  (aBin .lss false t0 t1 fun t16 =>
  aTest t16
  (K (.int .i64 (-1)) H)
  (aBin .gtr false t0 t1 fun t19 =>
  aTest t19
  (K (.int .i64 1) H)
  (K (.int .i64 0) H))))
theorem f31_eq (t0 : AV) (t1 : AV) (H : Heap) (K : AV → Heap → Prop) : awp Try.prog f31_M f31_c (retQ Try.prog f31_r K) [t0, t1, .unk, .unk, .unk, .unk, .unk, .unk, .unk, .unk, .unk, .unk, .unk, .unk, .unk, .unk, .unk, .unk, .unk, .unk] H = f31 t0 t1 H K := by kernel_rfl
theorem f31_ok {t0 : AV} {t1 : AV} {H : Heap} {K : AV → Heap → Prop} (h : HSc H → f31 t0 t1 H K) : ACalls Try.prog 31 [t0, t1] H K :=
  acalls_body (M := f31_M) Try.func31 (c := f31_c) (by kernel_rfl) (fun hs => (f31_eq t0 t1 H K).mpr (h hs))

/-! ### 32: cmp.Compare[int64] -/
def f32_M (_ : Nat) : List Bool := []
noncomputable def f32_c : Code := Try.f32.body.getD .skip
noncomputable def f32_r : List ResultVar := Try.f32.results.toList
def f32 (t0 : AV) (t1 : AV) (H : Heap) (K : AV → Heap → Prop) : Prop :=
  ACalls Try.prog 49 [t0] H fun t8 H =>
  ACalls Try.prog 49 [t1] H fun t10 H =>
  aTest t8
  (aTest t10
  (K (.int .i64 0) H)
  (K (.int .i64 (-1)) H))
  (aTest t10
  (K (.int .i64 1) H)
  (aBin .lss false t0 t1 fun t16 =>
  aTest t16
  (K (.int .i64 (-1)) H)
  (aBin .gtr false t0 t1 fun t19 =>
  aTest t19
  (K (.int .i64 1) H)
  (K (.int .i64 0) H))))
theorem f32_eq (t0 : AV) (t1 : AV) (H : Heap) (K : AV → Heap → Prop) : awp Try.prog f32_M f32_c (retQ Try.prog f32_r K) [t0, t1, .unk, .unk, .unk, .unk, .unk, .unk, .unk, .unk, .unk, .unk, .unk, .unk, .unk, .unk, .unk, .unk, .unk, .unk] H = f32 t0 t1 H K := by kernel_rfl
theorem f32_ok {t0 : AV} {t1 : AV} {H : Heap} {K : AV → Heap → Prop} (h : HSc H → f32 t0 t1 H K) : ACalls Try.prog 32 [t0, t1] H K :=
  acalls_body (M := f32_M) Try.func32 (c := f32_c) (by kernel_rfl) (fun hs => (f32_eq t0 t1 H K).mpr (h hs))

/-! ### 33: slices.CompareFunc[[]api.Value,[]api.Value,api.Value,api.Value] -/
def f33_M : Nat → List Bool
  | 2 => [true, true, true, false, false, false, false, false, false, false, false, true, true, true, false, false, false, false, false, false, false, false, false, false, false, false, false, false, false, false, false, false, false, false, false, false, false, false, false]
  | _ => []
noncomputable def f33_c : Code := Try.f33.body.getD .skip
noncomputable def f33_r : List ResultVar := Try.f33.results.toList
def f33_fr2 (t0 : AV) (t1 : AV) (t2 : AV) (t11 : AV) (t12 : AV) (t13 : AV) : List AV := [t0, t1, t2, .unk, .unk, .unk, .unk, .unk, .unk, .unk, .unk, t11, t12, t13, .unk, .unk, .unk, .unk, .unk, .unk, .unk, .unk, .unk, .unk, .unk, .unk, .unk, .unk, .unk, .unk, .unk, .unk, .unk, .unk, .unk, .unk, .unk, .unk, .unk]
def f33_m2 : List Bool := f33_M 2
noncomputable def f33_c2 : Code := codeAt [1, 0, 1, 0, 0] f33_c
def f33_Q2 (K : AV → Heap → Prop) : AExit → List AV → Heap → Prop := contAt Try.prog f33_M [1, 0, 1, 0] f33_c (retQ Try.prog f33_r K)
def f33_l2 (t0 : AV) (t1 : AV) (t2 : AV) (t11 : AV) (t12 : AV) (t13 : AV) (H : Heap) (K : AV → Heap → Prop) : Prop := ALoop Try.prog f33_c2 (f33_Q2 K) (f33_fr2 t0 t1 t2 t11 t12 t13) H
def f33_b2 (t0 : AV) (t1 : AV) (t2 : AV) (t11 : AV) (t12 : AV) (t13 : AV) (H : Heap) (K : AV → Heap → Prop) (Kb2 : List AV → Heap → Prop) : Prop :=
  aBin .lss false t13 t12 fun t14 =>
  aTest t14
  (aIdxA 3 t11 t13 fun t16 =>
  aLoad true 3 t16 H fun t17 =>
  aNew [(.int .i64 0), (.int .i64 0), .snil] H fun t8 H =>
  aStore 3 t8 t17 H fun H =>
  aLen 1 t1 fun t20 =>
  aBin .geq false t13 t20 fun t21 =>
  aTest t21
  (K (.int .i64 1) H)
  (aIdxA 3 t1 t13 fun t24 =>
  aLoad true 3 t24 H fun t25 =>
  aNew [(.int .i64 0), (.int .i64 0), .snil] H fun t9 H =>
  aStore 3 t9 t25 H fun H =>
  aLoad true 3 t8 H fun t27 =>
  aLoad true 3 t9 H fun t28 =>
  aCallV Try.prog t2 [t27, t28] H fun t29 H =>
  aBin .neq false t29 (.int .i64 0) fun t31 =>
  aTest t31
  (K t29 H)
  (aBin .add false t13 (.int .i64 1) fun t33 =>
  Kb2 (f33_fr2 t0 t1 t2 t11 t12 t33) H)))
  (aLen 1 t0 fun t35 =>
  aLen 1 t1 fun t37 =>
  aBin .lss false t35 t37 fun t38 =>
  aTest t38
  (K (.int .i64 (-1)) H)
  (K (.int .i64 0) H))
def f33 (t0 : AV) (t1 : AV) (t2 : AV) (H : Heap) (K : AV → Heap → Prop) : Prop :=
  aLen 1 t0 fun t12 =>
  f33_l2 t0 t1 t2 t0 t12 (.int .i64 0) H K
theorem f33_b2_eq (t0 : AV) (t1 : AV) (t2 : AV) (t11 : AV) (t12 : AV) (t13 : AV) (H : Heap) (K : AV → Heap → Prop) (Kb2 : List AV → Heap → Prop) : awp Try.prog f33_M f33_c2 (roundQ f33_m2 Kb2 (f33_Q2 K)) (f33_fr2 t0 t1 t2 t11 t12 t13) H = f33_b2 t0 t1 t2 t11 t12 t13 H K Kb2 := by kernel_rfl
theorem f33_loop2 {t0 : AV} {t1 : AV} {t2 : AV} {t11 : AV} {t12 : AV} {t13 : AV} {H : Heap} {K : AV → Heap → Prop} (Inv : Nat → AV → Heap → Prop) (n : Nat) (h0 : HSc H → Inv n t13 H)
    (round : ∀ n t13 H', Inv n t13 H' → HSc H' → H.length ≤ H'.length → (f33_fr2 t0 t1 t2 t11 t12 t13).all (AV.sc H'.length) = true → ∀ Kb2 : List AV → Heap → Prop, (∀ F'' H'', (∃ n', n' < n ∧ Back H.length (fun F2 H2 => ∃ t13, F2 = f33_fr2 t0 t1 t2 t11 t12 t13 ∧ Inv n' t13 H2) F'' H'') → Kb2 F'' H'') → f33_b2 t0 t1 t2 t11 t12 t13 H' K Kb2) : f33_l2 t0 t1 t2 t11 t12 t13 H K :=
  aloop (M := f33_M) f33_m2 (fun n F H => ∃ t13, F = f33_fr2 t0 t1 t2 t11 t12 t13 ∧ Inv n t13 H) n (fun hs _ => ⟨t13, rfl, h0 hs⟩) (fun n F H' ⟨t13, hF, hI⟩ h1 h2 h3 => by subst hF; rw [f33_b2_eq]; exact round n t13 H' hI h1 h2 h3 _ (fun _ _ h => h))
theorem f33_eq (t0 : AV) (t1 : AV) (t2 : AV) (H : Heap) (K : AV → Heap → Prop) : awp Try.prog f33_M f33_c (retQ Try.prog f33_r K) [t0, t1, t2, .unk, .unk, .unk, .unk, .unk, .unk, .unk, .unk, .unk, .unk, .unk, .unk, .unk, .unk, .unk, .unk, .unk, .unk, .unk, .unk, .unk, .unk, .unk, .unk, .unk, .unk, .unk, .unk, .unk, .unk, .unk, .unk, .unk, .unk, .unk, .unk] H = f33 t0 t1 t2 H K := by kernel_rfl
theorem f33_ok {t0 : AV} {t1 : AV} {t2 : AV} {H : Heap} {K : AV → Heap → Prop} (h : HSc H → f33 t0 t1 t2 H K) : ACalls Try.prog 33 [t0, t1, t2] H K :=
  acalls_body (M := f33_M) Try.func33 (c := f33_c) (by kernel_rfl) (fun hs => (f33_eq t0 t1 t2 H K).mpr (h hs))

/-! ### 34: amortcostref10.less -/
def f34_M (_ : Nat) : List Bool := []
noncomputable def f34_c : Code := Try.f34.body.getD .skip
noncomputable def f34_r : List ResultVar := Try.f34.results.toList
def f34 (t0 : AV) (H : Heap) (K : AV → Heap → Prop) : Prop :=
  aTest t0
  (K (.int .i64 (-1)) H)
  (K (.int .i64 1) H)
theorem f34_eq (t0 : AV) (H : Heap) (K : AV → Heap → Prop) : awp Try.prog f34_M f34_c (retQ Try.prog f34_r K) [t0, .unk, .unk, .unk] H = f34 t0 H K := by kernel_rfl
theorem f34_ok {t0 : AV} {H : Heap} {K : AV → Heap → Prop} (h : HSc H → f34 t0 H K) : ACalls Try.prog 34 [t0] H K :=
  acalls_body (M := f34_M) Try.func34 (c := f34_c) (by kernel_rfl) (fun hs => (f34_eq t0 H K).mpr (h hs))

/-! ### 35: amortcostkeep.SameValues -/
def f35_M : Nat → List Bool
  | 4 => [true, true, false, false, false, false, false, false, false, false, false, false, true, true, false, false, false, false, false, false, false, false, false, false, false, false, false]
  | _ => []
noncomputable def f35_c : Code := Try.f35.body.getD .skip
noncomputable def f35_r : List ResultVar := Try.f35.results.toList
def f35_fr4 (t0 : AV) (t1 : AV) (t12 : AV) (t13 : AV) : List AV := [t0, t1, .unk, .unk, .unk, .unk, .unk, .unk, .unk, .unk, .unk, .unk, t12, t13, .unk, .unk, .unk, .unk, .unk, .unk, .unk, .unk, .unk, .unk, .unk, .unk, .unk]
def f35_m4 : List Bool := f35_M 4
noncomputable def f35_c4 : Code := codeAt [1, 1, 0, 1, 0, 0] f35_c
def f35_Q4 (K : AV → Heap → Prop) : AExit → List AV → Heap → Prop := contAt Try.prog f35_M [1, 1, 0, 1, 0] f35_c (retQ Try.prog f35_r K)
def f35_l4 (t0 : AV) (t1 : AV) (t12 : AV) (t13 : AV) (H : Heap) (K : AV → Heap → Prop) : Prop := ALoop Try.prog f35_c4 (f35_Q4 K) (f35_fr4 t0 t1 t12 t13) H
def f35_b4 (t0 : AV) (t1 : AV) (t12 : AV) (t13 : AV) (H : Heap) (K : AV → Heap → Prop) (Kb4 : List AV → Heap → Prop) : Prop :=
  aBin .lss false t13 t12 fun t14 =>
  aTest t14
  (aPure H (fun K' => K' t0 H) fun t16 =>
  aPure H (fun K' => K' t13 H) fun t17 =>
  aPure H (fun K' => aIdxA 3 t16 t17 (K' · H)) fun t18 =>
  aPure H (fun K' => aLoad true 3 t18 H (K' · H)) fun t19 =>
  aPure H (fun K' => K' t1 H) fun t20 =>
  aPure H (fun K' => K' t13 H) fun t21 =>
  aPure H (fun K' => aIdxA 3 t20 t21 (K' · H)) fun t22 =>
  aPure H (fun K' => aLoad true 3 t22 H (K' · H)) fun t23 =>
  aPure H (fun K' => ACalls Try.prog 20 [t19, t23] H K') fun t24 =>
  aPure H (fun K' => aUn .not t24 (K' · H)) fun t25 =>
  aTest t25
  (K (.bool false) H)
  (aBin .add false t13 (.int .i64 1) fun t26 =>
  Kb4 (f35_fr4 t0 t1 t12 t26) H))
  (K (.bool true) H)
def f35 (t0 : AV) (t1 : AV) (H : Heap) (K : AV → Heap → Prop) : Prop :=
  aLen 1 t0 fun t7 =>
  aLen 1 t1 fun t9 =>
  aBin .neq false t7 t9 fun t10 =>
  aTest t10
  (K (.bool false) H)
  (aLen 1 t0 fun t12 =>
  f35_l4 t0 t1 t12 (.int .i64 0) H K)
theorem f35_b4_eq (t0 : AV) (t1 : AV) (t12 : AV) (t13 : AV) (H : Heap) (K : AV → Heap → Prop) (Kb4 : List AV → Heap → Prop) : awp Try.prog f35_M f35_c4 (roundQ f35_m4 Kb4 (f35_Q4 K)) (f35_fr4 t0 t1 t12 t13) H = f35_b4 t0 t1 t12 t13 H K Kb4 := by kernel_rfl
theorem f35_loop4 {t0 : AV} {t1 : AV} {t12 : AV} {t13 : AV} {H : Heap} {K : AV → Heap → Prop} (Inv : Nat → AV → Heap → Prop) (n : Nat) (h0 : HSc H → Inv n t13 H)
    (round : ∀ n t13 H', Inv n t13 H' → HSc H' → H.length ≤ H'.length → (f35_fr4 t0 t1 t12 t13).all (AV.sc H'.length) = true → ∀ Kb4 : List AV → Heap → Prop, (∀ F'' H'', (∃ n', n' < n ∧ Back H.length (fun F2 H2 => ∃ t13, F2 = f35_fr4 t0 t1 t12 t13 ∧ Inv n' t13 H2) F'' H'') → Kb4 F'' H'') → f35_b4 t0 t1 t12 t13 H' K Kb4) : f35_l4 t0 t1 t12 t13 H K :=
  aloop (M := f35_M) f35_m4 (fun n F H => ∃ t13, F = f35_fr4 t0 t1 t12 t13 ∧ Inv n t13 H) n (fun hs _ => ⟨t13, rfl, h0 hs⟩) (fun n F H' ⟨t13, hF, hI⟩ h1 h2 h3 => by subst hF; rw [f35_b4_eq]; exact round n t13 H' hI h1 h2 h3 _ (fun _ _ h => h))
theorem f35_eq (t0 : AV) (t1 : AV) (H : Heap) (K : AV → Heap → Prop) : awp Try.prog f35_M f35_c (retQ Try.prog f35_r K) [t0, t1, .unk, .unk, .unk, .unk, .unk, .unk, .unk, .unk, .unk, .unk, .unk, .unk, .unk, .unk, .unk, .unk, .unk, .unk, .unk, .unk, .unk, .unk, .unk, .unk, .unk] H = f35 t0 t1 H K := by kernel_rfl
theorem f35_ok {t0 : AV} {t1 : AV} {H : Heap} {K : AV → Heap → Prop} (h : HSc H → f35 t0 t1 H K) : ACalls Try.prog 35 [t0, t1] H K :=
  acalls_body (M := f35_M) Try.func35 (c := f35_c) (by kernel_rfl) (fun hs => (f35_eq t0 t1 H K).mpr (h hs))

/-! ### 48: cmp.isNaN[int] -/
def f48_M (_ : Nat) : List Bool := []
noncomputable def f48_c : Code := Try.f48.body.getD .skip
noncomputable def f48_r : List ResultVar := Try.f48.results.toList
def f48 (t0 : AV) (H : Heap) (K : AV → Heap → Prop) : Prop :=
  aBin .neq false t0 t0 fun t5 =>
  K t5 H
theorem f48_eq (t0 : AV) (H : Heap) (K : AV → Heap → Prop) : awp Try.prog f48_M f48_c (retQ Try.prog f48_r K) [t0, .unk, .unk, .unk, .unk, .unk] H = f48 t0 H K := by kernel_rfl
theorem f48_ok {t0 : AV} {H : Heap} {K : AV → Heap → Prop} (h : HSc H → f48 t0 H K) : ACalls Try.prog 48 [t0] H K :=
  acalls_body (M := f48_M) Try.func48 (c := f48_c) (by kernel_rfl) (fun hs => (f48_eq t0 H K).mpr (h hs))

/-! ### 49: cmp.isNaN[int64] -/
def f49_M (_ : Nat) : List Bool := []
noncomputable def f49_c : Code := Try.f49.body.getD .skip
noncomputable def f49_r : List ResultVar := Try.f49.results.toList
def f49 (t0 : AV) (H : Heap) (K : AV → Heap → Prop) : Prop :=
  aBin .neq false t0 t0 fun t5 =>
  K t5 H
theorem f49_eq (t0 : AV) (H : Heap) (K : AV → Heap → Prop) : awp Try.prog f49_M f49_c (retQ Try.prog f49_r K) [t0, .unk, .unk, .unk, .unk, .unk] H = f49 t0 H K := by kernel_rfl
theorem f49_ok {t0 : AV} {H : Heap} {K : AV → Heap → Prop} (h : HSc H → f49 t0 H K) : ACalls Try.prog 49 [t0] H K :=
  acalls_body (M := f49_M) Try.func49 (c := f49_c) (by kernel_rfl) (fun hs => (f49_eq t0 H K).mpr (h hs))

end Go.Proofs.Ytmbegappkkbfpaa
