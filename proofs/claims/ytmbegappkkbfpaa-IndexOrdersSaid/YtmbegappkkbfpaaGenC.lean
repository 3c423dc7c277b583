/- The shallow forms of functions of the program, printed by a program (absgen.py) off the translation, each tied to the model by the kernel. -/
import Derived.Test.YtmbegappkkbfpaaAbsN
import Derived.Test.YtmbegappkkbfpaaProg
import Derived.KernelRfl
namespace Go.Proofs.Ytmbegappkkbfpaa
open Go Go.Abs
set_option linter.unusedVariables false

/-! ### 6: amortcostlaw15.IndexOrders -/
def f6_M (_ : Nat) : List Bool := []
noncomputable def f6_c : Code := Try.f6.body.getD .skip
noncomputable def f6_r : List ResultVar := Try.f6.results.toList
def f6 (t0 : AV) (t1 : AV) (t2 : AV) (H : Heap) (K : AV → Heap → Prop) : Prop :=
  aBox t0 H fun t3 H =>
  aBox t1 H fun t4 H =>
  aBox t2 H fun t5 H =>
  aLoad true 2 t3 H fun t8 =>
  ACalls Try.prog 21 [t8] H fun t9 H =>
  aUn .not t9 fun t10 =>
  aGuardJ t10 false H (fun K' => aLoad true 2 t4 H (K' · H)) fun t12 H =>
  aGuardJ t10 false H (fun K' => ACalls Try.prog 21 [t12] H K') fun t13 H =>
  aGuardJ t10 false H (fun K' => aUn .not t13 (K' · H)) fun t14 H =>
  aPick t10 (.bool true) t14 fun t15 =>
  aGuardJ t15 false H (fun K' => aLoad true 2 t5 H (K' · H)) fun t17 H =>
  aGuardJ t15 false H (fun K' => ACalls Try.prog 21 [t17] H K') fun t18 H =>
  aGuardJ t15 false H (fun K' => aUn .not t18 (K' · H)) fun t19 H =>
  aPick t15 (.bool true) t19 fun t20 =>
  aTest t20
  (K (.bool true) H)
  (aLoad true 2 t3 H fun t21 =>
  aLoad true 2 t4 H fun t22 =>
  ACalls Try.prog 22 [t21, t22] H fun t23 H =>
  aLoad true 2 t3 H fun t25 =>
  aLoad true 2 t4 H fun t26 =>
  ACalls Try.prog 23 [t25, t26] H fun t27 H =>
  aBin .neq false t23 t27 fun t28 =>
  aGuardJ t28 false H (fun K' => K' t23 H) fun t30 H =>
  aGuardJ t28 false H (fun K' => aLoad true 2 t4 H (K' · H)) fun t31 H =>
  aGuardJ t28 false H (fun K' => aLoad true 2 t3 H (K' · H)) fun t32 H =>
  aGuardJ t28 false H (fun K' => ACalls Try.prog 22 [t31, t32] H K') fun t33 H =>
  aGuardJ t28 false H (fun K' => aUn .neg t33 (K' · H)) fun t34 H =>
  aGuardJ t28 false H (fun K' => aBin .neq false t30 t34 (K' · H)) fun t35 H =>
  aPick t28 (.bool true) t35 fun t36 =>
  aGuardJ t36 false H (fun K' => K' t23 H) fun t38 H =>
  aGuardJ t36 false H (fun K' => aBin .eql false t38 (.int .i64 0) (K' · H)) fun t39 H =>
  aGuardJ t36 false H (fun K' => aLoad true 2 t3 H (K' · H)) fun t40 H =>
  aGuardJ t36 false H (fun K' => aLoad true 2 t4 H (K' · H)) fun t41 H =>
  aGuardJ t36 false H (fun K' => ACalls Try.prog 24 [t40, t41] H K') fun t42 H =>
  aGuardJ t36 false H (fun K' => aBin .neq true t39 t42 (K' · H)) fun t43 H =>
  aPick t36 (.bool true) t43 fun t44 =>
  aTest t44
  (K (.bool false) H)
  (aBin .leq false t23 (.int .i64 0) fun t46 =>
  aGuardJ t46 true H (fun K' => aLoad true 2 t4 H (K' · H)) fun t48 H =>
  aGuardJ t46 true H (fun K' => aLoad true 2 t5 H (K' · H)) fun t49 H =>
  aGuardJ t46 true H (fun K' => ACalls Try.prog 22 [t48, t49] H K') fun t50 H =>
  aGuardJ t46 true H (fun K' => aBin .leq false t50 (.int .i64 0) (K' · H)) fun t51 H =>
  aPick t46 t51 (.bool false) fun t52 =>
  aGuardJ t52 true H (fun K' => aLoad true 2 t3 H (K' · H)) fun t54 H =>
  aGuardJ t52 true H (fun K' => aLoad true 2 t5 H (K' · H)) fun t55 H =>
  aGuardJ t52 true H (fun K' => ACalls Try.prog 22 [t54, t55] H K') fun t56 H =>
  aGuardJ t52 true H (fun K' => aBin .gtr false t56 (.int .i64 0) (K' · H)) fun t57 H =>
  aPick t52 t57 (.bool false) fun t58 =>
  aTest t58
  (K (.bool false) H)
  (aBuild [(.int .i64 0), .snil] [(0, 1), (1, 1)] [] fun t59 =>
  aBuild [(.int .i64 0), .snil] [(0, 1), (1, 1)] [(0, (.int .i64 1))] fun t60 =>
  ACalls Try.prog 22 [t59, t60] H fun t61 H =>
  aBin .eql false t61 (.int .i64 (-1)) fun t62 =>
  K t62 H)))
theorem f6_eq (t0 : AV) (t1 : AV) (t2 : AV) (H : Heap) (K : AV → Heap → Prop) : awp Try.prog f6_M f6_c (retQ Try.prog f6_r K) [t0, t1, t2, .unk, .unk, .unk, .unk, .unk, .unk, .unk, .unk, .unk, .unk, .unk, .unk, .unk, .unk, .unk, .unk, .unk, .unk, .unk, .unk, .unk, .unk, .unk, .unk, .unk, .unk, .unk, .unk, .unk, .unk, .unk, .unk, .unk, .unk, .unk, .unk, .unk, .unk, .unk, .unk, .unk, .unk, .unk, .unk, .unk, .unk, .unk, .unk, .unk, .unk, .unk, .unk, .unk, .unk, .unk, .unk, .unk, .unk, .unk, .unk] H = f6 t0 t1 t2 H K := by kernel_rfl
theorem f6_ok {t0 : AV} {t1 : AV} {t2 : AV} {H : Heap} {K : AV → Heap → Prop} (h : HSc H → f6 t0 t1 t2 H K) : ACalls Try.prog 6 [t0, t1, t2] H K :=
  acalls_body (M := f6_M) Try.func6 (c := f6_c) (by kernel_rfl) (fun hs => (f6_eq t0 t1 t2 H K).mpr (h hs))

/-! ### 21: amortcostkeep.Index -/
def f21_M (_ : Nat) : List Bool := []
noncomputable def f21_c : Code := Try.f21.body.getD .skip
noncomputable def f21_r : List ResultVar := Try.f21.results.toList
def f21 (t0 : AV) (H : Heap) (K : AV → Heap → Prop) : Prop :=
  aBox t0 H fun t1 H =>
  aNew [(.int .i64 0)] H fun t3 H =>
  aStore 1 t3 (.int .i64 40) H fun H =>
  aLoad true 2 t1 H fun t4 =>
  ACalls Try.prog 36 [t4, t3] H fun t5 H =>
  K t5 H
theorem f21_eq (t0 : AV) (H : Heap) (K : AV → Heap → Prop) : awp Try.prog f21_M f21_c (retQ Try.prog f21_r K) [t0, .unk, .unk, .unk, .unk, .unk] H = f21 t0 H K := by kernel_rfl
theorem f21_ok {t0 : AV} {H : Heap} {K : AV → Heap → Prop} (h : HSc H → f21 t0 H K) : ACalls Try.prog 21 [t0] H K :=
  acalls_body (M := f21_M) Try.func21 (c := f21_c) (by kernel_rfl) (fun hs => (f21_eq t0 H K).mpr (h hs))

/-! ### 22: index.Compare -/
def f22_M (_ : Nat) : List Bool := []
noncomputable def f22_c : Code := Try.f22.body.getD .skip
noncomputable def f22_r : List ResultVar := Try.f22.results.toList
def f22 (t0 : AV) (t1 : AV) (H : Heap) (K : AV → Heap → Prop) : Prop :=
  aBox t0 H fun t2 H =>
  aBox t1 H fun t3 H =>
  aPure H (fun K' => aFld 0 t2 (K' · H)) fun t6 =>
  aPure H (fun K' => aLoad false 1 t6 H (K' · H)) fun t7 =>
  aPure H (fun K' => aFld 0 t3 (K' · H)) fun t8 =>
  aPure H (fun K' => aLoad false 1 t8 H (K' · H)) fun t9 =>
  aPure H (fun K' => ACalls Try.prog 31 [t7, t9] H K') fun t10 =>
  aPure H (fun K' => aFld 1 t2 (K' · H)) fun t11 =>
  aPure H (fun K' => aLoad false 1 t11 H (K' · H)) fun t12 =>
  aPure H (fun K' => aLen 1 t12 (K' · H)) fun t13 =>
  aPure H (fun K' => aFld 1 t3 (K' · H)) fun t14 =>
  aPure H (fun K' => aLoad false 1 t14 H (K' · H)) fun t15 =>
  aPure H (fun K' => aLen 1 t15 (K' · H)) fun t16 =>
  aPure H (fun K' => ACalls Try.prog 31 [t13, t16] H K') fun t17 =>
  aPure H (fun K' => aBuildS 1 [(.int .i64 0)] 2 [(0, t10), (1, t17)] (K' · H)) fun t18 =>
  aPure H (fun K' => ACalls Try.prog 30 [t18] H K') fun t19 =>
  aPure H (fun K' => K' t19 H) fun t5 =>
  aBin .neq false t5 (.int .i64 0) fun t21 =>
  aTest t21
  (K t5 H)
  (aFld 1 t2 fun t23 =>
  aLoad false 1 t23 H fun t24 =>
  aFld 1 t3 fun t25 =>
  aLoad false 1 t25 H fun t26 =>
  ACalls Try.prog 37 [t24, t26, (.fn 22 [])] H fun t27 H =>
  K t27 H)
theorem f22_eq (t0 : AV) (t1 : AV) (H : Heap) (K : AV → Heap → Prop) : awp Try.prog f22_M f22_c (retQ Try.prog f22_r K) [t0, t1, .unk, .unk, .unk, .unk, .unk, .unk, .unk, .unk, .unk, .unk, .unk, .unk, .unk, .unk, .unk, .unk, .unk, .unk, .unk, .unk, .unk, .unk, .unk, .unk, .unk, .unk] H = f22 t0 t1 H K := by kernel_rfl
theorem f22_ok {t0 : AV} {t1 : AV} {H : Heap} {K : AV → Heap → Prop} (h : HSc H → f22 t0 t1 H K) : ACalls Try.prog 22 [t0, t1] H K :=
  acalls_body (M := f22_M) Try.func22 (c := f22_c) (by kernel_rfl) (fun hs => (f22_eq t0 t1 H K).mpr (h hs))

/-! ### 23: amortcostref15.Compare -/
def f23_M (_ : Nat) : List Bool := []
noncomputable def f23_c : Code := Try.f23.body.getD .skip
noncomputable def f23_r : List ResultVar := Try.f23.results.toList
def f23 (t0 : AV) (t1 : AV) (H : Heap) (K : AV → Heap → Prop) : Prop :=
  aBox t0 H fun t2 H =>
  aBox t1 H fun t3 H =>
  aFld 0 t2 fun t5 =>
  aLoad false 1 t5 H fun t6 =>
  aFld 0 t3 fun t7 =>
  aLoad false 1 t7 H fun t8 =>
  aBin .neq false t6 t8 fun t9 =>
  aTest t9
  (aFld 0 t2 fun t10 =>
  aLoad false 1 t10 H fun t11 =>
  aFld 0 t3 fun t12 =>
  aLoad false 1 t12 H fun t13 =>
  aBin .lss false t11 t13 fun t14 =>
  ACalls Try.prog 38 [t14] H fun t15 H =>
  K t15 H)
  (aFld 1 t2 fun t16 =>
  aLoad false 1 t16 H fun t17 =>
  aFld 1 t3 fun t18 =>
  aLoad false 1 t18 H fun t19 =>
  ACalls Try.prog 39 [t17, t19] H fun t20 H =>
  K t20 H)
theorem f23_eq (t0 : AV) (t1 : AV) (H : Heap) (K : AV → Heap → Prop) : awp Try.prog f23_M f23_c (retQ Try.prog f23_r K) [t0, t1, .unk, .unk, .unk, .unk, .unk, .unk, .unk, .unk, .unk, .unk, .unk, .unk, .unk, .unk, .unk, .unk, .unk, .unk, .unk] H = f23 t0 t1 H K := by kernel_rfl
theorem f23_ok {t0 : AV} {t1 : AV} {H : Heap} {K : AV → Heap → Prop} (h : HSc H → f23 t0 t1 H K) : ACalls Try.prog 23 [t0, t1] H K :=
  acalls_body (M := f23_M) Try.func23 (c := f23_c) (by kernel_rfl) (fun hs => (f23_eq t0 t1 H K).mpr (h hs))

/-! ### 24: amortcostkeep.SameIndex -/
def f24_M (_ : Nat) : List Bool := []
noncomputable def f24_c : Code := Try.f24.body.getD .skip
noncomputable def f24_r : List ResultVar := Try.f24.results.toList
def f24 (t0 : AV) (t1 : AV) (H : Heap) (K : AV → Heap → Prop) : Prop :=
  aBox t0 H fun t2 H =>
  aBox t1 H fun t3 H =>
  aFld 0 t2 fun t5 =>
  aLoad false 1 t5 H fun t6 =>
  aFld 0 t3 fun t7 =>
  aLoad false 1 t7 H fun t8 =>
  aBin .eql false t6 t8 fun t9 =>
  aGuardJ t9 true H (fun K' => aFld 1 t2 (K' · H)) fun t11 H =>
  aGuardJ t9 true H (fun K' => aLoad false 1 t11 H (K' · H)) fun t12 H =>
  aGuardJ t9 true H (fun K' => aFld 1 t3 (K' · H)) fun t13 H =>
  aGuardJ t9 true H (fun K' => aLoad false 1 t13 H (K' · H)) fun t14 H =>
  aGuardJ t9 true H (fun K' => ACalls Try.prog 40 [t12, t14] H K') fun t15 H =>
  aPick t9 t15 (.bool false) fun t16 =>
  K t16 H
theorem f24_eq (t0 : AV) (t1 : AV) (H : Heap) (K : AV → Heap → Prop) : awp Try.prog f24_M f24_c (retQ Try.prog f24_r K) [t0, t1, .unk, .unk, .unk, .unk, .unk, .unk, .unk, .unk, .unk, .unk, .unk, .unk, .unk, .unk, .unk] H = f24 t0 t1 H K := by kernel_rfl
theorem f24_ok {t0 : AV} {t1 : AV} {H : Heap} {K : AV → Heap → Prop} (h : HSc H → f24 t0 t1 H K) : ACalls Try.prog 24 [t0, t1] H K :=
  acalls_body (M := f24_M) Try.func24 (c := f24_c) (by kernel_rfl) (fun hs => (f24_eq t0 t1 H K).mpr (h hs))

/-! ### 36: amortcostkeep.ind -/
def f36_M : Nat → List Bool
  | 5 => [false, true, true, false, false, true, false, false, false, false, false, false, false, false, false, false, false, false, false, false, false, false, false, false, false, false, false, false, false, false]
  | _ => []
noncomputable def f36_c : Code := Try.f36.body.getD .skip
noncomputable def f36_r : List ResultVar := Try.f36.results.toList
def f36_fr5 (t1 : AV) (t2 : AV) (t5 : AV) : List AV := [.unk, t1, t2, .unk, .unk, t5, .unk, .unk, .unk, .unk, .unk, .unk, .unk, .unk, .unk, .unk, .unk, .unk, .unk, .unk, .unk, .unk, .unk, .unk, .unk, .unk, .unk, .unk, .unk, .unk]
def f36_m5 : List Bool := f36_M 5
noncomputable def f36_c5 : Code := codeAt [1, 1, 1, 0, 1, 0, 0] f36_c
def f36_Q5 (K : AV → Heap → Prop) : AExit → List AV → Heap → Prop := contAt Try.prog f36_M [1, 1, 1, 0, 1, 0] f36_c (retQ Try.prog f36_r K)
def f36_l5 (t1 : AV) (t2 : AV) (t5 : AV) (H : Heap) (K : AV → Heap → Prop) : Prop := ALoop Try.prog f36_c5 (f36_Q5 K) (f36_fr5 t1 t2 t5) H
def f36_b5 (t1 : AV) (t2 : AV) (t5 : AV) (H : Heap) (K : AV → Heap → Prop) (Kb5 : List AV → Heap → Prop) : Prop :=
  aFld 1 t2 fun t16 =>
  aLoad false 1 t16 H fun t17 =>
  aLen 1 t17 fun t18 =>
  aBin .lss false t5 t18 fun t19 =>
  aTest t19
  (aFld 1 t2 fun t22 =>
  aLoad false 1 t22 H fun t23 =>
  aIdxA 2 t23 t5 fun t25 =>
  aLoad true 2 t25 H fun t26 =>
  ACalls Try.prog 36 [t26, t1] H fun t28 H =>
  aUn .not t28 fun t29 =>
  aTest t29
  (K (.bool false) H)
  (aBin .add false t5 (.int .i64 1) fun t21 =>
  Kb5 (f36_fr5 t1 t2 t21) H))
  (K (.bool true) H)
def f36 (t0 : AV) (t1 : AV) (H : Heap) (K : AV → Heap → Prop) : Prop :=
  aBox t0 H fun t2 H =>
  aNil t1 fun t7 =>
  aLoad false 1 t7 H fun t8 =>
  aBin .sub false t8 (.int .i64 1) fun t9 =>
  aNil t1 fun t10 =>
  aStore 1 t10 t9 H fun H =>
  aNil t1 fun t12 =>
  aLoad false 1 t12 H fun t13 =>
  aBin .lss false t13 (.int .i64 0) fun t14 =>
  aTest t14
  (K (.bool false) H)
  (f36_l5 t1 t2 (.int .i64 0) H K)
theorem f36_b5_eq (t1 : AV) (t2 : AV) (t5 : AV) (H : Heap) (K : AV → Heap → Prop) (Kb5 : List AV → Heap → Prop) : awp Try.prog f36_M f36_c5 (roundQ f36_m5 Kb5 (f36_Q5 K)) (f36_fr5 t1 t2 t5) H = f36_b5 t1 t2 t5 H K Kb5 := by kernel_rfl
theorem f36_loop5 {t1 : AV} {t2 : AV} {t5 : AV} {H : Heap} {K : AV → Heap → Prop} (Inv : Nat → AV → Heap → Prop) (n : Nat) (h0 : HSc H → Inv n t5 H)
    (round : ∀ n t5 H', Inv n t5 H' → HSc H' → H.length ≤ H'.length → (f36_fr5 t1 t2 t5).all (AV.sc H'.length) = true → ∀ Kb5 : List AV → Heap → Prop, (∀ F'' H'', (∃ n', n' < n ∧ Back H.length (fun F2 H2 => ∃ t5, F2 = f36_fr5 t1 t2 t5 ∧ Inv n' t5 H2) F'' H'') → Kb5 F'' H'') → f36_b5 t1 t2 t5 H' K Kb5) : f36_l5 t1 t2 t5 H K :=
  aloop (M := f36_M) f36_m5 (fun n F H => ∃ t5, F = f36_fr5 t1 t2 t5 ∧ Inv n t5 H) n (fun hs _ => ⟨t5, rfl, h0 hs⟩) (fun n F H' ⟨t5, hF, hI⟩ h1 h2 h3 => by subst hF; rw [f36_b5_eq]; exact round n t5 H' hI h1 h2 h3 _ (fun _ _ h => h))
theorem f36_eq (t0 : AV) (t1 : AV) (H : Heap) (K : AV → Heap → Prop) : awp Try.prog f36_M f36_c (retQ Try.prog f36_r K) [t0, t1, .unk, .unk, .unk, .unk, .unk, .unk, .unk, .unk, .unk, .unk, .unk, .unk, .unk, .unk, .unk, .unk, .unk, .unk, .unk, .unk, .unk, .unk, .unk, .unk, .unk, .unk, .unk, .unk] H = f36 t0 t1 H K := by kernel_rfl
theorem f36_ok {t0 : AV} {t1 : AV} {H : Heap} {K : AV → Heap → Prop} (h : HSc H → f36 t0 t1 H K) : ACalls Try.prog 36 [t0, t1] H K :=
  acalls_body (M := f36_M) Try.func36 (c := f36_c) (by kernel_rfl) (fun hs => (f36_eq t0 t1 H K).mpr (h hs))

/-! ### 37: slices.CompareFunc[[]api.Index,[]api.Index,api.Index,api.Index] -/
def f37_M : Nat → List Bool
  | 2 => [true, true, true, false, false, false, false, false, false, false, false, true, true, true, false, false, false, false, false, false, false, false, false, false, false, false, false, false, false, false, false, false, false, false, false, false, false, false, false]
  | _ => []
noncomputable def f37_c : Code := Try.f37.body.getD .skip
noncomputable def f37_r : List ResultVar := Try.f37.results.toList
def f37_fr2 (t0 : AV) (t1 : AV) (t2 : AV) (t11 : AV) (t12 : AV) (t13 : AV) : List AV := [t0, t1, t2, .unk, .unk, .unk, .unk, .unk, .unk, .unk, .unk, t11, t12, t13, .unk, .unk, .unk, .unk, .unk, .unk, .unk, .unk, .unk, .unk, .unk, .unk, .unk, .unk, .unk, .unk, .unk, .unk, .unk, .unk, .unk, .unk, .unk, .unk, .unk]
def f37_m2 : List Bool := f37_M 2
noncomputable def f37_c2 : Code := codeAt [1, 0, 1, 0, 0] f37_c
def f37_Q2 (K : AV → Heap → Prop) : AExit → List AV → Heap → Prop := contAt Try.prog f37_M [1, 0, 1, 0] f37_c (retQ Try.prog f37_r K)
def f37_l2 (t0 : AV) (t1 : AV) (t2 : AV) (t11 : AV) (t12 : AV) (t13 : AV) (H : Heap) (K : AV → Heap → Prop) : Prop := ALoop Try.prog f37_c2 (f37_Q2 K) (f37_fr2 t0 t1 t2 t11 t12 t13) H
def f37_b2 (t0 : AV) (t1 : AV) (t2 : AV) (t11 : AV) (t12 : AV) (t13 : AV) (H : Heap) (K : AV → Heap → Prop) (Kb2 : List AV → Heap → Prop) : Prop :=
  aBin .lss false t13 t12 fun t14 =>
  aTest t14
  (aIdxA 2 t11 t13 fun t16 =>
  aLoad true 2 t16 H fun t17 =>
  aNew [(.int .i64 0), .snil] H fun t8 H =>
  aStore 2 t8 t17 H fun H =>
  aLen 1 t1 fun t20 =>
  aBin .geq false t13 t20 fun t21 =>
  aTest t21
  (K (.int .i64 1) H)
  (aIdxA 2 t1 t13 fun t24 =>
  aLoad true 2 t24 H fun t25 =>
  aNew [(.int .i64 0), .snil] H fun t9 H =>
  aStore 2 t9 t25 H fun H =>
  aLoad true 2 t8 H fun t27 =>
  aLoad true 2 t9 H fun t28 =>
  aCallV Try.prog t2 [t27, t28] H fun t29 H =>
  aBin .neq false t29 (.int .i64 0) fun t31 =>
  aTest t31
  (K t29 H)
  (aBin .add false t13 (.int .i64 1) fun t33 =>
  Kb2 (f37_fr2 t0 t1 t2 t11 t12 t33) H)))
  (aLen 1 t0 fun t35 =>
  aLen 1 t1 fun t37 =>
  aBin .lss false t35 t37 fun t38 =>
  aTest t38
  (K (.int .i64 (-1)) H)
  (K (.int .i64 0) H))
def f37 (t0 : AV) (t1 : AV) (t2 : AV) (H : Heap) (K : AV → Heap → Prop) : Prop :=
  aLen 1 t0 fun t12 =>
  f37_l2 t0 t1 t2 t0 t12 (.int .i64 0) H K
theorem f37_b2_eq (t0 : AV) (t1 : AV) (t2 : AV) (t11 : AV) (t12 : AV) (t13 : AV) (H : Heap) (K : AV → Heap → Prop) (Kb2 : List AV → Heap → Prop) : awp Try.prog f37_M f37_c2 (roundQ f37_m2 Kb2 (f37_Q2 K)) (f37_fr2 t0 t1 t2 t11 t12 t13) H = f37_b2 t0 t1 t2 t11 t12 t13 H K Kb2 := by kernel_rfl
theorem f37_loop2 {t0 : AV} {t1 : AV} {t2 : AV} {t11 : AV} {t12 : AV} {t13 : AV} {H : Heap} {K : AV → Heap → Prop} (Inv : Nat → AV → Heap → Prop) (n : Nat) (h0 : HSc H → Inv n t13 H)
    (round : ∀ n t13 H', Inv n t13 H' → HSc H' → H.length ≤ H'.length → (f37_fr2 t0 t1 t2 t11 t12 t13).all (AV.sc H'.length) = true → ∀ Kb2 : List AV → Heap → Prop, (∀ F'' H'', (∃ n', n' < n ∧ Back H.length (fun F2 H2 => ∃ t13, F2 = f37_fr2 t0 t1 t2 t11 t12 t13 ∧ Inv n' t13 H2) F'' H'') → Kb2 F'' H'') → f37_b2 t0 t1 t2 t11 t12 t13 H' K Kb2) : f37_l2 t0 t1 t2 t11 t12 t13 H K :=
  aloop (M := f37_M) f37_m2 (fun n F H => ∃ t13, F = f37_fr2 t0 t1 t2 t11 t12 t13 ∧ Inv n t13 H) n (fun hs _ => ⟨t13, rfl, h0 hs⟩) (fun n F H' ⟨t13, hF, hI⟩ h1 h2 h3 => by subst hF; rw [f37_b2_eq]; exact round n t13 H' hI h1 h2 h3 _ (fun _ _ h => h))
theorem f37_eq (t0 : AV) (t1 : AV) (t2 : AV) (H : Heap) (K : AV → Heap → Prop) : awp Try.prog f37_M f37_c (retQ Try.prog f37_r K) [t0, t1, t2, .unk, .unk, .unk, .unk, .unk, .unk, .unk, .unk, .unk, .unk, .unk, .unk, .unk, .unk, .unk, .unk, .unk, .unk, .unk, .unk, .unk, .unk, .unk, .unk, .unk, .unk, .unk, .unk, .unk, .unk, .unk, .unk, .unk, .unk, .unk, .unk] H = f37 t0 t1 t2 H K := by kernel_rfl
theorem f37_ok {t0 : AV} {t1 : AV} {t2 : AV} {H : Heap} {K : AV → Heap → Prop} (h : HSc H → f37 t0 t1 t2 H K) : ACalls Try.prog 37 [t0, t1, t2] H K :=
  acalls_body (M := f37_M) Try.func37 (c := f37_c) (by kernel_rfl) (fun hs => (f37_eq t0 t1 t2 H K).mpr (h hs))

/-! ### 38: amortcostref15.order -/
def f38_M (_ : Nat) : List Bool := []
noncomputable def f38_c : Code := Try.f38.body.getD .skip
noncomputable def f38_r : List ResultVar := Try.f38.results.toList
def f38 (t0 : AV) (H : Heap) (K : AV → Heap → Prop) : Prop :=
  aTest t0
  (K (.int .i64 (-1)) H)
  (K (.int .i64 1) H)
theorem f38_eq (t0 : AV) (H : Heap) (K : AV → Heap → Prop) : awp Try.prog f38_M f38_c (retQ Try.prog f38_r K) [t0, .unk, .unk, .unk] H = f38 t0 H K := by kernel_rfl
theorem f38_ok {t0 : AV} {H : Heap} {K : AV → Heap → Prop} (h : HSc H → f38 t0 H K) : ACalls Try.prog 38 [t0] H K :=
  acalls_body (M := f38_M) Try.func38 (c := f38_c) (by kernel_rfl) (fun hs => (f38_eq t0 H K).mpr (h hs))

/-! ### 39: amortcostref15.CompareAll -/
def f39_M : Nat → List Bool
  | 4 => [true, true, false, false, false, false, false, false, false, false, false, false, false, false, false, false, false, false, false, true, true, false, false, false, false, false, false, false, false, false, false, false, false, false, false, false]
  | _ => []
noncomputable def f39_c : Code := Try.f39.body.getD .skip
noncomputable def f39_r : List ResultVar := Try.f39.results.toList
def f39_fr4 (t0 : AV) (t1 : AV) (t19 : AV) (t20 : AV) : List AV := [t0, t1, .unk, .unk, .unk, .unk, .unk, .unk, .unk, .unk, .unk, .unk, .unk, .unk, .unk, .unk, .unk, .unk, .unk, t19, t20, .unk, .unk, .unk, .unk, .unk, .unk, .unk, .unk, .unk, .unk, .unk, .unk, .unk, .unk, .unk]
def f39_m4 : List Bool := f39_M 4
noncomputable def f39_c4 : Code := codeAt [1, 1, 0, 1, 0, 0] f39_c
def f39_Q4 (K : AV → Heap → Prop) : AExit → List AV → Heap → Prop := contAt Try.prog f39_M [1, 1, 0, 1, 0] f39_c (retQ Try.prog f39_r K)
def f39_l4 (t0 : AV) (t1 : AV) (t19 : AV) (t20 : AV) (H : Heap) (K : AV → Heap → Prop) : Prop := ALoop Try.prog f39_c4 (f39_Q4 K) (f39_fr4 t0 t1 t19 t20) H
def f39_b4 (t0 : AV) (t1 : AV) (t19 : AV) (t20 : AV) (H : Heap) (K : AV → Heap → Prop) (Kb4 : List AV → Heap → Prop) : Prop :=
  aBin .lss false t20 t19 fun t21 =>
  aTest t21
  (aPure H (fun K' => K' t0 H) fun t23 =>
  aPure H (fun K' => K' t20 H) fun t24 =>
  aPure H (fun K' => aIdxA 2 t23 t24 (K' · H)) fun t25 =>
  aPure H (fun K' => aLoad true 2 t25 H (K' · H)) fun t26 =>
  aPure H (fun K' => K' t1 H) fun t27 =>
  aPure H (fun K' => K' t20 H) fun t28 =>
  aPure H (fun K' => aIdxA 2 t27 t28 (K' · H)) fun t29 =>
  aPure H (fun K' => aLoad true 2 t29 H (K' · H)) fun t30 =>
  aPure H (fun K' => ACalls Try.prog 23 [t26, t30] H K') fun t31 =>
  aPure H (fun K' => K' t31 H) fun t6 =>
  aBin .neq false t6 (.int .i64 0) fun t33 =>
  aTest t33
  (K t6 H)
  (aBin .add false t20 (.int .i64 1) fun t35 =>
  Kb4 (f39_fr4 t0 t1 t19 t35) H))
  (K (.int .i64 0) H)
def f39 (t0 : AV) (t1 : AV) (H : Heap) (K : AV → Heap → Prop) : Prop :=
  aLen 1 t0 fun t8 =>
  aLen 1 t1 fun t10 =>
  aBin .neq false t8 t10 fun t11 =>
  aTest t11
  (aLen 1 t0 fun t13 =>
  aLen 1 t1 fun t15 =>
  aBin .lss false t13 t15 fun t16 =>
  ACalls Try.prog 38 [t16] H fun t17 H =>
  K t17 H)
  (aLen 1 t0 fun t19 =>
  f39_l4 t0 t1 t19 (.int .i64 0) H K)
theorem f39_b4_eq (t0 : AV) (t1 : AV) (t19 : AV) (t20 : AV) (H : Heap) (K : AV → Heap → Prop) (Kb4 : List AV → Heap → Prop) : awp Try.prog f39_M f39_c4 (roundQ f39_m4 Kb4 (f39_Q4 K)) (f39_fr4 t0 t1 t19 t20) H = f39_b4 t0 t1 t19 t20 H K Kb4 := by kernel_rfl
theorem f39_loop4 {t0 : AV} {t1 : AV} {t19 : AV} {t20 : AV} {H : Heap} {K : AV → Heap → Prop} (Inv : Nat → AV → Heap → Prop) (n : Nat) (h0 : HSc H → Inv n t20 H)
    (round : ∀ n t20 H', Inv n t20 H' → HSc H' → H.length ≤ H'.length → (f39_fr4 t0 t1 t19 t20).all (AV.sc H'.length) = true → ∀ Kb4 : List AV → Heap → Prop, (∀ F'' H'', (∃ n', n' < n ∧ Back H.length (fun F2 H2 => ∃ t20, F2 = f39_fr4 t0 t1 t19 t20 ∧ Inv n' t20 H2) F'' H'') → Kb4 F'' H'') → f39_b4 t0 t1 t19 t20 H' K Kb4) : f39_l4 t0 t1 t19 t20 H K :=
  aloop (M := f39_M) f39_m4 (fun n F H => ∃ t20, F = f39_fr4 t0 t1 t19 t20 ∧ Inv n t20 H) n (fun hs _ => ⟨t20, rfl, h0 hs⟩) (fun n F H' ⟨t20, hF, hI⟩ h1 h2 h3 => by subst hF; rw [f39_b4_eq]; exact round n t20 H' hI h1 h2 h3 _ (fun _ _ h => h))
theorem f39_eq (t0 : AV) (t1 : AV) (H : Heap) (K : AV → Heap → Prop) : awp Try.prog f39_M f39_c (retQ Try.prog f39_r K) [t0, t1, .unk, .unk, .unk, .unk, .unk, .unk, .unk, .unk, .unk, .unk, .unk, .unk, .unk, .unk, .unk, .unk, .unk, .unk, .unk, .unk, .unk, .unk, .unk, .unk, .unk, .unk, .unk, .unk, .unk, .unk, .unk, .unk, .unk, .unk] H = f39 t0 t1 H K := by kernel_rfl
theorem f39_ok {t0 : AV} {t1 : AV} {H : Heap} {K : AV → Heap → Prop} (h : HSc H → f39 t0 t1 H K) : ACalls Try.prog 39 [t0, t1] H K :=
  acalls_body (M := f39_M) Try.func39 (c := f39_c) (by kernel_rfl) (fun hs => (f39_eq t0 t1 H K).mpr (h hs))

/-! ### 40: amortcostkeep.SameIndices -/
def f40_M : Nat → List Bool
  | 4 => [true, true, false, false, false, false, false, false, false, false, false, false, true, true, false, false, false, false, false, false, false, false, false, false, false, false, false]
  | _ => []
noncomputable def f40_c : Code := Try.f40.body.getD .skip
noncomputable def f40_r : List ResultVar := Try.f40.results.toList
def f40_fr4 (t0 : AV) (t1 : AV) (t12 : AV) (t13 : AV) : List AV := [t0, t1, .unk, .unk, .unk, .unk, .unk, .unk, .unk, .unk, .unk, .unk, t12, t13, .unk, .unk, .unk, .unk, .unk, .unk, .unk, .unk, .unk, .unk, .unk, .unk, .unk]
def f40_m4 : List Bool := f40_M 4
noncomputable def f40_c4 : Code := codeAt [1, 1, 0, 1, 0, 0] f40_c
def f40_Q4 (K : AV → Heap → Prop) : AExit → List AV → Heap → Prop := contAt Try.prog f40_M [1, 1, 0, 1, 0] f40_c (retQ Try.prog f40_r K)
def f40_l4 (t0 : AV) (t1 : AV) (t12 : AV) (t13 : AV) (H : Heap) (K : AV → Heap → Prop) : Prop := ALoop Try.prog f40_c4 (f40_Q4 K) (f40_fr4 t0 t1 t12 t13) H
def f40_b4 (t0 : AV) (t1 : AV) (t12 : AV) (t13 : AV) (H : Heap) (K : AV → Heap → Prop) (Kb4 : List AV → Heap → Prop) : Prop :=
  aBin .lss false t13 t12 fun t14 =>
  aTest t14
  (aPure H (fun K' => K' t0 H) fun t16 =>
  aPure H (fun K' => K' t13 H) fun t17 =>
  aPure H (fun K' => aIdxA 2 t16 t17 (K' · H)) fun t18 =>
  aPure H (fun K' => aLoad true 2 t18 H (K' · H)) fun t19 =>
  aPure H (fun K' => K' t1 H) fun t20 =>
  aPure H (fun K' => K' t13 H) fun t21 =>
  aPure H (fun K' => aIdxA 2 t20 t21 (K' · H)) fun t22 =>
  aPure H (fun K' => aLoad true 2 t22 H (K' · H)) fun t23 =>
  aPure H (fun K' => ACalls Try.prog 24 [t19, t23] H K') fun t24 =>
  aPure H (fun K' => aUn .not t24 (K' · H)) fun t25 =>
  aTest t25
  (K (.bool false) H)
  (aBin .add false t13 (.int .i64 1) fun t26 =>
  Kb4 (f40_fr4 t0 t1 t12 t26) H))
  (K (.bool true) H)
def f40 (t0 : AV) (t1 : AV) (H : Heap) (K : AV → Heap → Prop) : Prop :=
  aLen 1 t0 fun t7 =>
  aLen 1 t1 fun t9 =>
  aBin .neq false t7 t9 fun t10 =>
  aTest t10
  (K (.bool false) H)
  (aLen 1 t0 fun t12 =>
  f40_l4 t0 t1 t12 (.int .i64 0) H K)
theorem f40_b4_eq (t0 : AV) (t1 : AV) (t12 : AV) (t13 : AV) (H : Heap) (K : AV → Heap → Prop) (Kb4 : List AV → Heap → Prop) : awp Try.prog f40_M f40_c4 (roundQ f40_m4 Kb4 (f40_Q4 K)) (f40_fr4 t0 t1 t12 t13) H = f40_b4 t0 t1 t12 t13 H K Kb4 := by kernel_rfl
theorem f40_loop4 {t0 : AV} {t1 : AV} {t12 : AV} {t13 : AV} {H : Heap} {K : AV → Heap → Prop} (Inv : Nat → AV → Heap → Prop) (n : Nat) (h0 : HSc H → Inv n t13 H)
    (round : ∀ n t13 H', Inv n t13 H' → HSc H' → H.length ≤ H'.length → (f40_fr4 t0 t1 t12 t13).all (AV.sc H'.length) = true → ∀ Kb4 : List AV → Heap → Prop, (∀ F'' H'', (∃ n', n' < n ∧ Back H.length (fun F2 H2 => ∃ t13, F2 = f40_fr4 t0 t1 t12 t13 ∧ Inv n' t13 H2) F'' H'') → Kb4 F'' H'') → f40_b4 t0 t1 t12 t13 H' K Kb4) : f40_l4 t0 t1 t12 t13 H K :=
  aloop (M := f40_M) f40_m4 (fun n F H => ∃ t13, F = f40_fr4 t0 t1 t12 t13 ∧ Inv n t13 H) n (fun hs _ => ⟨t13, rfl, h0 hs⟩) (fun n F H' ⟨t13, hF, hI⟩ h1 h2 h3 => by subst hF; rw [f40_b4_eq]; exact round n t13 H' hI h1 h2 h3 _ (fun _ _ h => h))
theorem f40_eq (t0 : AV) (t1 : AV) (H : Heap) (K : AV → Heap → Prop) : awp Try.prog f40_M f40_c (retQ Try.prog f40_r K) [t0, t1, .unk, .unk, .unk, .unk, .unk, .unk, .unk, .unk, .unk, .unk, .unk, .unk, .unk, .unk, .unk, .unk, .unk, .unk, .unk, .unk, .unk, .unk, .unk, .unk, .unk] H = f40 t0 t1 H K := by kernel_rfl
theorem f40_ok {t0 : AV} {t1 : AV} {H : Heap} {K : AV → Heap → Prop} (h : HSc H → f40 t0 t1 H K) : ACalls Try.prog 40 [t0, t1] H K :=
  acalls_body (M := f40_M) Try.func40 (c := f40_c) (by kernel_rfl) (fun hs => (f40_eq t0 t1 H K).mpr (h hs))

end Go.Proofs.Ytmbegappkkbfpaa
