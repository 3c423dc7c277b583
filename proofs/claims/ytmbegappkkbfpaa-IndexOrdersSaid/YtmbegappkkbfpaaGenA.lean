/- The shallow forms of functions of the program, printed by a program (absgen.py) off the translation, each tied to the model by the kernel. -/
import Derived.Test.YtmbegappkkbfpaaAbsN
import Derived.Test.YtmbegappkkbfpaaProg
import Derived.KernelRfl
namespace Go.Proofs.Ytmbegappkkbfpaa
open Go Go.Abs
set_option linter.unusedVariables false

/-! ### 4: amortcostlaw10.ValueSizes -/
def f4_M (_ : Nat) : List Bool := []
noncomputable def f4_c : Code := Try.f4.body.getD .skip
noncomputable def f4_r : List ResultVar := Try.f4.results.toList
def f4 (t0 : AV) (H : Heap) (K : AV → Heap → Prop) : Prop :=
  aBox t0 H fun t1 H =>
  aLoad true 3 t1 H fun t3 =>
  ACalls Try.prog 13 [t3] H fun t4 H =>
  aUn .not t4 fun t5 =>
  aTest t5
  (K (.bool true) H)
  (aPure H (fun K' => aLoad true 3 t1 H (K' · H)) fun t6 =>
  aPure H (fun K' => ACalls Try.prog 14 [t6] H K') fun t7 =>
  aPure H (fun K' => aLoad true 3 t1 H (K' · H)) fun t8 =>
  aPure H (fun K' => ACalls Try.prog 15 [t8] H K') fun t9 =>
  aPure H (fun K' => aBin .eql false t7 t9 (K' · H)) fun t10 =>
  aPure H (fun K' => K' t10 H) fun t11 =>
  aGuardJ t11 true H (fun K' => aPure H (fun K'' => aLoad true 3 t1 H (K'' · H)) (K' · H)) fun t12 H =>
  aGuardJ t11 true H (fun K' => aPure H (fun K'' => ACalls Try.prog 16 [t12] H K'') (K' · H)) fun t13 H =>
  aGuardJ t11 true H (fun K' => aPure H (fun K'' => aLoad true 3 t1 H (K'' · H)) (K' · H)) fun t14 H =>
  aGuardJ t11 true H (fun K' => aPure H (fun K'' => ACalls Try.prog 17 [t14] H K'') (K' · H)) fun t15 H =>
  aGuardJ t11 true H (fun K' => aPure H (fun K'' => aBin .eql false t13 t15 (K'' · H)) (K' · H)) fun t16 H =>
  aPure H (fun K' => aPick t11 t16 (.bool false) (K' · H)) fun t17 =>
  aPure H (fun K' => K' t17 H) fun t18 =>
  aGuardJ t18 true H (fun K' => aPure H (fun K'' => aLoad true 3 t1 H (K'' · H)) (K' · H)) fun t19 H =>
  aGuardJ t18 true H (fun K' => aPure H (fun K'' => ACalls Try.prog 14 [t19] H K'') (K' · H)) fun t20 H =>
  aGuardJ t18 true H (fun K' => aPure H (fun K'' => aLoad true 3 t1 H (K'' · H)) (K' · H)) fun t21 H =>
  aGuardJ t18 true H (fun K' => aPure H (fun K'' => ACalls Try.prog 16 [t21] H K'') (K' · H)) fun t22 H =>
  aGuardJ t18 true H (fun K' => aPure H (fun K'' => aBin .leq false t20 t22 (K'' · H)) (K' · H)) fun t23 H =>
  aPure H (fun K' => aPick t18 t23 (.bool false) (K' · H)) fun t24 =>
  aPure H (fun K' => K' t24 H) fun t25 =>
  aGuardJ t25 true H (fun K' => aPure H (fun K'' => aBuild [(.int .i64 0), (.int .i64 0), .snil] [(0, 1), (1, 1), (2, 1)] [(0, (.int .i64 1))] (K'' · H)) (K' · H)) fun t26 H =>
  aGuardJ t25 true H (fun K' => aPure H (fun K'' => ACalls Try.prog 16 [t26] H K'') (K' · H)) fun t27 H =>
  aGuardJ t25 true H (fun K' => aPure H (fun K'' => aBin .eql false t27 (.int .i64 1) (K'' · H)) (K' · H)) fun t28 H =>
  aPure H (fun K' => aPick t25 t28 (.bool false) (K' · H)) fun t29 =>
  aPure H (fun K' => K' t29 H) fun t2 =>
  K t2 H)
theorem f4_eq (t0 : AV) (H : Heap) (K : AV → Heap → Prop) : awp Try.prog f4_M f4_c (retQ Try.prog f4_r K) [t0, .unk, .unk, .unk, .unk, .unk, .unk, .unk, .unk, .unk, .unk, .unk, .unk, .unk, .unk, .unk, .unk, .unk, .unk, .unk, .unk, .unk, .unk, .unk, .unk, .unk, .unk, .unk, .unk, .unk] H = f4 t0 H K := by kernel_rfl
theorem f4_ok {t0 : AV} {H : Heap} {K : AV → Heap → Prop} (h : HSc H → f4 t0 H K) : ACalls Try.prog 4 [t0] H K :=
  acalls_body (M := f4_M) Try.func4 (c := f4_c) (by kernel_rfl) (fun hs => (f4_eq t0 H K).mpr (h hs))

/-! ### 13: amortcostkeep.Value -/
def f13_M (_ : Nat) : List Bool := []
noncomputable def f13_c : Code := Try.f13.body.getD .skip
noncomputable def f13_r : List ResultVar := Try.f13.results.toList
def f13 (t0 : AV) (H : Heap) (K : AV → Heap → Prop) : Prop :=
  aBox t0 H fun t1 H =>
  aNew [(.int .i64 0)] H fun t3 H =>
  aStore 1 t3 (.int .i64 400) H fun H =>
  aLoad true 3 t1 H fun t4 =>
  ACalls Try.prog 29 [t4, t3] H fun t5 H =>
  K t5 H
theorem f13_eq (t0 : AV) (H : Heap) (K : AV → Heap → Prop) : awp Try.prog f13_M f13_c (retQ Try.prog f13_r K) [t0, .unk, .unk, .unk, .unk, .unk] H = f13 t0 H K := by kernel_rfl
theorem f13_ok {t0 : AV} {H : Heap} {K : AV → Heap → Prop} (h : HSc H → f13 t0 H K) : ACalls Try.prog 13 [t0] H K :=
  acalls_body (M := f13_M) Try.func13 (c := f13_c) (by kernel_rfl) (fun hs => (f13_eq t0 H K).mpr (h hs))

/-! ### 14: value.Size -/
def f14_M : Nat → List Bool
  | 8 => [false, false, false, true, false, false, false, false, false, false, false, false, false, false, true, true, true, false, false, false, false, false, false, false, false, false]
  | _ => []
noncomputable def f14_c : Code := Try.f14.body.getD .skip
noncomputable def f14_r : List ResultVar := Try.f14.results.toList
def f14_fr8 (t3 : AV) (t14 : AV) (t15 : AV) (t16 : AV) : List AV := [.unk, .unk, .unk, t3, .unk, .unk, .unk, .unk, .unk, .unk, .unk, .unk, .unk, .unk, t14, t15, t16, .unk, .unk, .unk, .unk, .unk, .unk, .unk, .unk, .unk]
def f14_m8 : List Bool := f14_M 8
noncomputable def f14_c8 : Code := codeAt [1, 1, 1, 0, 1, 0, 0] f14_c
def f14_Q8 (K : AV → Heap → Prop) : AExit → List AV → Heap → Prop := contAt Try.prog f14_M [1, 1, 1, 0, 1, 0] f14_c (retQ Try.prog f14_r K)
def f14_l8 (t3 : AV) (t14 : AV) (t15 : AV) (t16 : AV) (H : Heap) (K : AV → Heap → Prop) : Prop := ALoop Try.prog f14_c8 (f14_Q8 K) (f14_fr8 t3 t14 t15 t16) H
def f14_b8 (t3 : AV) (t14 : AV) (t15 : AV) (t16 : AV) (H : Heap) (K : AV → Heap → Prop) (Kb8 : List AV → Heap → Prop) : Prop :=
  aBin .lss false t16 t15 fun t17 =>
  aTest t17
  (aIdxA 3 t14 t16 fun t18 =>
  aLoad true 3 t18 H fun t19 =>
  aNew [(.int .i64 0), (.int .i64 0), .snil] H fun t5 H =>
  aStore 3 t5 t19 H fun H =>
  aLoad true 3 t5 H fun t21 =>
  ACalls Try.prog 14 [t21] H fun t22 H =>
  aBin .add false t3 t22 fun t23 =>
  aBin .add false t16 (.int .i64 1) fun t24 =>
  Kb8 (f14_fr8 t23 t14 t15 t24) H)
  (K t3 H)
def f14_j1 (t1 : AV) (t3 : AV) (t8 : AV) (H : Heap) (K : AV → Heap → Prop) : Prop :=
  aTest t8
  (K t3 H)
  (aFld 2 t1 fun t13 =>
  aLoad false 1 t13 H fun t14 =>
  aLen 1 t14 fun t15 =>
  f14_l8 t3 t14 t15 (.int .i64 0) H K)
def f14 (t0 : AV) (H : Heap) (K : AV → Heap → Prop) : Prop :=
  aBox t0 H fun t1 H =>
  aFld 0 t1 fun t6 =>
  aLoad false 1 t6 H fun t7 =>
  aBin .eql false t7 (.int .i64 6) fun t9 =>
  aTest t9
  (f14_j1 t1 (.int .i64 1) t9 H K)
  (aBin .eql false t7 (.int .i64 7) fun t10 =>
  aTest t10
  (f14_j1 t1 (.int .i64 1) t10 H K)
  (aBin .eql false t7 (.int .i64 8) fun t11 =>
  f14_j1 t1 (.int .i64 1) t11 H K))
theorem f14_b8_eq (t3 : AV) (t14 : AV) (t15 : AV) (t16 : AV) (H : Heap) (K : AV → Heap → Prop) (Kb8 : List AV → Heap → Prop) : awp Try.prog f14_M f14_c8 (roundQ f14_m8 Kb8 (f14_Q8 K)) (f14_fr8 t3 t14 t15 t16) H = f14_b8 t3 t14 t15 t16 H K Kb8 := by kernel_rfl
theorem f14_loop8 {t3 : AV} {t14 : AV} {t15 : AV} {t16 : AV} {H : Heap} {K : AV → Heap → Prop} (Inv : Nat → AV → AV → Heap → Prop) (n : Nat) (h0 : HSc H → Inv n t3 t16 H)
    (round : ∀ n t3 t16 H', Inv n t3 t16 H' → HSc H' → H.length ≤ H'.length → (f14_fr8 t3 t14 t15 t16).all (AV.sc H'.length) = true → ∀ Kb8 : List AV → Heap → Prop, (∀ F'' H'', (∃ n', n' < n ∧ Back H.length (fun F2 H2 => ∃ t3 t16, F2 = f14_fr8 t3 t14 t15 t16 ∧ Inv n' t3 t16 H2) F'' H'') → Kb8 F'' H'') → f14_b8 t3 t14 t15 t16 H' K Kb8) : f14_l8 t3 t14 t15 t16 H K :=
  aloop (M := f14_M) f14_m8 (fun n F H => ∃ t3 t16, F = f14_fr8 t3 t14 t15 t16 ∧ Inv n t3 t16 H) n (fun hs _ => ⟨t3, t16, rfl, h0 hs⟩) (fun n F H' ⟨t3, t16, hF, hI⟩ h1 h2 h3 => by subst hF; rw [f14_b8_eq]; exact round n t3 t16 H' hI h1 h2 h3 _ (fun _ _ h => h))
theorem f14_eq (t0 : AV) (H : Heap) (K : AV → Heap → Prop) : awp Try.prog f14_M f14_c (retQ Try.prog f14_r K) [t0, .unk, .unk, .unk, .unk, .unk, .unk, .unk, .unk, .unk, .unk, .unk, .unk, .unk, .unk, .unk, .unk, .unk, .unk, .unk, .unk, .unk, .unk, .unk, .unk, .unk] H = f14 t0 H K := by kernel_rfl
theorem f14_ok {t0 : AV} {H : Heap} {K : AV → Heap → Prop} (h : HSc H → f14 t0 H K) : ACalls Try.prog 14 [t0] H K :=
  acalls_body (M := f14_M) Try.func14 (c := f14_c) (by kernel_rfl) (fun hs => (f14_eq t0 H K).mpr (h hs))

/-! ### 15: amortcostref10.Size -/
def f15_M : Nat → List Bool
  | 5 => [false, false, false, true, false, false, false, false, false, false, false, false, false, false, false, false, false, false, false, false, false, true, true, true, false, false, false, false, false, false, false, false, false]
  | _ => []
noncomputable def f15_c : Code := Try.f15.body.getD .skip
noncomputable def f15_r : List ResultVar := Try.f15.results.toList
def f15_fr5 (t3 : AV) (t21 : AV) (t22 : AV) (t23 : AV) : List AV := [.unk, .unk, .unk, t3, .unk, .unk, .unk, .unk, .unk, .unk, .unk, .unk, .unk, .unk, .unk, .unk, .unk, .unk, .unk, .unk, .unk, t21, t22, t23, .unk, .unk, .unk, .unk, .unk, .unk, .unk, .unk, .unk]
def f15_m5 : List Bool := f15_M 5
noncomputable def f15_c5 : Code := codeAt [1, 1, 1, 0, 1, 0, 0] f15_c
def f15_Q5 (K : AV → Heap → Prop) : AExit → List AV → Heap → Prop := contAt Try.prog f15_M [1, 1, 1, 0, 1, 0] f15_c (retQ Try.prog f15_r K)
def f15_l5 (t3 : AV) (t21 : AV) (t22 : AV) (t23 : AV) (H : Heap) (K : AV → Heap → Prop) : Prop := ALoop Try.prog f15_c5 (f15_Q5 K) (f15_fr5 t3 t21 t22 t23) H
def f15_b5 (t3 : AV) (t21 : AV) (t22 : AV) (t23 : AV) (H : Heap) (K : AV → Heap → Prop) (Kb5 : List AV → Heap → Prop) : Prop :=
  aBin .lss false t23 t22 fun t24 =>
  aTest t24
  (aIdxA 3 t21 t23 fun t25 =>
  aLoad true 3 t25 H fun t26 =>
  aNew [(.int .i64 0), (.int .i64 0), .snil] H fun t5 H =>
  aStore 3 t5 t26 H fun H =>
  aLoad true 3 t5 H fun t28 =>
  ACalls Try.prog 15 [t28] H fun t29 H =>
  aBin .add false t3 t29 fun t30 =>
  aBin .add false t23 (.int .i64 1) fun t31 =>
  Kb5 (f15_fr5 t30 t21 t22 t31) H)
  (K t3 H)
def f15 (t0 : AV) (H : Heap) (K : AV → Heap → Prop) : Prop :=
  aBox t0 H fun t1 H =>
  aFld 0 t1 fun t6 =>
  aLoad false 1 t6 H fun t7 =>
  aBin .eql false t7 (.int .i64 6) fun t8 =>
  aGuardJ t8 false H (fun K' => aFld 0 t1 (K' · H)) fun t10 H =>
  aGuardJ t8 false H (fun K' => aLoad false 1 t10 H (K' · H)) fun t11 H =>
  aGuardJ t8 false H (fun K' => aBin .eql false t11 (.int .i64 7) (K' · H)) fun t12 H =>
  aPick t8 (.bool true) t12 fun t13 =>
  aGuardJ t13 false H (fun K' => aFld 0 t1 (K' · H)) fun t15 H =>
  aGuardJ t13 false H (fun K' => aLoad false 1 t15 H (K' · H)) fun t16 H =>
  aGuardJ t13 false H (fun K' => aBin .eql false t16 (.int .i64 8) (K' · H)) fun t17 H =>
  aPick t13 (.bool true) t17 fun t18 =>
  aTest t18
  (K (.int .i64 1) H)
  (aFld 2 t1 fun t20 =>
  aLoad false 1 t20 H fun t21 =>
  aLen 1 t21 fun t22 =>
  f15_l5 (.int .i64 1) t21 t22 (.int .i64 0) H K)
theorem f15_b5_eq (t3 : AV) (t21 : AV) (t22 : AV) (t23 : AV) (H : Heap) (K : AV → Heap → Prop) (Kb5 : List AV → Heap → Prop) : awp Try.prog f15_M f15_c5 (roundQ f15_m5 Kb5 (f15_Q5 K)) (f15_fr5 t3 t21 t22 t23) H = f15_b5 t3 t21 t22 t23 H K Kb5 := by kernel_rfl
theorem f15_loop5 {t3 : AV} {t21 : AV} {t22 : AV} {t23 : AV} {H : Heap} {K : AV → Heap → Prop} (Inv : Nat → AV → AV → Heap → Prop) (n : Nat) (h0 : HSc H → Inv n t3 t23 H)
    (round : ∀ n t3 t23 H', Inv n t3 t23 H' → HSc H' → H.length ≤ H'.length → (f15_fr5 t3 t21 t22 t23).all (AV.sc H'.length) = true → ∀ Kb5 : List AV → Heap → Prop, (∀ F'' H'', (∃ n', n' < n ∧ Back H.length (fun F2 H2 => ∃ t3 t23, F2 = f15_fr5 t3 t21 t22 t23 ∧ Inv n' t3 t23 H2) F'' H'') → Kb5 F'' H'') → f15_b5 t3 t21 t22 t23 H' K Kb5) : f15_l5 t3 t21 t22 t23 H K :=
  aloop (M := f15_M) f15_m5 (fun n F H => ∃ t3 t23, F = f15_fr5 t3 t21 t22 t23 ∧ Inv n t3 t23 H) n (fun hs _ => ⟨t3, t23, rfl, h0 hs⟩) (fun n F H' ⟨t3, t23, hF, hI⟩ h1 h2 h3 => by subst hF; rw [f15_b5_eq]; exact round n t3 t23 H' hI h1 h2 h3 _ (fun _ _ h => h))
theorem f15_eq (t0 : AV) (H : Heap) (K : AV → Heap → Prop) : awp Try.prog f15_M f15_c (retQ Try.prog f15_r K) [t0, .unk, .unk, .unk, .unk, .unk, .unk, .unk, .unk, .unk, .unk, .unk, .unk, .unk, .unk, .unk, .unk, .unk, .unk, .unk, .unk, .unk, .unk, .unk, .unk, .unk, .unk, .unk, .unk, .unk, .unk, .unk, .unk] H = f15 t0 H K := by kernel_rfl
theorem f15_ok {t0 : AV} {H : Heap} {K : AV → Heap → Prop} (h : HSc H → f15 t0 H K) : ACalls Try.prog 15 [t0] H K :=
  acalls_body (M := f15_M) Try.func15 (c := f15_c) (by kernel_rfl) (fun hs => (f15_eq t0 H K).mpr (h hs))

/-! ### 16: value.Nodes -/
def f16_M : Nat → List Bool
  | 3 => [false, false, false, true, false, false, false, true, true, true, false, false, false, false, false, false, false, false, false]
  | _ => []
noncomputable def f16_c : Code := Try.f16.body.getD .skip
noncomputable def f16_r : List ResultVar := Try.f16.results.toList
def f16_fr3 (t3 : AV) (t7 : AV) (t8 : AV) (t9 : AV) : List AV := [.unk, .unk, .unk, t3, .unk, .unk, .unk, t7, t8, t9, .unk, .unk, .unk, .unk, .unk, .unk, .unk, .unk, .unk]
def f16_m3 : List Bool := f16_M 3
noncomputable def f16_c3 : Code := codeAt [1, 1, 0, 1, 0, 0] f16_c
def f16_Q3 (K : AV → Heap → Prop) : AExit → List AV → Heap → Prop := contAt Try.prog f16_M [1, 1, 0, 1, 0] f16_c (retQ Try.prog f16_r K)
def f16_l3 (t3 : AV) (t7 : AV) (t8 : AV) (t9 : AV) (H : Heap) (K : AV → Heap → Prop) : Prop := ALoop Try.prog f16_c3 (f16_Q3 K) (f16_fr3 t3 t7 t8 t9) H
def f16_b3 (t3 : AV) (t7 : AV) (t8 : AV) (t9 : AV) (H : Heap) (K : AV → Heap → Prop) (Kb3 : List AV → Heap → Prop) : Prop :=
  aBin .lss false t9 t8 fun t10 =>
  aTest t10
  (aIdxA 3 t7 t9 fun t11 =>
  aLoad true 3 t11 H fun t12 =>
  aNew [(.int .i64 0), (.int .i64 0), .snil] H fun t5 H =>
  aStore 3 t5 t12 H fun H =>
  aLoad true 3 t5 H fun t14 =>
  ACalls Try.prog 16 [t14] H fun t15 H =>
  aBin .add false t3 t15 fun t16 =>
  aBin .add false t9 (.int .i64 1) fun t17 =>
  Kb3 (f16_fr3 t16 t7 t8 t17) H)
  (K t3 H)
def f16 (t0 : AV) (H : Heap) (K : AV → Heap → Prop) : Prop :=
  aBox t0 H fun t1 H =>
  aFld 2 t1 fun t6 =>
  aLoad false 1 t6 H fun t7 =>
  aLen 1 t7 fun t8 =>
  f16_l3 (.int .i64 1) t7 t8 (.int .i64 0) H K
theorem f16_b3_eq (t3 : AV) (t7 : AV) (t8 : AV) (t9 : AV) (H : Heap) (K : AV → Heap → Prop) (Kb3 : List AV → Heap → Prop) : awp Try.prog f16_M f16_c3 (roundQ f16_m3 Kb3 (f16_Q3 K)) (f16_fr3 t3 t7 t8 t9) H = f16_b3 t3 t7 t8 t9 H K Kb3 := by kernel_rfl
theorem f16_loop3 {t3 : AV} {t7 : AV} {t8 : AV} {t9 : AV} {H : Heap} {K : AV → Heap → Prop} (Inv : Nat → AV → AV → Heap → Prop) (n : Nat) (h0 : HSc H → Inv n t3 t9 H)
    (round : ∀ n t3 t9 H', Inv n t3 t9 H' → HSc H' → H.length ≤ H'.length → (f16_fr3 t3 t7 t8 t9).all (AV.sc H'.length) = true → ∀ Kb3 : List AV → Heap → Prop, (∀ F'' H'', (∃ n', n' < n ∧ Back H.length (fun F2 H2 => ∃ t3 t9, F2 = f16_fr3 t3 t7 t8 t9 ∧ Inv n' t3 t9 H2) F'' H'') → Kb3 F'' H'') → f16_b3 t3 t7 t8 t9 H' K Kb3) : f16_l3 t3 t7 t8 t9 H K :=
  aloop (M := f16_M) f16_m3 (fun n F H => ∃ t3 t9, F = f16_fr3 t3 t7 t8 t9 ∧ Inv n t3 t9 H) n (fun hs _ => ⟨t3, t9, rfl, h0 hs⟩) (fun n F H' ⟨t3, t9, hF, hI⟩ h1 h2 h3 => by subst hF; rw [f16_b3_eq]; exact round n t3 t9 H' hI h1 h2 h3 _ (fun _ _ h => h))
theorem f16_eq (t0 : AV) (H : Heap) (K : AV → Heap → Prop) : awp Try.prog f16_M f16_c (retQ Try.prog f16_r K) [t0, .unk, .unk, .unk, .unk, .unk, .unk, .unk, .unk, .unk, .unk, .unk, .unk, .unk, .unk, .unk, .unk, .unk, .unk] H = f16 t0 H K := by kernel_rfl
theorem f16_ok {t0 : AV} {H : Heap} {K : AV → Heap → Prop} (h : HSc H → f16 t0 H K) : ACalls Try.prog 16 [t0] H K :=
  acalls_body (M := f16_M) Try.func16 (c := f16_c) (by kernel_rfl) (fun hs => (f16_eq t0 H K).mpr (h hs))

/-! ### 17: amortcostref10.Nodes -/
def f17_M : Nat → List Bool
  | 3 => [false, false, false, true, false, false, false, true, true, true, false, false, false, false, false, false, false, false, false]
  | _ => []
noncomputable def f17_c : Code := Try.f17.body.getD .skip
noncomputable def f17_r : List ResultVar := Try.f17.results.toList
def f17_fr3 (t3 : AV) (t7 : AV) (t8 : AV) (t9 : AV) : List AV := [.unk, .unk, .unk, t3, .unk, .unk, .unk, t7, t8, t9, .unk, .unk, .unk, .unk, .unk, .unk, .unk, .unk, .unk]
def f17_m3 : List Bool := f17_M 3
noncomputable def f17_c3 : Code := codeAt [1, 1, 0, 1, 0, 0] f17_c
def f17_Q3 (K : AV → Heap → Prop) : AExit → List AV → Heap → Prop := contAt Try.prog f17_M [1, 1, 0, 1, 0] f17_c (retQ Try.prog f17_r K)
def f17_l3 (t3 : AV) (t7 : AV) (t8 : AV) (t9 : AV) (H : Heap) (K : AV → Heap → Prop) : Prop := ALoop Try.prog f17_c3 (f17_Q3 K) (f17_fr3 t3 t7 t8 t9) H
def f17_b3 (t3 : AV) (t7 : AV) (t8 : AV) (t9 : AV) (H : Heap) (K : AV → Heap → Prop) (Kb3 : List AV → Heap → Prop) : Prop :=
  aBin .lss false t9 t8 fun t10 =>
  aTest t10
  (aIdxA 3 t7 t9 fun t11 =>
  aLoad true 3 t11 H fun t12 =>
  aNew [(.int .i64 0), (.int .i64 0), .snil] H fun t5 H =>
  aStore 3 t5 t12 H fun H =>
  aLoad true 3 t5 H fun t14 =>
  ACalls Try.prog 17 [t14] H fun t15 H =>
  aBin .add false t3 t15 fun t16 =>
  aBin .add false t9 (.int .i64 1) fun t17 =>
  Kb3 (f17_fr3 t16 t7 t8 t17) H)
  (K t3 H)
def f17 (t0 : AV) (H : Heap) (K : AV → Heap → Prop) : Prop :=
  aBox t0 H fun t1 H =>
  aFld 2 t1 fun t6 =>
  aLoad false 1 t6 H fun t7 =>
  aLen 1 t7 fun t8 =>
  f17_l3 (.int .i64 1) t7 t8 (.int .i64 0) H K
theorem f17_b3_eq (t3 : AV) (t7 : AV) (t8 : AV) (t9 : AV) (H : Heap) (K : AV → Heap → Prop) (Kb3 : List AV → Heap → Prop) : awp Try.prog f17_M f17_c3 (roundQ f17_m3 Kb3 (f17_Q3 K)) (f17_fr3 t3 t7 t8 t9) H = f17_b3 t3 t7 t8 t9 H K Kb3 := by kernel_rfl
theorem f17_loop3 {t3 : AV} {t7 : AV} {t8 : AV} {t9 : AV} {H : Heap} {K : AV → Heap → Prop} (Inv : Nat → AV → AV → Heap → Prop) (n : Nat) (h0 : HSc H → Inv n t3 t9 H)
    (round : ∀ n t3 t9 H', Inv n t3 t9 H' → HSc H' → H.length ≤ H'.length → (f17_fr3 t3 t7 t8 t9).all (AV.sc H'.length) = true → ∀ Kb3 : List AV → Heap → Prop, (∀ F'' H'', (∃ n', n' < n ∧ Back H.length (fun F2 H2 => ∃ t3 t9, F2 = f17_fr3 t3 t7 t8 t9 ∧ Inv n' t3 t9 H2) F'' H'') → Kb3 F'' H'') → f17_b3 t3 t7 t8 t9 H' K Kb3) : f17_l3 t3 t7 t8 t9 H K :=
  aloop (M := f17_M) f17_m3 (fun n F H => ∃ t3 t9, F = f17_fr3 t3 t7 t8 t9 ∧ Inv n t3 t9 H) n (fun hs _ => ⟨t3, t9, rfl, h0 hs⟩) (fun n F H' ⟨t3, t9, hF, hI⟩ h1 h2 h3 => by subst hF; rw [f17_b3_eq]; exact round n t3 t9 H' hI h1 h2 h3 _ (fun _ _ h => h))
theorem f17_eq (t0 : AV) (H : Heap) (K : AV → Heap → Prop) : awp Try.prog f17_M f17_c (retQ Try.prog f17_r K) [t0, .unk, .unk, .unk, .unk, .unk, .unk, .unk, .unk, .unk, .unk, .unk, .unk, .unk, .unk, .unk, .unk, .unk, .unk] H = f17 t0 H K := by kernel_rfl
theorem f17_ok {t0 : AV} {H : Heap} {K : AV → Heap → Prop} (h : HSc H → f17 t0 H K) : ACalls Try.prog 17 [t0] H K :=
  acalls_body (M := f17_M) Try.func17 (c := f17_c) (by kernel_rfl) (fun hs => (f17_eq t0 H K).mpr (h hs))

/-! ### 29: amortcostkeep.val -/
def f29_M : Nat → List Bool
  | 5 => [false, true, true, false, false, true, false, false, false, false, false, false, false, false, false, false, false, false, false, false, false, false, false, false, false, false, false, false, false, false]
  | _ => []
noncomputable def f29_c : Code := Try.f29.body.getD .skip
noncomputable def f29_r : List ResultVar := Try.f29.results.toList
def f29_fr5 (t1 : AV) (t2 : AV) (t5 : AV) : List AV := [.unk, t1, t2, .unk, .unk, t5, .unk, .unk, .unk, .unk, .unk, .unk, .unk, .unk, .unk, .unk, .unk, .unk, .unk, .unk, .unk, .unk, .unk, .unk, .unk, .unk, .unk, .unk, .unk, .unk]
def f29_m5 : List Bool := f29_M 5
noncomputable def f29_c5 : Code := codeAt [1, 1, 1, 0, 1, 0, 0] f29_c
def f29_Q5 (K : AV → Heap → Prop) : AExit → List AV → Heap → Prop := contAt Try.prog f29_M [1, 1, 1, 0, 1, 0] f29_c (retQ Try.prog f29_r K)
def f29_l5 (t1 : AV) (t2 : AV) (t5 : AV) (H : Heap) (K : AV → Heap → Prop) : Prop := ALoop Try.prog f29_c5 (f29_Q5 K) (f29_fr5 t1 t2 t5) H
def f29_b5 (t1 : AV) (t2 : AV) (t5 : AV) (H : Heap) (K : AV → Heap → Prop) (Kb5 : List AV → Heap → Prop) : Prop :=
  aFld 2 t2 fun t16 =>
  aLoad false 1 t16 H fun t17 =>
  aLen 1 t17 fun t18 =>
  aBin .lss false t5 t18 fun t19 =>
  aTest t19
  (aFld 2 t2 fun t22 =>
  aLoad false 1 t22 H fun t23 =>
  aIdxA 3 t23 t5 fun t25 =>
  aLoad true 3 t25 H fun t26 =>
  ACalls Try.prog 29 [t26, t1] H fun t28 H =>
  aUn .not t28 fun t29 =>
  aTest t29
  (K (.bool false) H)
  (aBin .add false t5 (.int .i64 1) fun t21 =>
  Kb5 (f29_fr5 t1 t2 t21) H))
  (K (.bool true) H)
def f29 (t0 : AV) (t1 : AV) (H : Heap) (K : AV → Heap → Prop) : Prop :=
  aBox t0 H fun t2 H =>
  aNil t1 fun t7 =>
  aLoad false 1 t7 H fun t8 =>
  aBin .sub false t8 (.int .i64 1) fun t9 =>
  aNil t1 fun t10 =>
  aStore 1 t10 t9 H fun H =>
  aNil t1 fun t12 =>
  aLoad false 1 t12 H fun t13 =>
  aBin .lss false t13 (.int .i64 0) fun t14 =>
  aTest t14
  (K (.bool false) H)
  (f29_l5 t1 t2 (.int .i64 0) H K)
theorem f29_b5_eq (t1 : AV) (t2 : AV) (t5 : AV) (H : Heap) (K : AV → Heap → Prop) (Kb5 : List AV → Heap → Prop) : awp Try.prog f29_M f29_c5 (roundQ f29_m5 Kb5 (f29_Q5 K)) (f29_fr5 t1 t2 t5) H = f29_b5 t1 t2 t5 H K Kb5 := by kernel_rfl
theorem f29_loop5 {t1 : AV} {t2 : AV} {t5 : AV} {H : Heap} {K : AV → Heap → Prop} (Inv : Nat → AV → Heap → Prop) (n : Nat) (h0 : HSc H → Inv n t5 H)
    (round : ∀ n t5 H', Inv n t5 H' → HSc H' → H.length ≤ H'.length → (f29_fr5 t1 t2 t5).all (AV.sc H'.length) = true → ∀ Kb5 : List AV → Heap → Prop, (∀ F'' H'', (∃ n', n' < n ∧ Back H.length (fun F2 H2 => ∃ t5, F2 = f29_fr5 t1 t2 t5 ∧ Inv n' t5 H2) F'' H'') → Kb5 F'' H'') → f29_b5 t1 t2 t5 H' K Kb5) : f29_l5 t1 t2 t5 H K :=
  aloop (M := f29_M) f29_m5 (fun n F H => ∃ t5, F = f29_fr5 t1 t2 t5 ∧ Inv n t5 H) n (fun hs _ => ⟨t5, rfl, h0 hs⟩) (fun n F H' ⟨t5, hF, hI⟩ h1 h2 h3 => by subst hF; rw [f29_b5_eq]; exact round n t5 H' hI h1 h2 h3 _ (fun _ _ h => h))
theorem f29_eq (t0 : AV) (t1 : AV) (H : Heap) (K : AV → Heap → Prop) : awp Try.prog f29_M f29_c (retQ Try.prog f29_r K) [t0, t1, .unk, .unk, .unk, .unk, .unk, .unk, .unk, .unk, .unk, .unk, .unk, .unk, .unk, .unk, .unk, .unk, .unk, .unk, .unk, .unk, .unk, .unk, .unk, .unk, .unk, .unk, .unk, .unk] H = f29 t0 t1 H K := by kernel_rfl
theorem f29_ok {t0 : AV} {t1 : AV} {H : Heap} {K : AV → Heap → Prop} (h : HSc H → f29 t0 t1 H K) : ACalls Try.prog 29 [t0, t1] H K :=
  acalls_body (M := f29_M) Try.func29 (c := f29_c) (by kernel_rfl) (fun hs => (f29_eq t0 t1 H K).mpr (h hs))

end Go.Proofs.Ytmbegappkkbfpaa
