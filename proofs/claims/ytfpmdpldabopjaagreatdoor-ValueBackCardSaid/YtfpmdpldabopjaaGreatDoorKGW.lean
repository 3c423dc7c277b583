/- The shallow forms of functions of the program, printed by a program (absgen.py) off the translation, each tied to the model by the kernel. -/
import Derived.Test.YtfpmdpldabopjaaGreatDoorKNum
import Derived.Test.YtfpmdpldabopjaaGreatDoorProg
import Derived.KernelRfl
namespace Go.Proofs.YtfpmdpldabopjaaGreatDoor
open Go Go.Abs
set_option linter.unusedVariables false
set_option maxRecDepth 100000
/-! ### 4: amortcostlaw10.ValueFormats -/
/-! ### 22: amortcostref10.Format -/
/-! ### 59: amortcostref10.format -/
/-! ### 102: value.writeAll -/
def value_writeAll_M : Nat → List Bool
  | 1 => rl false [0,2,1,1,6,3,16]
  | 200005 => rl false [0,3]
  | _ => []
noncomputable def value_writeAll_c : Code := Tryz.f102.body.getD .skip
noncomputable def value_writeAll_r : List ResultVar := Tryz.f102.results.toList
def value_writeAll_fr1 (t0 t1 t3 t10 t11 t12 : AV) : List AV := t0 :: t1 :: ux 1 (t3 :: ux 6 (t10 :: t11 :: t12 :: ux 16 []))
def value_writeAll_m1 : List Bool := value_writeAll_M 1
noncomputable def value_writeAll_c1 : Code := codeAt [1, 0, 0] value_writeAll_c
def value_writeAll_Q1 (K : Kt) : AExit → List AV → Heap → Prop := contAt Tryz.prog value_writeAll_M [1, 0] value_writeAll_c (retQ Tryz.prog value_writeAll_r K)
def value_writeAll_l1 (t0 t1 t3 t10 t11 t12 : AV) (H : Heap) (K : Kt) : Prop := ALoop Tryz.prog value_writeAll_c1 (value_writeAll_Q1 K) (value_writeAll_fr1 t0 t1 t3 t10 t11 t12) H
def value_writeAll_j1 (t0 t1 t3 t8 t9 t10 t11 t12 : AV) (H : Heap) (K : Kt) (Kb1 : Lt) : Prop :=
  aPure H (fun K' => K' t0 H) fun t21 =>
  aPure H (fun K' => K' t1 H) fun t22 =>
  aPure H (fun K' => aLoadC true 3 t9 H (K' · H)) fun t23 =>
  aPure H (fun K' => K' t3 H) fun t24 =>
  aPure H (fun K' => K' t8 H) fun t25 =>
  aPureX H (fun H K' => aCallV Tryz.prog t24 [t25] H K') fun t26 =>
  aDet .c false H (fun K' => ACalls Tryz.prog n_value_write [t21, t22, t23, t26] H K') fun t27 H =>
  aBin .add false t12 (.int .i64 1) fun t28 =>
  Kb1 (value_writeAll_fr1 t0 t1 t3 t10 t11 t28) H
def value_writeAll_b1 (t0 t1 t3 t10 t11 t12 : AV) (H : Heap) (K : Kt) (Kb1 : Lt) : Prop :=
  aBin .lss false t12 t11 fun t13 =>
  aTest t13
  (aIdxA 3 t10 t12 fun t15 =>
  aLoad true 3 t15 H fun t16 =>
  aNew [(.int .i64 0), (.int .i64 0), .snil] H fun t9 H =>
  aStore 3 t9 t16 H fun H =>
  aBin .gtr false t12 (.int .i64 0) fun t18 =>
  aTest t18
  (ACalls Tryz.prog n_strings_Builder_WriteString [t0, (.str [44, 32])] H fun t20 H =>
  value_writeAll_j1 t0 t1 t3 t12 t9 t10 t11 t12 H K Kb1)
  (value_writeAll_j1 t0 t1 t3 t12 t9 t10 t11 t12 H K Kb1))
  (aRet [] (K · H))
def value_writeAll (t0 t1 t2 t3 : AV) (H : Heap) (K : Kt) : Prop :=
  aLen 1 t2 fun t11 =>
  value_writeAll_l1 t0 t1 t3 t2 t11 (.int .i64 0) H K
theorem value_writeAll_b1_eq (t0 t1 t3 t10 t11 t12 : AV) (H : Heap) (K : Kt) (Kb1 : Lt) : awp Tryz.prog value_writeAll_M value_writeAll_c1 (roundQ value_writeAll_m1 Kb1 (value_writeAll_Q1 K)) (value_writeAll_fr1 t0 t1 t3 t10 t11 t12) H = value_writeAll_b1 t0 t1 t3 t10 t11 t12 H K Kb1 := by kernel_rfl
theorem value_writeAll_loop1 {t0 t1 t3 t10 t11 t12 : AV} {H : Heap} {K : Kt} (Inv : Nat → AV → Heap → Prop) (n : Nat) (h0 : HSc H → Inv n t12 H)
    (round : ∀ n t12 H', Inv n t12 H' → HSc H' → H.length ≤ H'.length → (value_writeAll_fr1 t0 t1 t3 t10 t11 t12).all (AV.sc H'.length) = true → ∀ Kb1 : Lt, (∀ F'' H'', (∃ n', n' < n ∧ Back H.length (fun F2 H2 => ∃ t12, F2 = value_writeAll_fr1 t0 t1 t3 t10 t11 t12 ∧ Inv n' t12 H2) F'' H'') → Kb1 F'' H'') → value_writeAll_b1 t0 t1 t3 t10 t11 t12 H' K Kb1) : value_writeAll_l1 t0 t1 t3 t10 t11 t12 H K :=
  aloop (M := value_writeAll_M) value_writeAll_m1 (fun n F H => ∃ t12, F = value_writeAll_fr1 t0 t1 t3 t10 t11 t12 ∧ Inv n t12 H) n (fun hs _ => ⟨t12, rfl, h0 hs⟩) (fun n F H' ⟨t12, hF, hI⟩ h1 h2 h3 => by subst hF; rw [value_writeAll_b1_eq]; exact round n t12 H' hI h1 h2 h3 _ (fun _ _ h => h))
theorem value_writeAll_eq (t0 t1 t2 t3 : AV) (H : Heap) (K : Kt) : awp Tryz.prog value_writeAll_M value_writeAll_c (retQ Tryz.prog value_writeAll_r K) (t0 :: t1 :: t2 :: t3 :: List.replicate 25 .unk) H = value_writeAll t0 t1 t2 t3 H K := by kernel_rfl
theorem value_writeAll_ok {t0 t1 t2 t3 : AV} {H : Heap} {K : Kt} (h : HSc H → value_writeAll t0 t1 t2 t3 H K) : ACalls Tryz.prog n_value_writeAll [t0, t1, t2, t3] H K :=
  acalls_body (M := value_writeAll_M) Tryz.func102 (c := value_writeAll_c) (by kernel_rfl) (fun hs => (value_writeAll_eq t0 t1 t2 t3 H K).mpr (h hs))
/-! ### 103: value.write$1 -/
def value_write_1_M (_ : Nat) : List Bool := []
noncomputable def value_write_1_c : Code := Tryz.f103.body.getD .skip
noncomputable def value_write_1_r : List ResultVar := Tryz.f103.results.toList
def value_write_1 (t0 t1 : AV) (H : Heap) (K : Kt) : Prop :=
  aNew [(.int .i64 0), (.int .i64 0), .snil] H fun t3 H =>
  aFld 2 t1 fun t4 =>
  aLoad false 1 t4 H fun t5 =>
  aIdxA 3 t5 t0 fun t7 =>
  aLoad true 3 t7 H fun t8 =>
  aStore 3 t3 t8 H fun H =>
  aLoad true 3 t3 H fun r0 =>
  K r0 H
theorem value_write_1_eq (t0 t1 : AV) (H : Heap) (K : Kt) : awp Tryz.prog value_write_1_M value_write_1_c (retQ Tryz.prog value_write_1_r K) (t0 :: t1 :: List.replicate 7 .unk) H = value_write_1 t0 t1 H K := by kernel_rfl
theorem value_write_1_ok {t0 t1 : AV} {H : Heap} {K : Kt} (h : HSc H → value_write_1 t0 t1 H K) : ACalls Tryz.prog n_value_write_1 [t0, t1] H K :=
  acalls_body (M := value_write_1_M) Tryz.func103 (c := value_write_1_c) (by kernel_rfl) (fun hs => (value_write_1_eq t0 t1 H K).mpr (h hs))
/-! ### 104: value.write$2 -/
def value_write_2_M (_ : Nat) : List Bool := []
noncomputable def value_write_2_c : Code := Tryz.f104.body.getD .skip
noncomputable def value_write_2_r : List ResultVar := Tryz.f104.results.toList
def value_write_2 (t0 t1 : AV) (H : Heap) (K : Kt) : Prop :=
  aNew [(.int .i64 0), (.int .i64 0), .snil] H fun t3 H =>
  aLoad false 1 t1 H fun t4 =>
  aIdxA 3 t4 t0 fun t6 =>
  aLoad true 3 t6 H fun t7 =>
  aStore 3 t3 t7 H fun H =>
  aLoad true 3 t3 H fun r0 =>
  K r0 H
theorem value_write_2_eq (t0 t1 : AV) (H : Heap) (K : Kt) : awp Tryz.prog value_write_2_M value_write_2_c (retQ Tryz.prog value_write_2_r K) (t0 :: t1 :: List.replicate 6 .unk) H = value_write_2 t0 t1 H K := by kernel_rfl
theorem value_write_2_ok {t0 t1 : AV} {H : Heap} {K : Kt} (h : HSc H → value_write_2 t0 t1 H K) : ACalls Tryz.prog n_value_write_2 [t0, t1] H K :=
  acalls_body (M := value_write_2_M) Tryz.func104 (c := value_write_2_c) (by kernel_rfl) (fun hs => (value_write_2_eq t0 t1 H K).mpr (h hs))
/-! ### 105: value.write$3 -/
def value_write_3_M (_ : Nat) : List Bool := []
noncomputable def value_write_3_c : Code := Tryz.f105.body.getD .skip
noncomputable def value_write_3_r : List ResultVar := Tryz.f105.results.toList
def value_write_3 (t0 t1 : AV) (H : Heap) (K : Kt) : Prop :=
  aNew [(.int .i64 0), (.int .i64 0), .snil] H fun t3 H =>
  aFld 2 t1 fun t4 =>
  aLoad false 1 t4 H fun t5 =>
  aIdxA 3 t5 (.int .i64 0) fun t6 =>
  aLoad true 3 t6 H fun t7 =>
  aStore 3 t3 t7 H fun H =>
  aLoad true 3 t3 H fun r0 =>
  K r0 H
theorem value_write_3_eq (t0 t1 : AV) (H : Heap) (K : Kt) : awp Tryz.prog value_write_3_M value_write_3_c (retQ Tryz.prog value_write_3_r K) (t0 :: t1 :: List.replicate 6 .unk) H = value_write_3 t0 t1 H K := by kernel_rfl
theorem value_write_3_ok {t0 t1 : AV} {H : Heap} {K : Kt} (h : HSc H → value_write_3 t0 t1 H K) : ACalls Tryz.prog n_value_write_3 [t0, t1] H K :=
  acalls_body (M := value_write_3_M) Tryz.func105 (c := value_write_3_c) (by kernel_rfl) (fun hs => (value_write_3_eq t0 t1 H K).mpr (h hs))
/-! ### 106: amortcostref10.number -/
/-! ### 107: amortcostref10.list -/
end Go.Proofs.YtfpmdpldabopjaaGreatDoor
