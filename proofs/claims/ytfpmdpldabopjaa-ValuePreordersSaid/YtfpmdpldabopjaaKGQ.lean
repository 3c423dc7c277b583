/- The shallow forms of functions of the program, printed by a program (absgen.py) off the translation, each tied to the model by the kernel. -/
import Derived.Test.YtfpmdpldabopjaaKNum
import Derived.Test.YtfpmdpldabopjaaProg
import Derived.KernelRfl
namespace Go.Proofs.Ytfpmdpldabopjaa
open Go Go.Abs
set_option linter.unusedVariables false
set_option maxRecDepth 100000
/-! ### 3: amortcostlaw10.ValuePreorders -/
def law10_ValuePreorders_M (_ : Nat) : List Bool := []
noncomputable def law10_ValuePreorders_c : Code := Try.f3.body.getD .skip
noncomputable def law10_ValuePreorders_r : List ResultVar := Try.f3.results.toList
def law10_ValuePreorders (t0 t1 t2 : AV) (H : Heap) (K : Kt) : Prop :=
  aBox t1 H fun t4 H =>
  aBox t2 H fun t5 H =>
  ACalls Try.prog n_keep_Data [t0] H fun t9 H =>
  aUn .not t9 fun t10 =>
  aGuardJ t10 false H (fun K' => aLoad true 3 t4 H (K' · H)) fun t12 H =>
  aGuardJ t10 false H (fun K' => ACalls Try.prog n_keep_Value [t12] H K') fun t13 H =>
  aGuardJ t10 false H (fun K' => aUn .not t13 (K' · H)) fun t14 H =>
  aPick t10 (.bool true) t14 fun t15 =>
  aGuardJ t15 false H (fun K' => aLoad true 3 t5 H (K' · H)) fun t17 H =>
  aGuardJ t15 false H (fun K' => ACalls Try.prog n_keep_Type [t17] H K') fun t18 H =>
  aGuardJ t15 false H (fun K' => aUn .not t18 (K' · H)) fun t19 H =>
  aPick t15 (.bool true) t19 fun t20 =>
  aTest t20
  (K (.bool true) H)
  (aBuild [(.str []), .snil] [(0, 1), (1, 1)] [(0, (.str [67]))] fun t21 =>
  aBuildS 2 [(.str []), .snil] 1 [(0, t21)] fun t22 =>
  aBuild [(.str []), (.int .i64 0), .snil] [(0, 1), (1, 1), (2, 1)] [(0, (.str [68])), (2, t22)] fun t23 =>
  aBuildS 3 [(.str []), (.int .i64 0), .snil] 1 [(0, t23)] fun t24 =>
  aPure H (fun K' => K' t0 H) fun t25 =>
  aPure H (fun K' => aLoadC true 3 t4 H (K' · H)) fun t26 =>
  aPure H (fun K' => aLoadC true 3 t5 H (K' · H)) fun t27 =>
  aPureX H (fun H K' => ACalls Try.prog n_value_Preorder [t25, t26, t27] H K') fun t28 =>
  aPure H (fun K' => K' t0 H) fun t29 =>
  aPure H (fun K' => aLoadC true 3 t4 H (K' · H)) fun t30 =>
  aPure H (fun K' => aLoadC true 3 t5 H (K' · H)) fun t31 =>
  aPureX H (fun H K' => ACalls Try.prog n_ref10_Preorder [t29, t30, t31] H K') fun t32 =>
  aPureX H (fun H K' => ACalls Try.prog n_keep_SameValues [t28, t32] H K') fun t33 =>
  aPure H (fun K' => K' t33 H) fun t34 =>
  aGuardJ t34 true H (fun K' => aPure H (fun K'' => K'' t24 H) (K' · H)) fun t35 H =>
  aGuardJ t34 true H (fun K' => aPure H (fun K'' => aBuild [(.int .i64 0), (.int .i64 0), .snil] [(0, 1), (1, 1), (2, 1)] [(0, (.int .i64 5))] (K'' · H)) (K' · H)) fun t36 H =>
  aGuardJ t34 true H (fun K' => aPure H (fun K'' => aBuild [(.int .i64 0), (.int .i64 0), .snil] [(0, 1), (1, 1), (2, 1)] [(0, (.int .i64 5))] (K'' · H)) (K' · H)) fun t37 H =>
  aGuardJ t34 true H (fun K' => aPureX H (fun H K'' => ACalls Try.prog n_value_Preorder [t35, t36, t37] H K'') (K' · H)) fun t38 H =>
  aGuardJ t34 true H (fun K' => aPure H (fun K'' => aLen 1 t38 (K'' · H)) (K' · H)) fun t39 H =>
  aGuardJ t34 true H (fun K' => aPure H (fun K'' => aBin .eql false t39 (.int .i64 1) (K'' · H)) (K' · H)) fun t40 H =>
  aPure H (fun K' => aPick t34 t40 (.bool false) (K' · H)) fun t41 =>
  aPure H (fun K' => K' t41 H) fun t6 =>
  K t6 H)
theorem law10_ValuePreorders_eq (t0 t1 t2 : AV) (H : Heap) (K : Kt) : awp Try.prog law10_ValuePreorders_M law10_ValuePreorders_c (retQ Try.prog law10_ValuePreorders_r K) (t0 :: t1 :: t2 :: List.replicate 39 .unk) H = law10_ValuePreorders t0 t1 t2 H K := by kernel_rfl
theorem law10_ValuePreorders_ok {t0 t1 t2 : AV} {H : Heap} {K : Kt} (h : HSc H → law10_ValuePreorders t0 t1 t2 H K) : ACalls Try.prog n_law10_ValuePreorders [t0, t1, t2] H K :=
  acalls_body (M := law10_ValuePreorders_M) Try.func3 (c := law10_ValuePreorders_c) (by kernel_rfl) (fun hs => (law10_ValuePreorders_eq t0 t1 t2 H K).mpr (h hs))
/-! ### 9: amortcostref10.Preorder -/
def ref10_Preorder_M (_ : Nat) : List Bool := []
noncomputable def ref10_Preorder_c : Code := Try.f9.body.getD .skip
noncomputable def ref10_Preorder_r : List ResultVar := Try.f9.results.toList
def ref10_Preorder (t0 t1 t2 : AV) (H : Heap) (K : Kt) : Prop :=
  aBox t1 H fun t4 H =>
  aBox t2 H fun t5 H =>
  aFld 0 t5 fun t7 =>
  aLoad false 1 t7 H fun t8 =>
  aBin .neq false t8 (.int .i64 5) fun t9 =>
  aGuardJ t9 false H (fun K' => K' t0 H) fun t11 H =>
  aGuardJ t9 false H (fun K' => aLoad true 3 t4 H (K' · H)) fun t12 H =>
  aGuardJ t9 false H (fun K' => aLoad true 3 t5 H (K' · H)) fun t13 H =>
  aGuardJ t9 false H (fun K' => ACalls Try.prog n_ref10_HasType [t11, t12, t13] H K') fun t14 H =>
  aGuardJ t9 false H (fun K' => aUn .not t14 (K' · H)) fun t15 H =>
  aPick t9 (.bool true) t15 fun t16 =>
  aTest t16
  (K .snil H)
  (aLoad true 3 t4 H fun t18 =>
  aFld 1 t5 fun t19 =>
  aLoad false 1 t19 H fun t20 =>
  ACalls Try.prog n_ref10_preorder [t0, t18, t20, .snil] H fun t21 H =>
  K t21 H)
theorem ref10_Preorder_eq (t0 t1 t2 : AV) (H : Heap) (K : Kt) : awp Try.prog ref10_Preorder_M ref10_Preorder_c (retQ Try.prog ref10_Preorder_r K) (t0 :: t1 :: t2 :: List.replicate 19 .unk) H = ref10_Preorder t0 t1 t2 H K := by kernel_rfl
theorem ref10_Preorder_ok {t0 t1 t2 : AV} {H : Heap} {K : Kt} (h : HSc H → ref10_Preorder t0 t1 t2 H K) : ACalls Try.prog n_ref10_Preorder [t0, t1, t2] H K :=
  acalls_body (M := ref10_Preorder_M) Try.func9 (c := ref10_Preorder_c) (by kernel_rfl) (fun hs => (ref10_Preorder_eq t0 t1 t2 H K).mpr (h hs))
/-! ### 18: amortcostref10.preorder -/
def ref10_preorder_M : Nat → List Bool
  | 4 => rl false [0,1,1,2,1,1,3,1,11,2,17]
  | _ => []
noncomputable def ref10_preorder_c : Code := Try.f18.body.getD .skip
noncomputable def ref10_preorder_r : List ResultVar := Try.f18.results.toList
def ref10_preorder_fr4 (t0 t2 t3 t5 t9 t21 t22 : AV) : List AV := t0 :: ux 1 (t2 :: t3 :: ux 1 (t5 :: ux 3 (t9 :: ux 11 (t21 :: t22 :: ux 17 []))))
def ref10_preorder_m4 : List Bool := ref10_preorder_M 4
noncomputable def ref10_preorder_c4 : Code := codeAt [1, 1, 1, 0, 1, 0, 0] ref10_preorder_c
def ref10_preorder_Q4 (K : Kt) : AExit → List AV → Heap → Prop := contAt Try.prog ref10_preorder_M [1, 1, 1, 0, 1, 0] ref10_preorder_c (retQ Try.prog ref10_preorder_r K)
def ref10_preorder_l4 (t0 t2 t3 t5 t9 t21 t22 : AV) (H : Heap) (K : Kt) : Prop := ALoop Try.prog ref10_preorder_c4 (ref10_preorder_Q4 K) (ref10_preorder_fr4 t0 t2 t3 t5 t9 t21 t22) H
def ref10_preorder_j2 (t0 t2 t3 t5 t9 t21 t22 : AV) (H : Heap) (K : Kt) (Kb4 : Lt) : Prop :=
  aBin .add false t22 (.int .i64 1) fun t38 =>
  Kb4 (ref10_preorder_fr4 t0 t2 t3 t5 t9 t21 t38) H
def ref10_preorder_j1 (t0 t2 t3 t5 t9 t21 t22 : AV) (H : Heap) (K : Kt) (Kb4 : Lt) : Prop :=
  ref10_preorder_j2 t0 t2 t3 t5 t9 t21 t22 H K Kb4
def ref10_preorder_b4 (t0 t2 t3 t5 t9 t21 t22 : AV) (H : Heap) (K : Kt) (Kb4 : Lt) : Prop :=
  aBin .lss false t22 t21 fun t23 =>
  aTest t23
  (aIdxA 1 t9 t22 fun t27 =>
  aLoad false 1 t27 H fun t28 =>
  aTest t28
  (aFld 2 t5 fun t30 =>
  aLoad false 1 t30 H fun t31 =>
  aIdxA 3 t31 t22 fun t33 =>
  aLoad true 3 t33 H fun t34 =>
  ACalls Try.prog n_ref10_preorder [t0, t34, t2, t3] H fun t37 H =>
  ref10_preorder_j1 t0 t2 t37 t5 t9 t21 t22 H K Kb4)
  (ref10_preorder_j1 t0 t2 t3 t5 t9 t21 t22 H K Kb4))
  (K t3 H)
def ref10_preorder (t0 t1 t2 t3 : AV) (H : Heap) (K : Kt) : Prop :=
  aBox t1 H fun t5 H =>
  aLoad true 3 t5 H fun t12 =>
  aBuildS 3 [(.int .i64 0), (.int .i64 0), .snil] 1 [(0, t12)] fun t13 =>
  aAppend e_api_Value 3 40 t3 t13 H fun t14 H =>
  aFld 1 t5 fun t17 =>
  aLoad false 1 t17 H fun t18 =>
  ACalls Try.prog n_ref5_Recursive [t0, t2, t18] H fun t19 H =>
  aLen 1 t19 fun t21 =>
  ref10_preorder_l4 t0 t2 t14 t5 t19 t21 (.int .i64 0) H K
theorem ref10_preorder_b4_eq (t0 t2 t3 t5 t9 t21 t22 : AV) (H : Heap) (K : Kt) (Kb4 : Lt) : awp Try.prog ref10_preorder_M ref10_preorder_c4 (roundQ ref10_preorder_m4 Kb4 (ref10_preorder_Q4 K)) (ref10_preorder_fr4 t0 t2 t3 t5 t9 t21 t22) H = ref10_preorder_b4 t0 t2 t3 t5 t9 t21 t22 H K Kb4 := by kernel_rfl
theorem ref10_preorder_loop4 {t0 t2 t3 t5 t9 t21 t22 : AV} {H : Heap} {K : Kt} (Inv : Nat → AV → AV → Heap → Prop) (n : Nat) (h0 : HSc H → Inv n t3 t22 H)
    (round : ∀ n t3 t22 H', Inv n t3 t22 H' → HSc H' → H.length ≤ H'.length → (ref10_preorder_fr4 t0 t2 t3 t5 t9 t21 t22).all (AV.sc H'.length) = true → ∀ Kb4 : Lt, (∀ F'' H'', (∃ n', n' < n ∧ Back H.length (fun F2 H2 => ∃ t3 t22, F2 = ref10_preorder_fr4 t0 t2 t3 t5 t9 t21 t22 ∧ Inv n' t3 t22 H2) F'' H'') → Kb4 F'' H'') → ref10_preorder_b4 t0 t2 t3 t5 t9 t21 t22 H' K Kb4) : ref10_preorder_l4 t0 t2 t3 t5 t9 t21 t22 H K :=
  aloop (M := ref10_preorder_M) ref10_preorder_m4 (fun n F H => ∃ t3 t22, F = ref10_preorder_fr4 t0 t2 t3 t5 t9 t21 t22 ∧ Inv n t3 t22 H) n (fun hs _ => ⟨t3, t22, rfl, h0 hs⟩) (fun n F H' ⟨t3, t22, hF, hI⟩ h1 h2 h3 => by subst hF; rw [ref10_preorder_b4_eq]; exact round n t3 t22 H' hI h1 h2 h3 _ (fun _ _ h => h))
theorem ref10_preorder_eq (t0 t1 t2 t3 : AV) (H : Heap) (K : Kt) : awp Try.prog ref10_preorder_M ref10_preorder_c (retQ Try.prog ref10_preorder_r K) (t0 :: t1 :: t2 :: t3 :: List.replicate 36 .unk) H = ref10_preorder t0 t1 t2 t3 H K := by kernel_rfl
theorem ref10_preorder_ok {t0 t1 t2 t3 : AV} {H : Heap} {K : Kt} (h : HSc H → ref10_preorder t0 t1 t2 t3 H K) : ACalls Try.prog n_ref10_preorder [t0, t1, t2, t3] H K :=
  acalls_body (M := ref10_preorder_M) Try.func18 (c := ref10_preorder_c) (by kernel_rfl) (fun hs => (ref10_preorder_eq t0 t1 t2 t3 H K).mpr (h hs))
/-! ### 26: amortcostref5.Recursive -/
def ref5_Recursive_M : Nat → List Bool
  | 5 => rl false [0,2,5,1,32,3,16]
  | _ => []
noncomputable def ref5_Recursive_c : Code := Try.f26.body.getD .skip
noncomputable def ref5_Recursive_r : List ResultVar := Try.f26.results.toList
def ref5_Recursive_fr5 (t0 t1 t7 t40 t41 t42 : AV) : List AV := t0 :: t1 :: ux 5 (t7 :: ux 32 (t40 :: t41 :: t42 :: ux 16 []))
def ref5_Recursive_m5 : List Bool := ref5_Recursive_M 5
noncomputable def ref5_Recursive_c5 : Code := codeAt [1, 1, 1, 0, 1, 0, 0] ref5_Recursive_c
def ref5_Recursive_Q5 (K : Kt) : AExit → List AV → Heap → Prop := contAt Try.prog ref5_Recursive_M [1, 1, 1, 0, 1, 0] ref5_Recursive_c (retQ Try.prog ref5_Recursive_r K)
def ref5_Recursive_l5 (t0 t1 t7 t40 t41 t42 : AV) (H : Heap) (K : Kt) : Prop := ALoop Try.prog ref5_Recursive_c5 (ref5_Recursive_Q5 K) (ref5_Recursive_fr5 t0 t1 t7 t40 t41 t42) H
def ref5_Recursive_b5 (t0 t1 t7 t40 t41 t42 : AV) (H : Heap) (K : Kt) (Kb5 : Lt) : Prop :=
  aBin .lss false t42 t41 fun t43 =>
  aTest t43
  (aIdxA 3 t40 t42 fun t44 =>
  aLoad true 3 t44 H fun t45 =>
  aNew [(.int .i64 0), (.int .i64 0), .snil] H fun t9 H =>
  aStore 3 t9 t45 H fun H =>
  aPure H (fun K' => K' t7 H) fun t46 =>
  aPure H (fun K' => aLoadC true 3 t9 H (K' · H)) fun t47 =>
  aPure H (fun K' => K' t1 H) fun t48 =>
  aPure H (fun K' => K' t0 H) fun t49 =>
  aPure H (fun K' => K' t1 H) fun t50 =>
  aPure H (fun K' => aIdxA 3 t49 t50 (K' · H)) fun t51 =>
  aPure H (fun K' => aFld 1 t51 (K' · H)) fun t52 =>
  aPure H (fun K' => aLoadC false 1 t52 H (K' · H)) fun t53 =>
  aPureX H (fun H K' => ACalls Try.prog n_ref5_IsSelf [t47, t48, t53] H K') fun t54 =>
  aPure H (fun K' => aBuildS 1 [(.bool false)] 1 [(0, t54)] (K' · H)) fun t55 =>
  aAppend e_bool 1 1 t46 t55 H fun t56 H =>
  aPure H (fun K' => K' t56 H) fun t7 =>
  aBin .add false t42 (.int .i64 1) fun t57 =>
  Kb5 (ref5_Recursive_fr5 t0 t1 t7 t40 t41 t57) H)
  (K t7 H)
def ref5_Recursive (t0 t1 t2 : AV) (H : Heap) (K : Kt) : Prop :=
  aBin .lss false t1 (.int .i64 0) fun t11 =>
  aGuardJ t11 false H (fun K' => K' t1 H) fun t13 H =>
  aGuardJ t11 false H (fun K' => K' t0 H) fun t14 H =>
  aGuardJ t11 false H (fun K' => aLen 1 t14 (K' · H)) fun t15 H =>
  aGuardJ t11 false H (fun K' => aBin .geq false t13 t15 (K' · H)) fun t16 H =>
  aPick t11 (.bool true) t16 fun t17 =>
  aGuardJ t17 false H (fun K' => K' t2 H) fun t19 H =>
  aGuardJ t17 false H (fun K' => aBin .lss false t19 (.int .i64 0) (K' · H)) fun t20 H =>
  aPick t17 (.bool true) t20 fun t21 =>
  aGuardJ t21 false H (fun K' => K' t2 H) fun t23 H =>
  aGuardJ t21 false H (fun K' => K' t0 H) fun t24 H =>
  aGuardJ t21 false H (fun K' => K' t1 H) fun t25 H =>
  aGuardJ t21 false H (fun K' => aIdxA 3 t24 t25 (K' · H)) fun t26 H =>
  aGuardJ t21 false H (fun K' => aFld 2 t26 (K' · H)) fun t27 H =>
  aGuardJ t21 false H (fun K' => aLoad false 1 t27 H (K' · H)) fun t28 H =>
  aGuardJ t21 false H (fun K' => aLen 1 t28 (K' · H)) fun t29 H =>
  aGuardJ t21 false H (fun K' => aBin .geq false t23 t29 (K' · H)) fun t30 H =>
  aPick t21 (.bool true) t30 fun t31 =>
  aTest t31
  (K .snil H)
  (aIdxA 3 t0 t1 fun t34 =>
  aFld 2 t34 fun t35 =>
  aLoad false 1 t35 H fun t36 =>
  aIdxA 2 t36 t2 fun t38 =>
  aFld 1 t38 fun t39 =>
  aLoad false 1 t39 H fun t40 =>
  aLen 1 t40 fun t41 =>
  ref5_Recursive_l5 t0 t1 .snil t40 t41 (.int .i64 0) H K)
theorem ref5_Recursive_b5_eq (t0 t1 t7 t40 t41 t42 : AV) (H : Heap) (K : Kt) (Kb5 : Lt) : awp Try.prog ref5_Recursive_M ref5_Recursive_c5 (roundQ ref5_Recursive_m5 Kb5 (ref5_Recursive_Q5 K)) (ref5_Recursive_fr5 t0 t1 t7 t40 t41 t42) H = ref5_Recursive_b5 t0 t1 t7 t40 t41 t42 H K Kb5 := by kernel_rfl
theorem ref5_Recursive_loop5 {t0 t1 t7 t40 t41 t42 : AV} {H : Heap} {K : Kt} (Inv : Nat → AV → AV → Heap → Prop) (n : Nat) (h0 : HSc H → Inv n t7 t42 H)
    (round : ∀ n t7 t42 H', Inv n t7 t42 H' → HSc H' → H.length ≤ H'.length → (ref5_Recursive_fr5 t0 t1 t7 t40 t41 t42).all (AV.sc H'.length) = true → ∀ Kb5 : Lt, (∀ F'' H'', (∃ n', n' < n ∧ Back H.length (fun F2 H2 => ∃ t7 t42, F2 = ref5_Recursive_fr5 t0 t1 t7 t40 t41 t42 ∧ Inv n' t7 t42 H2) F'' H'') → Kb5 F'' H'') → ref5_Recursive_b5 t0 t1 t7 t40 t41 t42 H' K Kb5) : ref5_Recursive_l5 t0 t1 t7 t40 t41 t42 H K :=
  aloop (M := ref5_Recursive_M) ref5_Recursive_m5 (fun n F H => ∃ t7 t42, F = ref5_Recursive_fr5 t0 t1 t7 t40 t41 t42 ∧ Inv n t7 t42 H) n (fun hs _ => ⟨t7, t42, rfl, h0 hs⟩) (fun n F H' ⟨t7, t42, hF, hI⟩ h1 h2 h3 => by subst hF; rw [ref5_Recursive_b5_eq]; exact round n t7 t42 H' hI h1 h2 h3 _ (fun _ _ h => h))
theorem ref5_Recursive_eq (t0 t1 t2 : AV) (H : Heap) (K : Kt) : awp Try.prog ref5_Recursive_M ref5_Recursive_c (retQ Try.prog ref5_Recursive_r K) (t0 :: t1 :: t2 :: List.replicate 56 .unk) H = ref5_Recursive t0 t1 t2 H K := by kernel_rfl
theorem ref5_Recursive_ok {t0 t1 t2 : AV} {H : Heap} {K : Kt} (h : HSc H → ref5_Recursive t0 t1 t2 H K) : ACalls Try.prog n_ref5_Recursive [t0, t1, t2] H K :=
  acalls_body (M := ref5_Recursive_M) Try.func26 (c := ref5_Recursive_c) (by kernel_rfl) (fun hs => (ref5_Recursive_eq t0 t1 t2 H K).mpr (h hs))
end Go.Proofs.Ytfpmdpldabopjaa
