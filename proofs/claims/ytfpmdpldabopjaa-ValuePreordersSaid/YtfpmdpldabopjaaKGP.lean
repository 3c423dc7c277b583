/- The shallow forms of functions of the program, printed by a program (absgen.py) off the translation, each tied to the model by the kernel. -/
import Derived.Test.YtfpmdpldabopjaaKNum
import Derived.Test.YtfpmdpldabopjaaProg
import Derived.KernelRfl
namespace Go.Proofs.Ytfpmdpldabopjaa
open Go Go.Abs
set_option linter.unusedVariables false
set_option maxRecDepth 100000
/-! ### 8: value.Preorder -/
def value_Preorder_M : Nat → List Bool
  | 5 => rl false [0,1,3,2,1,1,19,2,16]
  | _ => []
noncomputable def value_Preorder_c : Code := Try.f8.body.getD .skip
noncomputable def value_Preorder_r : List ResultVar := Try.f8.results.toList
def value_Preorder_fr5 (t0 t4 t5 t7 t27 t28 : AV) : List AV := t0 :: ux 3 (t4 :: t5 :: ux 1 (t7 :: ux 19 (t27 :: t28 :: ux 16 [])))
def value_Preorder_m5 : List Bool := value_Preorder_M 5
noncomputable def value_Preorder_c5 : Code := codeAt [1, 1, 1, 0, 1, 0, 0] value_Preorder_c
def value_Preorder_Q5 (K : Kt) : AExit → List AV → Heap → Prop := contAt Try.prog value_Preorder_M [1, 1, 1, 0, 1, 0] value_Preorder_c (retQ Try.prog value_Preorder_r K)
def value_Preorder_l5 (t0 t4 t5 t7 t27 t28 : AV) (H : Heap) (K : Kt) : Prop := ALoop Try.prog value_Preorder_c5 (value_Preorder_Q5 K) (value_Preorder_fr5 t0 t4 t5 t7 t27 t28) H
def value_Preorder_b5 (t0 t4 t5 t7 t27 t28 : AV) (H : Heap) (K : Kt) (Kb5 : Lt) : Prop :=
  aBin .lss false t28 t27 fun t29 =>
  aTest t29
  (aPure H (fun K' => aLoadC false 1 t7 H (K' · H)) fun t31 =>
  aPure H (fun K' => K' t0 H) fun t32 =>
  aPure H (fun K' => aFld 1 t5 (K' · H)) fun t33 =>
  aPure H (fun K' => aLoadC false 1 t33 H (K' · H)) fun t34 =>
  aPure H (fun K' => K' t28 H) fun t35 =>
  aPureX H (fun H K' => ACalls Try.prog n_scope_Recursive [t32, t34, t35] H K') fun t36 =>
  aPure H (fun K' => aBuildS 1 [.snil] 1 [(0, t36)] (K' · H)) fun t37 =>
  aAppend e_S_bool 1 24 t31 t37 H fun t38 H =>
  aStore 1 t7 t38 H fun H =>
  aBin .add false t28 (.int .i64 1) fun t39 =>
  Kb5 (value_Preorder_fr5 t0 t4 t5 t7 t27 t39) H)
  (aNew [.snil] H fun t9 H =>
  aNew [.nilfn] H fun t10 H =>
  aClos n_value_Preorder_1 [t9, t7, t10] fun t40 =>
  aStore 1 t10 t40 H fun H =>
  aLoad false 1 t10 H fun t41 =>
  aLoad true 3 t4 H fun t42 =>
  aCallV Try.prog t41 [t42] H fun t43 H =>
  aLoad false 1 t9 H fun t44 =>
  K t44 H)
def value_Preorder (t0 t1 t2 : AV) (H : Heap) (K : Kt) : Prop :=
  aBox t1 H fun t4 H =>
  aBox t2 H fun t5 H =>
  aFld 0 t5 fun t11 =>
  aLoad false 1 t11 H fun t12 =>
  aBin .neq false t12 (.int .i64 5) fun t13 =>
  aGuardJ t13 false H (fun K' => K' t0 H) fun t15 H =>
  aGuardJ t13 false H (fun K' => aLoad true 3 t4 H (K' · H)) fun t16 H =>
  aGuardJ t13 false H (fun K' => aLoad true 3 t5 H (K' · H)) fun t17 H =>
  aGuardJ t13 false H (fun K' => ACalls Try.prog n_value_HasType [t15, t16, t17] H K') fun t18 H =>
  aGuardJ t13 false H (fun K' => aUn .not t18 (K' · H)) fun t19 H =>
  aPick t13 (.bool true) t19 fun t20 =>
  aTest t20
  (K .snil H)
  (aNew [.snil] H fun t7 H =>
  aFld 1 t5 fun t22 =>
  aLoad false 1 t22 H fun t23 =>
  aIdxA 3 t0 t23 fun t24 =>
  aFld 2 t24 fun t25 =>
  aLoad false 1 t25 H fun t26 =>
  aLen 1 t26 fun t27 =>
  value_Preorder_l5 t0 t4 t5 t7 t27 (.int .i64 0) H K)
theorem value_Preorder_b5_eq (t0 t4 t5 t7 t27 t28 : AV) (H : Heap) (K : Kt) (Kb5 : Lt) : awp Try.prog value_Preorder_M value_Preorder_c5 (roundQ value_Preorder_m5 Kb5 (value_Preorder_Q5 K)) (value_Preorder_fr5 t0 t4 t5 t7 t27 t28) H = value_Preorder_b5 t0 t4 t5 t7 t27 t28 H K Kb5 := by kernel_rfl
theorem value_Preorder_loop5 {t0 t4 t5 t7 t27 t28 : AV} {H : Heap} {K : Kt} (Inv : Nat → AV → Heap → Prop) (n : Nat) (h0 : HSc H → Inv n t28 H)
    (round : ∀ n t28 H', Inv n t28 H' → HSc H' → H.length ≤ H'.length → (value_Preorder_fr5 t0 t4 t5 t7 t27 t28).all (AV.sc H'.length) = true → ∀ Kb5 : Lt, (∀ F'' H'', (∃ n', n' < n ∧ Back H.length (fun F2 H2 => ∃ t28, F2 = value_Preorder_fr5 t0 t4 t5 t7 t27 t28 ∧ Inv n' t28 H2) F'' H'') → Kb5 F'' H'') → value_Preorder_b5 t0 t4 t5 t7 t27 t28 H' K Kb5) : value_Preorder_l5 t0 t4 t5 t7 t27 t28 H K :=
  aloop (M := value_Preorder_M) value_Preorder_m5 (fun n F H => ∃ t28, F = value_Preorder_fr5 t0 t4 t5 t7 t27 t28 ∧ Inv n t28 H) n (fun hs _ => ⟨t28, rfl, h0 hs⟩) (fun n F H' ⟨t28, hF, hI⟩ h1 h2 h3 => by subst hF; rw [value_Preorder_b5_eq]; exact round n t28 H' hI h1 h2 h3 _ (fun _ _ h => h))
theorem value_Preorder_eq (t0 t1 t2 : AV) (H : Heap) (K : Kt) : awp Try.prog value_Preorder_M value_Preorder_c (retQ Try.prog value_Preorder_r K) (t0 :: t1 :: t2 :: List.replicate 42 .unk) H = value_Preorder t0 t1 t2 H K := by kernel_rfl
theorem value_Preorder_ok {t0 t1 t2 : AV} {H : Heap} {K : Kt} (h : HSc H → value_Preorder t0 t1 t2 H K) : ACalls Try.prog n_value_Preorder [t0, t1, t2] H K :=
  acalls_body (M := value_Preorder_M) Try.func8 (c := value_Preorder_c) (by kernel_rfl) (fun hs => (value_Preorder_eq t0 t1 t2 H K).mpr (h hs))
/-! ### 7: amortcostkeep.SameValues -/
def keep_SameValues_M : Nat → List Bool
  | 4 => rl false [0,2,10,2,13]
  | _ => []
noncomputable def keep_SameValues_c : Code := Try.f7.body.getD .skip
noncomputable def keep_SameValues_r : List ResultVar := Try.f7.results.toList
def keep_SameValues_fr4 (t0 t1 t12 t13 : AV) : List AV := t0 :: t1 :: ux 10 (t12 :: t13 :: ux 13 [])
def keep_SameValues_m4 : List Bool := keep_SameValues_M 4
noncomputable def keep_SameValues_c4 : Code := codeAt [1, 1, 0, 1, 0, 0] keep_SameValues_c
def keep_SameValues_Q4 (K : Kt) : AExit → List AV → Heap → Prop := contAt Try.prog keep_SameValues_M [1, 1, 0, 1, 0] keep_SameValues_c (retQ Try.prog keep_SameValues_r K)
def keep_SameValues_l4 (t0 t1 t12 t13 : AV) (H : Heap) (K : Kt) : Prop := ALoop Try.prog keep_SameValues_c4 (keep_SameValues_Q4 K) (keep_SameValues_fr4 t0 t1 t12 t13) H
def keep_SameValues_b4 (t0 t1 t12 t13 : AV) (H : Heap) (K : Kt) (Kb4 : Lt) : Prop :=
  aBin .lss false t13 t12 fun t14 =>
  aTest t14
  (aPure H (fun K' => K' t0 H) fun t16 =>
  aPure H (fun K' => K' t13 H) fun t17 =>
  aPure H (fun K' => aIdxA 3 t16 t17 (K' · H)) fun t18 =>
  aPure H (fun K' => aLoadC true 3 t18 H (K' · H)) fun t19 =>
  aPure H (fun K' => K' t1 H) fun t20 =>
  aPure H (fun K' => K' t13 H) fun t21 =>
  aPure H (fun K' => aIdxA 3 t20 t21 (K' · H)) fun t22 =>
  aPure H (fun K' => aLoadC true 3 t22 H (K' · H)) fun t23 =>
  aPureX H (fun H K' => ACalls Try.prog n_keep_SameValue [t19, t23] H K') fun t24 =>
  aPure H (fun K' => aUn .not t24 (K' · H)) fun t25 =>
  aTest t25
  (K (.bool false) H)
  (aBin .add false t13 (.int .i64 1) fun t26 =>
  Kb4 (keep_SameValues_fr4 t0 t1 t12 t26) H))
  (K (.bool true) H)
def keep_SameValues (t0 t1 : AV) (H : Heap) (K : Kt) : Prop :=
  aLen 1 t0 fun t7 =>
  aLen 1 t1 fun t9 =>
  aBin .neq false t7 t9 fun t10 =>
  aTest t10
  (K (.bool false) H)
  (aLen 1 t0 fun t12 =>
  keep_SameValues_l4 t0 t1 t12 (.int .i64 0) H K)
theorem keep_SameValues_b4_eq (t0 t1 t12 t13 : AV) (H : Heap) (K : Kt) (Kb4 : Lt) : awp Try.prog keep_SameValues_M keep_SameValues_c4 (roundQ keep_SameValues_m4 Kb4 (keep_SameValues_Q4 K)) (keep_SameValues_fr4 t0 t1 t12 t13) H = keep_SameValues_b4 t0 t1 t12 t13 H K Kb4 := by kernel_rfl
theorem keep_SameValues_loop4 {t0 t1 t12 t13 : AV} {H : Heap} {K : Kt} (Inv : Nat → AV → Heap → Prop) (n : Nat) (h0 : HSc H → Inv n t13 H)
    (round : ∀ n t13 H', Inv n t13 H' → HSc H' → H.length ≤ H'.length → (keep_SameValues_fr4 t0 t1 t12 t13).all (AV.sc H'.length) = true → ∀ Kb4 : Lt, (∀ F'' H'', (∃ n', n' < n ∧ Back H.length (fun F2 H2 => ∃ t13, F2 = keep_SameValues_fr4 t0 t1 t12 t13 ∧ Inv n' t13 H2) F'' H'') → Kb4 F'' H'') → keep_SameValues_b4 t0 t1 t12 t13 H' K Kb4) : keep_SameValues_l4 t0 t1 t12 t13 H K :=
  aloop (M := keep_SameValues_M) keep_SameValues_m4 (fun n F H => ∃ t13, F = keep_SameValues_fr4 t0 t1 t12 t13 ∧ Inv n t13 H) n (fun hs _ => ⟨t13, rfl, h0 hs⟩) (fun n F H' ⟨t13, hF, hI⟩ h1 h2 h3 => by subst hF; rw [keep_SameValues_b4_eq]; exact round n t13 H' hI h1 h2 h3 _ (fun _ _ h => h))
theorem keep_SameValues_eq (t0 t1 : AV) (H : Heap) (K : Kt) : awp Try.prog keep_SameValues_M keep_SameValues_c (retQ Try.prog keep_SameValues_r K) (t0 :: t1 :: List.replicate 25 .unk) H = keep_SameValues t0 t1 H K := by kernel_rfl
theorem keep_SameValues_ok {t0 t1 : AV} {H : Heap} {K : Kt} (h : HSc H → keep_SameValues t0 t1 H K) : ACalls Try.prog n_keep_SameValues [t0, t1] H K :=
  acalls_body (M := keep_SameValues_M) Try.func7 (c := keep_SameValues_c) (by kernel_rfl) (fun hs => (keep_SameValues_eq t0 t1 H K).mpr (h hs))
/-! ### 12: amortcostkeep.SameValue -/
def keep_SameValue_M (_ : Nat) : List Bool := []
noncomputable def keep_SameValue_c : Code := Try.f12.body.getD .skip
noncomputable def keep_SameValue_r : List ResultVar := Try.f12.results.toList
def keep_SameValue (t0 t1 : AV) (H : Heap) (K : Kt) : Prop :=
  aBox t0 H fun t2 H =>
  aBox t1 H fun t3 H =>
  aFld 0 t2 fun t5 =>
  aLoad false 1 t5 H fun t6 =>
  aFld 0 t3 fun t7 =>
  aLoad false 1 t7 H fun t8 =>
  aBin .eql false t6 t8 fun t9 =>
  aGuardJ t9 true H (fun K' => aFld 1 t2 (K' · H)) fun t11 H =>
  aGuardJ t9 true H (fun K' => aLoad false 1 t11 H (K' · H)) fun t12 H =>
  aGuardJ t9 true H (fun K' => aFld 1 t3 (K' · H)) fun t13 H =>
  aGuardJ t9 true H (fun K' => aLoad false 1 t13 H (K' · H)) fun t14 H =>
  aGuardJ t9 true H (fun K' => aBin .eql false t12 t14 (K' · H)) fun t15 H =>
  aPick t9 t15 (.bool false) fun t16 =>
  aGuardJ t16 true H (fun K' => aFld 2 t2 (K' · H)) fun t18 H =>
  aGuardJ t16 true H (fun K' => aLoad false 1 t18 H (K' · H)) fun t19 H =>
  aGuardJ t16 true H (fun K' => aFld 2 t3 (K' · H)) fun t20 H =>
  aGuardJ t16 true H (fun K' => aLoad false 1 t20 H (K' · H)) fun t21 H =>
  aGuardJ t16 true H (fun K' => ACalls Try.prog n_keep_SameValues [t19, t21] H K') fun t22 H =>
  aPick t16 t22 (.bool false) fun t23 =>
  K t23 H
theorem keep_SameValue_eq (t0 t1 : AV) (H : Heap) (K : Kt) : awp Try.prog keep_SameValue_M keep_SameValue_c (retQ Try.prog keep_SameValue_r K) (t0 :: t1 :: List.replicate 22 .unk) H = keep_SameValue t0 t1 H K := by kernel_rfl
theorem keep_SameValue_ok {t0 t1 : AV} {H : Heap} {K : Kt} (h : HSc H → keep_SameValue t0 t1 H K) : ACalls Try.prog n_keep_SameValue [t0, t1] H K :=
  acalls_body (M := keep_SameValue_M) Try.func12 (c := keep_SameValue_c) (by kernel_rfl) (fun hs => (keep_SameValue_eq t0 t1 H K).mpr (h hs))
/-! ### 15: value.Preorder$1 -/
def value_Preorder_1_M : Nat → List Bool
  | 200001 => rl false [0,7]
  | 3 => rl false [2,3,10,3,16]
  | _ => []
noncomputable def value_Preorder_1_c : Code := Try.f15.body.getD .skip
noncomputable def value_Preorder_1_r : List ResultVar := Try.f15.results.toList
def value_Preorder_1_fr3 (t2 t3 t4 t15 t16 t17 : AV) : List AV := ux 2 (t2 :: t3 :: t4 :: ux 10 (t15 :: t16 :: t17 :: ux 16 []))
def value_Preorder_1_m3 : List Bool := value_Preorder_1_M 3
noncomputable def value_Preorder_1_c3 : Code := codeAt [1, 1, 1, 0, 0] value_Preorder_1_c
def value_Preorder_1_Q3 (K : Kt) : AExit → List AV → Heap → Prop := contAt Try.prog value_Preorder_1_M [1, 1, 1, 0] value_Preorder_1_c (retQ Try.prog value_Preorder_1_r K)
def value_Preorder_1_l3 (t2 t3 t4 t15 t16 t17 : AV) (H : Heap) (K : Kt) : Prop := ALoop Try.prog value_Preorder_1_c3 (value_Preorder_1_Q3 K) (value_Preorder_1_fr3 t2 t3 t4 t15 t16 t17) H
def value_Preorder_1_j3 (t2 t3 t4 t15 t16 t17 : AV) (H : Heap) (K : Kt) (Kb3 : Lt) : Prop :=
  aBin .add false t17 (.int .i64 1) fun t33 =>
  Kb3 (value_Preorder_1_fr3 t2 t3 t4 t15 t16 t33) H
def value_Preorder_1_j2 (t2 t3 t4 t15 t16 t17 : AV) (H : Heap) (K : Kt) (Kb3 : Lt) : Prop :=
  value_Preorder_1_j3 t2 t3 t4 t15 t16 t17 H K Kb3
def value_Preorder_1_b3 (t2 t3 t4 t15 t16 t17 : AV) (H : Heap) (K : Kt) (Kb3 : Lt) : Prop :=
  aBin .lss false t17 t16 fun t18 =>
  aTest t18
  (aIdxA 3 t15 t17 fun t20 =>
  aLoad true 3 t20 H fun t21 =>
  aNew [(.int .i64 0), (.int .i64 0), .snil] H fun t6 H =>
  aStore 3 t6 t21 H fun H =>
  aLoad false 1 t2 H fun t22 =>
  aFld 1 t4 fun t23 =>
  aLoad false 1 t23 H fun t24 =>
  aIdxA 1 t22 t24 fun t25 =>
  aLoad false 1 t25 H fun t26 =>
  aIdxA 1 t26 t17 fun t28 =>
  aLoad false 1 t28 H fun t29 =>
  aTest t29
  (aLoad false 1 t3 H fun t30 =>
  aLoad true 3 t6 H fun t31 =>
  aCallV Try.prog t30 [t31] H fun t32 H =>
  value_Preorder_1_j2 t2 t3 t4 t15 t16 t17 H K Kb3)
  (value_Preorder_1_j2 t2 t3 t4 t15 t16 t17 H K Kb3))
  (aRet [] (K · H))
def value_Preorder_1_j1 (t2 t3 t4 : AV) (H : Heap) (K : Kt) : Prop :=
  aFld 2 t4 fun t14 =>
  aLoad false 1 t14 H fun t15 =>
  aLen 1 t15 fun t16 =>
  value_Preorder_1_l3 t2 t3 t4 t15 t16 (.int .i64 0) H K
def value_Preorder_1 (t0 t1 t2 t3 : AV) (H : Heap) (K : Kt) : Prop :=
  aBox t0 H fun t4 H =>
  aPure H (fun K' => aLoadC false 1 t1 H (K' · H)) fun t7 =>
  aPure H (fun K' => aLoadC true 3 t4 H (K' · H)) fun t8 =>
  aPureX H (fun H K' => ACalls Try.prog n_value_copied [t8] H K') fun t9 =>
  aPure H (fun K' => aLen 1 t7 (K' · H)) fun t10 =>
  aPure H (fun K' => aBuildS 3 [(.int .i64 0), (.int .i64 0), .snil] 1 [(0, (.agg [(.int .i64 0), (.int .i64 0), .snil]))] (K' · H)) fun t11 =>
  aAppend e_api_Value 3 40 t7 t11 H fun t12 H =>
  (aIdxA 3 t12 t10 fun t13 =>
  (aStore 3 t13 t9 H fun H =>
  aStore 1 t1 t12 H fun H =>
  value_Preorder_1_j1 t2 t3 t4 H K) ∧ (aStore 1 t1 t12 H fun H =>
  aStore 3 t13 t9 H fun H =>
  value_Preorder_1_j1 t2 t3 t4 H K)) ∧ (aStore 1 t1 t12 H fun H =>
  aIdxA 3 t12 t10 fun t13 =>
  aStore 3 t13 t9 H fun H =>
  value_Preorder_1_j1 t2 t3 t4 H K)
theorem value_Preorder_1_b3_eq (t2 t3 t4 t15 t16 t17 : AV) (H : Heap) (K : Kt) (Kb3 : Lt) : awp Try.prog value_Preorder_1_M value_Preorder_1_c3 (roundQ value_Preorder_1_m3 Kb3 (value_Preorder_1_Q3 K)) (value_Preorder_1_fr3 t2 t3 t4 t15 t16 t17) H = value_Preorder_1_b3 t2 t3 t4 t15 t16 t17 H K Kb3 := by kernel_rfl
theorem value_Preorder_1_loop3 {t2 t3 t4 t15 t16 t17 : AV} {H : Heap} {K : Kt} (Inv : Nat → AV → Heap → Prop) (n : Nat) (h0 : HSc H → Inv n t17 H)
    (round : ∀ n t17 H', Inv n t17 H' → HSc H' → H.length ≤ H'.length → (value_Preorder_1_fr3 t2 t3 t4 t15 t16 t17).all (AV.sc H'.length) = true → ∀ Kb3 : Lt, (∀ F'' H'', (∃ n', n' < n ∧ Back H.length (fun F2 H2 => ∃ t17, F2 = value_Preorder_1_fr3 t2 t3 t4 t15 t16 t17 ∧ Inv n' t17 H2) F'' H'') → Kb3 F'' H'') → value_Preorder_1_b3 t2 t3 t4 t15 t16 t17 H' K Kb3) : value_Preorder_1_l3 t2 t3 t4 t15 t16 t17 H K :=
  aloop (M := value_Preorder_1_M) value_Preorder_1_m3 (fun n F H => ∃ t17, F = value_Preorder_1_fr3 t2 t3 t4 t15 t16 t17 ∧ Inv n t17 H) n (fun hs _ => ⟨t17, rfl, h0 hs⟩) (fun n F H' ⟨t17, hF, hI⟩ h1 h2 h3 => by subst hF; rw [value_Preorder_1_b3_eq]; exact round n t17 H' hI h1 h2 h3 _ (fun _ _ h => h))
theorem value_Preorder_1_eq (t0 t1 t2 t3 : AV) (H : Heap) (K : Kt) : awp Try.prog value_Preorder_1_M value_Preorder_1_c (retQ Try.prog value_Preorder_1_r K) (t0 :: t1 :: t2 :: t3 :: List.replicate 30 .unk) H = value_Preorder_1 t0 t1 t2 t3 H K := by kernel_rfl
theorem value_Preorder_1_ok {t0 t1 t2 t3 : AV} {H : Heap} {K : Kt} (h : HSc H → value_Preorder_1 t0 t1 t2 t3 H K) : ACalls Try.prog n_value_Preorder_1 [t0, t1, t2, t3] H K :=
  acalls_body (M := value_Preorder_1_M) Try.func15 (c := value_Preorder_1_c) (by kernel_rfl) (fun hs => (value_Preorder_1_eq t0 t1 t2 t3 H K).mpr (h hs))
/-! ### 16: value.copied -/
def value_copied_M : Nat → List Bool
  | 3 => rl false [2,2,8,3,12]
  | _ => []
noncomputable def value_copied_c : Code := Try.f16.body.getD .skip
noncomputable def value_copied_r : List ResultVar := Try.f16.results.toList
def value_copied_fr3 (t2 t3 t12 t13 t14 : AV) : List AV := ux 2 (t2 :: t3 :: ux 8 (t12 :: t13 :: t14 :: ux 12 []))
def value_copied_m3 : List Bool := value_copied_M 3
noncomputable def value_copied_c3 : Code := codeAt [1, 1, 0, 1, 0, 0] value_copied_c
def value_copied_Q3 (K : Kt) : AExit → List AV → Heap → Prop := contAt Try.prog value_copied_M [1, 1, 0, 1, 0] value_copied_c (retQ Try.prog value_copied_r K)
def value_copied_l3 (t2 t3 t12 t13 t14 : AV) (H : Heap) (K : Kt) : Prop := ALoop Try.prog value_copied_c3 (value_copied_Q3 K) (value_copied_fr3 t2 t3 t12 t13 t14) H
def value_copied_b3 (t2 t3 t12 t13 t14 : AV) (H : Heap) (K : Kt) (Kb3 : Lt) : Prop :=
  aBin .lss false t14 t13 fun t15 =>
  aTest t15
  (aIdxA 3 t12 t14 fun t16 =>
  aLoad true 3 t16 H fun t17 =>
  aNew [(.int .i64 0), (.int .i64 0), .snil] H fun t5 H =>
  aStore 3 t5 t17 H fun H =>
  aPure H (fun K' => aFld 2 t3 (K' · H)) fun t18 =>
  aPure H (fun K' => aLoadC false 1 t18 H (K' · H)) fun t19 =>
  aPure H (fun K' => aLoadC true 3 t5 H (K' · H)) fun t20 =>
  aPureX H (fun H K' => ACalls Try.prog n_value_copied [t20] H K') fun t21 =>
  aPure H (fun K' => aBuildS 3 [(.int .i64 0), (.int .i64 0), .snil] 1 [(0, t21)] (K' · H)) fun t22 =>
  aAppend e_api_Value 3 40 t19 t22 H fun t23 H =>
  aPure H (fun K' => aFld 2 t3 (K' · H)) fun t24 =>
  aStore 1 t24 t23 H fun H =>
  aBin .add false t14 (.int .i64 1) fun t25 =>
  Kb3 (value_copied_fr3 t2 t3 t12 t13 t25) H)
  (aLoad true 3 t3 H fun t26 =>
  aStore 3 t2 t26 H fun H =>
  aLoad true 3 t2 H fun r0 =>
  K r0 H)
def value_copied (t0 : AV) (H : Heap) (K : Kt) : Prop :=
  aBox t0 H fun t1 H =>
  aNew [(.int .i64 0), (.int .i64 0), .snil] H fun t2 H =>
  aFld 0 t1 fun t6 =>
  aLoad false 1 t6 H fun t7 =>
  aFld 1 t1 fun t8 =>
  aLoad false 1 t8 H fun t9 =>
  aBuild [(.int .i64 0), (.int .i64 0), .snil] [(0, 1), (1, 1), (2, 1)] [(0, t7), (1, t9)] fun t10 =>
  aNew [(.int .i64 0), (.int .i64 0), .snil] H fun t3 H =>
  aStore 3 t3 t10 H fun H =>
  aFld 2 t1 fun t11 =>
  aLoad false 1 t11 H fun t12 =>
  aLen 1 t12 fun t13 =>
  value_copied_l3 t2 t3 t12 t13 (.int .i64 0) H K
theorem value_copied_b3_eq (t2 t3 t12 t13 t14 : AV) (H : Heap) (K : Kt) (Kb3 : Lt) : awp Try.prog value_copied_M value_copied_c3 (roundQ value_copied_m3 Kb3 (value_copied_Q3 K)) (value_copied_fr3 t2 t3 t12 t13 t14) H = value_copied_b3 t2 t3 t12 t13 t14 H K Kb3 := by kernel_rfl
theorem value_copied_loop3 {t2 t3 t12 t13 t14 : AV} {H : Heap} {K : Kt} (Inv : Nat → AV → Heap → Prop) (n : Nat) (h0 : HSc H → Inv n t14 H)
    (round : ∀ n t14 H', Inv n t14 H' → HSc H' → H.length ≤ H'.length → (value_copied_fr3 t2 t3 t12 t13 t14).all (AV.sc H'.length) = true → ∀ Kb3 : Lt, (∀ F'' H'', (∃ n', n' < n ∧ Back H.length (fun F2 H2 => ∃ t14, F2 = value_copied_fr3 t2 t3 t12 t13 t14 ∧ Inv n' t14 H2) F'' H'') → Kb3 F'' H'') → value_copied_b3 t2 t3 t12 t13 t14 H' K Kb3) : value_copied_l3 t2 t3 t12 t13 t14 H K :=
  aloop (M := value_copied_M) value_copied_m3 (fun n F H => ∃ t14, F = value_copied_fr3 t2 t3 t12 t13 t14 ∧ Inv n t14 H) n (fun hs _ => ⟨t14, rfl, h0 hs⟩) (fun n F H' ⟨t14, hF, hI⟩ h1 h2 h3 => by subst hF; rw [value_copied_b3_eq]; exact round n t14 H' hI h1 h2 h3 _ (fun _ _ h => h))
theorem value_copied_eq (t0 : AV) (H : Heap) (K : Kt) : awp Try.prog value_copied_M value_copied_c (retQ Try.prog value_copied_r K) (t0 :: List.replicate 26 .unk) H = value_copied t0 H K := by kernel_rfl
theorem value_copied_ok {t0 : AV} {H : Heap} {K : Kt} (h : HSc H → value_copied t0 H K) : ACalls Try.prog n_value_copied [t0] H K :=
  acalls_body (M := value_copied_M) Try.func16 (c := value_copied_c) (by kernel_rfl) (fun hs => (value_copied_eq t0 H K).mpr (h hs))
end Go.Proofs.Ytfpmdpldabopjaa
