/- The shallow forms of functions of the program, printed by a program (absgen.py) off the translation, each tied to the model by the kernel. -/
import Derived.Test.YtfpmdpldabopjaaGreatDoorKNum
import Derived.Test.YtfpmdpldabopjaaGreatDoorProg
import Derived.KernelRfl
namespace Go.Proofs.YtfpmdpldabopjaaGreatDoor
open Go Go.Abs
set_option linter.unusedVariables false
set_option maxRecDepth 100000
/-! ### 5: amortcostlaw15.IndexDegrees -/
def law15_IndexDegrees_M (_ : Nat) : List Bool := []
noncomputable def law15_IndexDegrees_c : Code := Tryz.f5.body.getD .skip
noncomputable def law15_IndexDegrees_r : List ResultVar := Tryz.f5.results.toList
def law15_IndexDegrees (t0 t1 t2 : AV) (H : Heap) (K : Kt) : Prop :=
  aBox t1 H fun t4 H =>
  aBox t2 H fun t5 H =>
  aLoad true 3 t4 H fun t8 =>
  ACalls Tryz.prog n_law15_small [t0, t8] H fun t9 H =>
  aUn .not t9 fun t10 =>
  aGuardJ t10 false H (fun K' => aLoad true 2 t5 H (K' · H)) fun t12 H =>
  aGuardJ t10 false H (fun K' => ACalls Tryz.prog n_keep_Index [t12] H K') fun t13 H =>
  aGuardJ t10 false H (fun K' => aUn .not t13 (K' · H)) fun t14 H =>
  aPick t10 (.bool true) t14 fun t15 =>
  aTest t15
  (K (.bool true) H)
  (aPure H (fun K' => K' t0 H) fun t16 =>
  aPure H (fun K' => aLoadC true 3 t4 H (K' · H)) fun t17 =>
  aPure H (fun K' => aLoadC true 2 t5 H (K' · H)) fun t18 =>
  aPureX H (fun H K' => ACalls Tryz.prog n_index_Valid [t16, t17, t18] H K') fun t19 =>
  aPure H (fun K' => K' t0 H) fun t20 =>
  aPure H (fun K' => aLoadC true 3 t4 H (K' · H)) fun t21 =>
  aPure H (fun K' => aLoadC true 2 t5 H (K' · H)) fun t22 =>
  aPureX H (fun H K' => ACalls Tryz.prog n_ref15_Valid [t20, t21, t22] H K') fun t23 =>
  aPure H (fun K' => aBin .eql true t19 t23 (K' · H)) fun t24 =>
  aPure H (fun K' => K' t24 H) fun t25 =>
  aGuardJ t25 true H (fun K' => aPure H (fun K'' => K'' t0 H) (K' · H)) fun t26 H =>
  aGuardJ t25 true H (fun K' => aPure H (fun K'' => aLoadC true 3 t4 H (K'' · H)) (K' · H)) fun t27 H =>
  aGuardJ t25 true H (fun K' => aPure H (fun K'' => aLoadC true 2 t5 H (K'' · H)) (K' · H)) fun t28 H =>
  aGuardJ t25 true H (fun K' => aPureX H (fun H K'' => ACalls Tryz.prog n_index_Degree [t26, t27, t28] H K'') (K' · H)) fun t29 H =>
  aGuardJ t25 true H (fun K' => aPure H (fun K'' => K'' t0 H) (K' · H)) fun t30 H =>
  aGuardJ t25 true H (fun K' => aPure H (fun K'' => aLoadC true 3 t4 H (K'' · H)) (K' · H)) fun t31 H =>
  aGuardJ t25 true H (fun K' => aPure H (fun K'' => aLoadC true 2 t5 H (K'' · H)) (K' · H)) fun t32 H =>
  aGuardJ t25 true H (fun K' => aPureX H (fun H K'' => ACalls Tryz.prog n_ref15_Degree [t30, t31, t32] H K'') (K' · H)) fun t33 H =>
  aGuardJ t25 true H (fun K' => aPure H (fun K'' => aBin .eql false t29 t33 (K'' · H)) (K' · H)) fun t34 H =>
  aPure H (fun K' => aPick t25 t34 (.bool false) (K' · H)) fun t35 =>
  aPure H (fun K' => K' t35 H) fun t36 =>
  aGuardJ t36 true H (fun K' => aPureX H (fun H K'' => ACalls Tryz.prog n_law15_awake [] H K'') (K' · H)) fun t37 H =>
  aPure H (fun K' => aPick t36 t37 (.bool false) (K' · H)) fun t38 =>
  aPure H (fun K' => K' t38 H) fun t6 =>
  K t6 H)
theorem law15_IndexDegrees_eq (t0 t1 t2 : AV) (H : Heap) (K : Kt) : awp Tryz.prog law15_IndexDegrees_M law15_IndexDegrees_c (retQ Tryz.prog law15_IndexDegrees_r K) (t0 :: t1 :: t2 :: List.replicate 36 .unk) H = law15_IndexDegrees t0 t1 t2 H K := by kernel_rfl
theorem law15_IndexDegrees_ok {t0 t1 t2 : AV} {H : Heap} {K : Kt} (h : HSc H → law15_IndexDegrees t0 t1 t2 H K) : ACalls Tryz.prog n_law15_IndexDegrees [t0, t1, t2] H K :=
  acalls_body (M := law15_IndexDegrees_M) Tryz.func5 (c := law15_IndexDegrees_c) (by kernel_rfl) (fun hs => (law15_IndexDegrees_eq t0 t1 t2 H K).mpr (h hs))
/-! ### 23: amortcostlaw15.small -/
def law15_small_M (_ : Nat) : List Bool := []
noncomputable def law15_small_c : Code := Tryz.f23.body.getD .skip
noncomputable def law15_small_r : List ResultVar := Tryz.f23.results.toList
def law15_small (t0 t1 : AV) (H : Heap) (K : Kt) : Prop :=
  aBox t1 H fun t3 H =>
  ACalls Tryz.prog n_keep_Data [t0] H fun t6 H =>
  aGuardJ t6 true H (fun K' => aLoad true 3 t3 H (K' · H)) fun t8 H =>
  aGuardJ t6 true H (fun K' => ACalls Tryz.prog n_keep_Type [t8] H K') fun t9 H =>
  aPick t6 t9 (.bool false) fun t10 =>
  K t10 H
theorem law15_small_eq (t0 t1 : AV) (H : Heap) (K : Kt) : awp Tryz.prog law15_small_M law15_small_c (retQ Tryz.prog law15_small_r K) (t0 :: t1 :: List.replicate 9 .unk) H = law15_small t0 t1 H K := by kernel_rfl
theorem law15_small_ok {t0 t1 : AV} {H : Heap} {K : Kt} (h : HSc H → law15_small t0 t1 H K) : ACalls Tryz.prog n_law15_small [t0, t1] H K :=
  acalls_body (M := law15_small_M) Tryz.func23 (c := law15_small_c) (by kernel_rfl) (fun hs => (law15_small_eq t0 t1 H K).mpr (h hs))
/-! ### 24: amortcostkeep.Index -/
def keep_Index_M (_ : Nat) : List Bool := []
noncomputable def keep_Index_c : Code := Tryz.f24.body.getD .skip
noncomputable def keep_Index_r : List ResultVar := Tryz.f24.results.toList
def keep_Index (t0 : AV) (H : Heap) (K : Kt) : Prop :=
  aBox t0 H fun t1 H =>
  aNew [(.int .i64 0)] H fun t3 H =>
  aStore 1 t3 (.int .i64 40) H fun H =>
  aLoad true 2 t1 H fun t4 =>
  ACalls Tryz.prog n_keep_ind [t4, t3] H fun t5 H =>
  K t5 H
theorem keep_Index_eq (t0 : AV) (H : Heap) (K : Kt) : awp Tryz.prog keep_Index_M keep_Index_c (retQ Tryz.prog keep_Index_r K) (t0 :: List.replicate 5 .unk) H = keep_Index t0 H K := by kernel_rfl
theorem keep_Index_ok {t0 : AV} {H : Heap} {K : Kt} (h : HSc H → keep_Index t0 H K) : ACalls Tryz.prog n_keep_Index [t0] H K :=
  acalls_body (M := keep_Index_M) Tryz.func24 (c := keep_Index_c) (by kernel_rfl) (fun hs => (keep_Index_eq t0 H K).mpr (h hs))
/-! ### 60: amortcostkeep.ind -/
def keep_ind_M : Nat → List Bool
  | 5 => rl false [1,2,2,1,24]
  | _ => []
noncomputable def keep_ind_c : Code := Tryz.f60.body.getD .skip
noncomputable def keep_ind_r : List ResultVar := Tryz.f60.results.toList
def keep_ind_fr5 (t1 t2 t5 : AV) : List AV := ux 1 (t1 :: t2 :: ux 2 (t5 :: ux 24 []))
def keep_ind_m5 : List Bool := keep_ind_M 5
noncomputable def keep_ind_c5 : Code := codeAt [1, 1, 1, 0, 1, 0, 0] keep_ind_c
def keep_ind_Q5 (K : Kt) : AExit → List AV → Heap → Prop := contAt Tryz.prog keep_ind_M [1, 1, 1, 0, 1, 0] keep_ind_c (retQ Tryz.prog keep_ind_r K)
def keep_ind_l5 (t1 t2 t5 : AV) (H : Heap) (K : Kt) : Prop := ALoop Tryz.prog keep_ind_c5 (keep_ind_Q5 K) (keep_ind_fr5 t1 t2 t5) H
def keep_ind_b5 (t1 t2 t5 : AV) (H : Heap) (K : Kt) (Kb5 : Lt) : Prop :=
  aFld 1 t2 fun t16 =>
  aLoad false 1 t16 H fun t17 =>
  aLen 1 t17 fun t18 =>
  aBin .lss false t5 t18 fun t19 =>
  aTest t19
  (aFld 1 t2 fun t22 =>
  aLoad false 1 t22 H fun t23 =>
  aIdxA 2 t23 t5 fun t25 =>
  aLoad true 2 t25 H fun t26 =>
  ACalls Tryz.prog n_keep_ind [t26, t1] H fun t28 H =>
  aUn .not t28 fun t29 =>
  aTest t29
  (K (.bool false) H)
  (aBin .add false t5 (.int .i64 1) fun t21 =>
  Kb5 (keep_ind_fr5 t1 t2 t21) H))
  (K (.bool true) H)
def keep_ind (t0 t1 : AV) (H : Heap) (K : Kt) : Prop :=
  aBox t0 H fun t2 H =>
  aNil t1 fun t7 =>
  aLoad false 1 t7 H fun t8 =>
  aBin .sub false t8 (.int .i64 1) fun t9 =>
  aNil t1 fun t10 =>
  aStore 1 t10 t9 H fun H =>
  aNil t1 fun t12 =>
  aLoad false 1 t12 H fun t13 =>
  aBin .lss false t13 (.int .i64 0) fun t14 =>
  aTest t14
  (K (.bool false) H)
  (keep_ind_l5 t1 t2 (.int .i64 0) H K)
theorem keep_ind_b5_eq (t1 t2 t5 : AV) (H : Heap) (K : Kt) (Kb5 : Lt) : awp Tryz.prog keep_ind_M keep_ind_c5 (roundQ keep_ind_m5 Kb5 (keep_ind_Q5 K)) (keep_ind_fr5 t1 t2 t5) H = keep_ind_b5 t1 t2 t5 H K Kb5 := by kernel_rfl
theorem keep_ind_loop5 {t1 t2 t5 : AV} {H : Heap} {K : Kt} (Inv : Nat → AV → Heap → Prop) (n : Nat) (h0 : HSc H → Inv n t5 H)
    (round : ∀ n t5 H', Inv n t5 H' → HSc H' → H.length ≤ H'.length → (keep_ind_fr5 t1 t2 t5).all (AV.sc H'.length) = true → ∀ Kb5 : Lt, (∀ F'' H'', (∃ n', n' < n ∧ Back H.length (fun F2 H2 => ∃ t5, F2 = keep_ind_fr5 t1 t2 t5 ∧ Inv n' t5 H2) F'' H'') → Kb5 F'' H'') → keep_ind_b5 t1 t2 t5 H' K Kb5) : keep_ind_l5 t1 t2 t5 H K :=
  aloop (M := keep_ind_M) keep_ind_m5 (fun n F H => ∃ t5, F = keep_ind_fr5 t1 t2 t5 ∧ Inv n t5 H) n (fun hs _ => ⟨t5, rfl, h0 hs⟩) (fun n F H' ⟨t5, hF, hI⟩ h1 h2 h3 => by subst hF; rw [keep_ind_b5_eq]; exact round n t5 H' hI h1 h2 h3 _ (fun _ _ h => h))
theorem keep_ind_eq (t0 t1 : AV) (H : Heap) (K : Kt) : awp Tryz.prog keep_ind_M keep_ind_c (retQ Tryz.prog keep_ind_r K) (t0 :: t1 :: List.replicate 28 .unk) H = keep_ind t0 t1 H K := by kernel_rfl
theorem keep_ind_ok {t0 t1 : AV} {H : Heap} {K : Kt} (h : HSc H → keep_ind t0 t1 H K) : ACalls Tryz.prog n_keep_ind [t0, t1] H K :=
  acalls_body (M := keep_ind_M) Tryz.func60 (c := keep_ind_c) (by kernel_rfl) (fun hs => (keep_ind_eq t0 t1 H K).mpr (h hs))
/-! ### 25: index.Valid -/
def index_Valid_M (_ : Nat) : List Bool := []
noncomputable def index_Valid_c : Code := Tryz.f25.body.getD .skip
noncomputable def index_Valid_r : List ResultVar := Tryz.f25.results.toList
def index_Valid (t0 t1 t2 : AV) (H : Heap) (K : Kt) : Prop :=
  aBox t1 H fun t4 H =>
  aBox t2 H fun t5 H =>
  aLoad true 3 t4 H fun t8 =>
  aLoad true 2 t5 H fun t9 =>
  ACalls Tryz.prog n_index_Degree [t0, t8, t9] H fun t10 H =>
  aBin .geq false t10 (.int .i64 0) fun t11 =>
  K t11 H
theorem index_Valid_eq (t0 t1 t2 : AV) (H : Heap) (K : Kt) : awp Tryz.prog index_Valid_M index_Valid_c (retQ Tryz.prog index_Valid_r K) (t0 :: t1 :: t2 :: List.replicate 9 .unk) H = index_Valid t0 t1 t2 H K := by kernel_rfl
theorem index_Valid_ok {t0 t1 t2 : AV} {H : Heap} {K : Kt} (h : HSc H → index_Valid t0 t1 t2 H K) : ACalls Tryz.prog n_index_Valid [t0, t1, t2] H K :=
  acalls_body (M := index_Valid_M) Tryz.func25 (c := index_Valid_c) (by kernel_rfl) (fun hs => (index_Valid_eq t0 t1 t2 H K).mpr (h hs))
/-! ### 26: amortcostref15.Valid -/
def ref15_Valid_M (_ : Nat) : List Bool := []
noncomputable def ref15_Valid_c : Code := Tryz.f26.body.getD .skip
noncomputable def ref15_Valid_r : List ResultVar := Tryz.f26.results.toList
def ref15_Valid (t0 t1 t2 : AV) (H : Heap) (K : Kt) : Prop :=
  aBox t1 H fun t4 H =>
  aBox t2 H fun t5 H =>
  aLoad true 3 t4 H fun t8 =>
  aLoad true 2 t5 H fun t9 =>
  ACalls Tryz.prog n_ref15_Degree [t0, t8, t9] H fun t10 H =>
  aBin .geq false t10 (.int .i64 0) fun t11 =>
  K t11 H
theorem ref15_Valid_eq (t0 t1 t2 : AV) (H : Heap) (K : Kt) : awp Tryz.prog ref15_Valid_M ref15_Valid_c (retQ Tryz.prog ref15_Valid_r K) (t0 :: t1 :: t2 :: List.replicate 9 .unk) H = ref15_Valid t0 t1 t2 H K := by kernel_rfl
theorem ref15_Valid_ok {t0 t1 t2 : AV} {H : Heap} {K : Kt} (h : HSc H → ref15_Valid t0 t1 t2 H K) : ACalls Tryz.prog n_ref15_Valid [t0, t1, t2] H K :=
  acalls_body (M := ref15_Valid_M) Tryz.func26 (c := ref15_Valid_c) (by kernel_rfl) (fun hs => (ref15_Valid_eq t0 t1 t2 H K).mpr (h hs))
/-! ### 27: index.Degree -/
def index_Degree_M (_ : Nat) : List Bool := []
noncomputable def index_Degree_c : Code := Tryz.f27.body.getD .skip
noncomputable def index_Degree_r : List ResultVar := Tryz.f27.results.toList
def index_Degree (t0 t1 t2 : AV) (H : Heap) (K : Kt) : Prop :=
  aBox t1 H fun t4 H =>
  aBox t2 H fun t5 H =>
  aLoad true 3 t4 H fun t10 =>
  ACalls Tryz.prog n_index_sound [t0, t10] H fun t11 H =>
  aUn .not t11 fun t12 =>
  aTest t12
  (K (.int .i64 (-1)) H)
  (aLoad true 3 t4 H fun t15 =>
  aLoad true 2 t5 H fun t16 =>
  ACalls Tryz.prog n_index_measure [t0, t15, t16] H fun t17 H =>
  aExt t17 0 fun t18 =>
  aExt t17 1 fun t19 =>
  aUn .not t19 fun t21 =>
  aTest t21
  (K (.int .i64 (-1)) H)
  (K t18 H))
theorem index_Degree_eq (t0 t1 t2 : AV) (H : Heap) (K : Kt) : awp Tryz.prog index_Degree_M index_Degree_c (retQ Tryz.prog index_Degree_r K) (t0 :: t1 :: t2 :: List.replicate 20 .unk) H = index_Degree t0 t1 t2 H K := by kernel_rfl
theorem index_Degree_ok {t0 t1 t2 : AV} {H : Heap} {K : Kt} (h : HSc H → index_Degree t0 t1 t2 H K) : ACalls Tryz.prog n_index_Degree [t0, t1, t2] H K :=
  acalls_body (M := index_Degree_M) Tryz.func27 (c := index_Degree_c) (by kernel_rfl) (fun hs => (index_Degree_eq t0 t1 t2 H K).mpr (h hs))
/-! ### 28: amortcostref15.Degree -/
def ref15_Degree_M (_ : Nat) : List Bool := []
noncomputable def ref15_Degree_c : Code := Tryz.f28.body.getD .skip
noncomputable def ref15_Degree_r : List ResultVar := Tryz.f28.results.toList
def ref15_Degree (t0 t1 t2 : AV) (H : Heap) (K : Kt) : Prop :=
  aBox t1 H fun t4 H =>
  aBox t2 H fun t5 H =>
  aLoad true 3 t4 H fun t8 =>
  ACalls Tryz.prog n_ref15_Fine [t0, t8] H fun t9 H =>
  aUn .not t9 fun t10 =>
  aTest t10
  (K (.int .i64 (-1)) H)
  (aLoad true 3 t4 H fun t12 =>
  aLoad true 2 t5 H fun t13 =>
  ACalls Tryz.prog n_ref15_degree [t0, t12, t13] H fun t14 H =>
  K t14 H)
theorem ref15_Degree_eq (t0 t1 t2 : AV) (H : Heap) (K : Kt) : awp Tryz.prog ref15_Degree_M ref15_Degree_c (retQ Tryz.prog ref15_Degree_r K) (t0 :: t1 :: t2 :: List.replicate 12 .unk) H = ref15_Degree t0 t1 t2 H K := by kernel_rfl
theorem ref15_Degree_ok {t0 t1 t2 : AV} {H : Heap} {K : Kt} (h : HSc H → ref15_Degree t0 t1 t2 H K) : ACalls Tryz.prog n_ref15_Degree [t0, t1, t2] H K :=
  acalls_body (M := ref15_Degree_M) Tryz.func28 (c := ref15_Degree_c) (by kernel_rfl) (fun hs => (ref15_Degree_eq t0 t1 t2 H K).mpr (h hs))
/-! ### 61: index.sound -/
def index_sound_M (_ : Nat) : List Bool := []
noncomputable def index_sound_c : Code := Tryz.f61.body.getD .skip
noncomputable def index_sound_r : List ResultVar := Tryz.f61.results.toList
def index_sound (t0 t1 : AV) (H : Heap) (K : Kt) : Prop :=
  aBox t1 H fun t3 H =>
  aBuild [.snil, .snil, .snil, .snil] [(0, 1), (1, 1), (2, 1), (3, 1)] [(0, t0)] fun t6 =>
  ACalls Tryz.prog n_core_Valid [t6] H fun t7 H =>
  aGuardJ t7 true H (fun K' => K' t0 H) fun t9 H =>
  aGuardJ t7 true H (fun K' => aLoad true 3 t3 H (K' · H)) fun t10 H =>
  aGuardJ t7 true H (fun K' => ACalls Tryz.prog n_typing_Valid [t9, t10, (.int .i64 0)] H K') fun t11 H =>
  aPick t7 t11 (.bool false) fun t12 =>
  K t12 H
theorem index_sound_eq (t0 t1 : AV) (H : Heap) (K : Kt) : awp Tryz.prog index_sound_M index_sound_c (retQ Tryz.prog index_sound_r K) (t0 :: t1 :: List.replicate 11 .unk) H = index_sound t0 t1 H K := by kernel_rfl
theorem index_sound_ok {t0 t1 : AV} {H : Heap} {K : Kt} (h : HSc H → index_sound t0 t1 H K) : ACalls Tryz.prog n_index_sound [t0, t1] H K :=
  acalls_body (M := index_sound_M) Tryz.func61 (c := index_sound_c) (by kernel_rfl) (fun hs => (index_sound_eq t0 t1 H K).mpr (h hs))
/-! ### 62: index.measure -/
def index_measure_M : Nat → List Bool
  | 13 => rl false [0,1,3,1,3,1,44,3,42]
  | _ => []
noncomputable def index_measure_c : Code := Tryz.f62.body.getD .skip
noncomputable def index_measure_r : List ResultVar := Tryz.f62.results.toList
def index_measure_fr13 (t0 t4 t8 t53 t54 t55 : AV) : List AV := t0 :: ux 3 (t4 :: ux 3 (t8 :: ux 44 (t53 :: t54 :: t55 :: ux 42 [])))
def index_measure_m13 : List Bool := index_measure_M 13
noncomputable def index_measure_c13 : Code := codeAt [1, 0, 1, 0, 1, 1, 1, 1, 1, 0, 1, 1, 0, 1, 0, 0] index_measure_c
def index_measure_Q13 (K : Kt) : AExit → List AV → Heap → Prop := contAt Tryz.prog index_measure_M [1, 0, 1, 0, 1, 1, 1, 1, 1, 0, 1, 1, 0, 1, 0] index_measure_c (retQ Tryz.prog index_measure_r K)
def index_measure_l13 (t0 t4 t8 t53 t54 t55 : AV) (H : Heap) (K : Kt) : Prop := ALoop Tryz.prog index_measure_c13 (index_measure_Q13 K) (index_measure_fr13 t0 t4 t8 t53 t54 t55) H
def index_measure_b13 (t0 t4 t8 t53 t54 t55 : AV) (H : Heap) (K : Kt) (Kb13 : Lt) : Prop :=
  aBin .lss false t55 t54 fun t56 =>
  aTest t56
  (aIdxA 2 t53 t55 fun t57 =>
  aLoad true 2 t57 H fun t58 =>
  aNew [(.int .i64 0), .snil] H fun t10 H =>
  aStore 2 t10 t58 H fun H =>
  aLoad true 3 t4 H fun t61 =>
  aFld 0 t10 fun t62 =>
  aLoad false 1 t62 H fun t63 =>
  ACalls Tryz.prog n_index_payloadTypes [t0, t61, t63] H fun t64 H =>
  aExt t64 0 fun t65 =>
  aExt t64 1 fun t66 =>
  aUn .not t66 fun t68 =>
  aTest t68
  (aRet [(.int .i64 0), (.bool false)] (K · H))
  (aFld 1 t10 fun t72 =>
  aLoad false 1 t72 H fun t73 =>
  ACalls Tryz.prog n_index_total [t0, t65, t73] H fun t74 H =>
  aExt t74 0 fun t75 =>
  aExt t74 1 fun t76 =>
  aBin .add false (.int .i64 1) t75 fun t79 =>
  aBin .add false t8 t79 fun t80 =>
  aUn .not t76 fun t82 =>
  aGuardJ t82 false H (fun K' => K' t80 H) fun t84 H =>
  aGuardJ t82 false H (fun K' => aBin .gtr false t84 (.int .i64 6) (K' · H)) fun t85 H =>
  aPick t82 (.bool true) t85 fun t86 =>
  aTest t86
  (aRet [(.int .i64 0), (.bool false)] (K · H))
  (aBin .add false t55 (.int .i64 1) fun t87 =>
  Kb13 (index_measure_fr13 t0 t4 t80 t53 t54 t87) H)))
  (aRet [t8, (.bool true)] (K · H))
def index_measure (t0 t1 t2 : AV) (H : Heap) (K : Kt) : Prop :=
  aBox t1 H fun t4 H =>
  aBox t2 H fun t5 H =>
  aFld 0 t4 fun t14 =>
  aLoad false 1 t14 H fun t15 =>
  aBin .eql false t15 (.int .i64 6) fun t17 =>
  aTest t17
  (aFld 0 t5 fun t18 =>
  aLoad false 1 t18 H fun t19 =>
  aBin .neq false t19 (.int .i64 0) fun t20 =>
  aTest t20
  (aRet [(.int .i64 0), (.bool false)] (K · H))
  (aFld 2 t4 fun t22 =>
  aLoad false 1 t22 H fun t23 =>
  aFld 1 t5 fun t24 =>
  aLoad false 1 t24 H fun t25 =>
  ACalls Tryz.prog n_index_total [t0, t23, t25] H fun t26 H =>
  aExt t26 0 fun t27 =>
  aExt t26 1 fun t28 =>
  aRet [t27, t28] (K · H)))
  (aBin .eql false t15 (.int .i64 7) fun t30 =>
  aTest t30
  (aPure H (fun K' => aFld 0 t5 (K' · H)) fun t31 =>
  aPure H (fun K' => aLoadC false 1 t31 H (K' · H)) fun t32 =>
  aPure H (fun K' => aFld 0 t5 (K' · H)) fun t33 =>
  aPure H (fun K' => aLoadC false 1 t33 H (K' · H)) fun t34 =>
  aPure H (fun K' => aBin .geq false t34 (.int .i64 0) (K' · H)) fun t35 =>
  aPure H (fun K' => K' t35 H) fun t36 =>
  aGuardJ t36 true H (fun K' => aPure H (fun K'' => aFld 0 t5 (K'' · H)) (K' · H)) fun t37 H =>
  aGuardJ t36 true H (fun K' => aPure H (fun K'' => aLoadC false 1 t37 H (K'' · H)) (K' · H)) fun t38 H =>
  aGuardJ t36 true H (fun K' => aPure H (fun K'' => aBin .leq false t38 (.int .i64 6) (K'' · H)) (K' · H)) fun t39 H =>
  aPure H (fun K' => aPick t36 t39 (.bool false) (K' · H)) fun t40 =>
  aPure H (fun K' => K' t40 H) fun t41 =>
  aGuardJ t41 true H (fun K' => aPure H (fun K'' => aFld 1 t5 (K'' · H)) (K' · H)) fun t42 H =>
  aGuardJ t41 true H (fun K' => aPure H (fun K'' => aLoadC false 1 t42 H (K'' · H)) (K' · H)) fun t43 H =>
  aGuardJ t41 true H (fun K' => aPure H (fun K'' => aLen 1 t43 (K'' · H)) (K' · H)) fun t44 H =>
  aGuardJ t41 true H (fun K' => aPure H (fun K'' => aBin .eql false t44 (.int .i64 0) (K'' · H)) (K' · H)) fun t45 H =>
  aPure H (fun K' => aPick t41 t45 (.bool false) (K' · H)) fun t46 =>
  aPure H (fun K' => K' t32 H) fun t6 =>
  aPure H (fun K' => K' t46 H) fun t7 =>
  aRet [t6, t7] (K · H))
  (aBin .eql false t15 (.int .i64 5) fun t48 =>
  aTest t48
  (aFld 0 t5 fun t49 =>
  aLoad false 1 t49 H fun t50 =>
  aBin .neq false t50 (.int .i64 0) fun t51 =>
  aTest t51
  (aRet [(.int .i64 0), (.bool false)] (K · H))
  (aFld 1 t5 fun t52 =>
  aLoad false 1 t52 H fun t53 =>
  aLen 1 t53 fun t54 =>
  index_measure_l13 t0 t4 (.int .i64 0) t53 t54 (.int .i64 0) H K))
  (aPure H (fun K' => aFld 0 t5 (K' · H)) fun t89 =>
  aPure H (fun K' => aLoadC false 1 t89 H (K' · H)) fun t90 =>
  aPure H (fun K' => aBin .eql false t90 (.int .i64 0) (K' · H)) fun t91 =>
  aPure H (fun K' => K' t91 H) fun t92 =>
  aGuardJ t92 true H (fun K' => aPure H (fun K'' => aFld 1 t5 (K'' · H)) (K' · H)) fun t93 H =>
  aGuardJ t92 true H (fun K' => aPure H (fun K'' => aLoadC false 1 t93 H (K'' · H)) (K' · H)) fun t94 H =>
  aGuardJ t92 true H (fun K' => aPure H (fun K'' => aLen 1 t94 (K'' · H)) (K' · H)) fun t95 H =>
  aGuardJ t92 true H (fun K' => aPure H (fun K'' => aBin .eql false t95 (.int .i64 0) (K'' · H)) (K' · H)) fun t96 H =>
  aPure H (fun K' => aPick t92 t96 (.bool false) (K' · H)) fun t97 =>
  aPure H (fun K' => K' (.int .i64 0) H) fun t6 =>
  aPure H (fun K' => K' t97 H) fun t7 =>
  aRet [t6, t7] (K · H))))
theorem index_measure_b13_eq (t0 t4 t8 t53 t54 t55 : AV) (H : Heap) (K : Kt) (Kb13 : Lt) : awp Tryz.prog index_measure_M index_measure_c13 (roundQ index_measure_m13 Kb13 (index_measure_Q13 K)) (index_measure_fr13 t0 t4 t8 t53 t54 t55) H = index_measure_b13 t0 t4 t8 t53 t54 t55 H K Kb13 := by kernel_rfl
theorem index_measure_loop13 {t0 t4 t8 t53 t54 t55 : AV} {H : Heap} {K : Kt} (Inv : Nat → AV → AV → Heap → Prop) (n : Nat) (h0 : HSc H → Inv n t8 t55 H)
    (round : ∀ n t8 t55 H', Inv n t8 t55 H' → HSc H' → H.length ≤ H'.length → (index_measure_fr13 t0 t4 t8 t53 t54 t55).all (AV.sc H'.length) = true → ∀ Kb13 : Lt, (∀ F'' H'', (∃ n', n' < n ∧ Back H.length (fun F2 H2 => ∃ t8 t55, F2 = index_measure_fr13 t0 t4 t8 t53 t54 t55 ∧ Inv n' t8 t55 H2) F'' H'') → Kb13 F'' H'') → index_measure_b13 t0 t4 t8 t53 t54 t55 H' K Kb13) : index_measure_l13 t0 t4 t8 t53 t54 t55 H K :=
  aloop (M := index_measure_M) index_measure_m13 (fun n F H => ∃ t8 t55, F = index_measure_fr13 t0 t4 t8 t53 t54 t55 ∧ Inv n t8 t55 H) n (fun hs _ => ⟨t8, t55, rfl, h0 hs⟩) (fun n F H' ⟨t8, t55, hF, hI⟩ h1 h2 h3 => by subst hF; rw [index_measure_b13_eq]; exact round n t8 t55 H' hI h1 h2 h3 _ (fun _ _ h => h))
theorem index_measure_eq (t0 t1 t2 : AV) (H : Heap) (K : Kt) : awp Tryz.prog index_measure_M index_measure_c (retQ Tryz.prog index_measure_r K) (t0 :: t1 :: t2 :: List.replicate 95 .unk) H = index_measure t0 t1 t2 H K := by kernel_rfl
theorem index_measure_ok {t0 t1 t2 : AV} {H : Heap} {K : Kt} (h : HSc H → index_measure t0 t1 t2 H K) : ACalls Tryz.prog n_index_measure [t0, t1, t2] H K :=
  acalls_body (M := index_measure_M) Tryz.func62 (c := index_measure_c) (by kernel_rfl) (fun hs => (index_measure_eq t0 t1 t2 H K).mpr (h hs))
/-! ### 63: amortcostref15.Fine -/
def ref15_Fine_M (_ : Nat) : List Bool := []
noncomputable def ref15_Fine_c : Code := Tryz.f63.body.getD .skip
noncomputable def ref15_Fine_r : List ResultVar := Tryz.f63.results.toList
def ref15_Fine (t0 t1 : AV) (H : Heap) (K : Kt) : Prop :=
  aBox t1 H fun t3 H =>
  ACalls Tryz.prog n_ref9_ValidData [t0] H fun t6 H =>
  aGuardJ t6 true H (fun K' => K' t0 H) fun t8 H =>
  aGuardJ t6 true H (fun K' => aLoad true 3 t3 H (K' · H)) fun t9 H =>
  aGuardJ t6 true H (fun K' => ACalls Tryz.prog n_ref6_Valid [t8, t9, (.int .i64 0)] H K') fun t10 H =>
  aPick t6 t10 (.bool false) fun t11 =>
  K t11 H
theorem ref15_Fine_eq (t0 t1 : AV) (H : Heap) (K : Kt) : awp Tryz.prog ref15_Fine_M ref15_Fine_c (retQ Tryz.prog ref15_Fine_r K) (t0 :: t1 :: List.replicate 10 .unk) H = ref15_Fine t0 t1 H K := by kernel_rfl
theorem ref15_Fine_ok {t0 t1 : AV} {H : Heap} {K : Kt} (h : HSc H → ref15_Fine t0 t1 H K) : ACalls Tryz.prog n_ref15_Fine [t0, t1] H K :=
  acalls_body (M := ref15_Fine_M) Tryz.func63 (c := ref15_Fine_c) (by kernel_rfl) (fun hs => (ref15_Fine_eq t0 t1 H K).mpr (h hs))
end Go.Proofs.YtfpmdpldabopjaaGreatDoor
namespace Go.Proofs.YtfpmdpldabopjaaGreatDoor
open Go Go.Abs
set_option linter.unusedVariables false
set_option maxRecDepth 100000
/-! ### 64: amortcostref15.degree -/
def ref15_degree_M : Nat → List Bool
  | 15 => rl false [0,1,3,1,2,1,48,3,50]
  | _ => []
noncomputable def ref15_degree_c : Code := Tryz.f64.body.getD .skip
noncomputable def ref15_degree_r : List ResultVar := Tryz.f64.results.toList
def ref15_degree_fr15 (t0 t4 t7 t56 t57 t58 : AV) : List AV := t0 :: ux 3 (t4 :: ux 2 (t7 :: ux 48 (t56 :: t57 :: t58 :: ux 50 [])))
def ref15_degree_m15 : List Bool := ref15_degree_M 15
noncomputable def ref15_degree_c15 : Code := codeAt [1, 0, 1, 0, 1, 1, 1, 1, 1, 0, 1, 1, 0, 1, 0, 0] ref15_degree_c
def ref15_degree_Q15 (K : Kt) : AExit → List AV → Heap → Prop := contAt Tryz.prog ref15_degree_M [1, 0, 1, 0, 1, 1, 1, 1, 1, 0, 1, 1, 0, 1, 0] ref15_degree_c (retQ Tryz.prog ref15_degree_r K)
def ref15_degree_l15 (t0 t4 t7 t56 t57 t58 : AV) (H : Heap) (K : Kt) : Prop := ALoop Tryz.prog ref15_degree_c15 (ref15_degree_Q15 K) (ref15_degree_fr15 t0 t4 t7 t56 t57 t58) H
def ref15_degree_b15 (t0 t4 t7 t56 t57 t58 : AV) (H : Heap) (K : Kt) (Kb15 : Lt) : Prop :=
  aBin .lss false t58 t57 fun t59 =>
  aTest t59
  (aIdxA 2 t56 t58 fun t60 =>
  aLoad true 2 t60 H fun t61 =>
  aNew [(.int .i64 0), .snil] H fun t9 H =>
  aStore 2 t9 t61 H fun H =>
  aFld 0 t9 fun t62 =>
  aLoad false 1 t62 H fun t63 =>
  aBin .lss false t63 (.int .i64 0) fun t64 =>
  aGuardJ t64 false H (fun K' => aFld 0 t9 (K' · H)) fun t66 H =>
  aGuardJ t64 false H (fun K' => aLoad false 1 t66 H (K' · H)) fun t67 H =>
  aGuardJ t64 false H (fun K' => aBin .geq false t67 (.int .i64 8) (K' · H)) fun t68 H =>
  aPick t64 (.bool true) t68 fun t69 =>
  aTest t69
  (K (.int .i64 (-1)) H)
  (aLoad true 3 t4 H fun t72 =>
  aFld 0 t9 fun t73 =>
  aLoad false 1 t73 H fun t74 =>
  ACalls Tryz.prog n_ref15_PayloadTypes [t0, t72, t74] H fun t75 H =>
  aExt t75 0 fun t76 =>
  aExt t75 1 fun t77 =>
  aUn .not t77 fun t79 =>
  aTest t79
  (K (.int .i64 (-1)) H)
  (aFld 1 t9 fun t82 =>
  aLoad false 1 t82 H fun t83 =>
  ACalls Tryz.prog n_ref15_degrees [t0, t76, t83] H fun t84 H =>
  aBin .lss false t84 (.int .i64 0) fun t86 =>
  aGuardJ t86 false H (fun K' => K' t7 H) fun t88 H =>
  aGuardJ t86 false H (fun K' => aBin .add false t88 (.int .i64 1) (K' · H)) fun t89 H =>
  aGuardJ t86 false H (fun K' => K' t84 H) fun t90 H =>
  aGuardJ t86 false H (fun K' => aBin .add false t89 t90 (K' · H)) fun t91 H =>
  aGuardJ t86 false H (fun K' => aBin .gtr false t91 (.int .i64 6) (K' · H)) fun t92 H =>
  aPick t86 (.bool true) t92 fun t93 =>
  aTest t93
  (K (.int .i64 (-1)) H)
  (aBin .add false (.int .i64 1) t84 fun t96 =>
  aBin .add false t7 t96 fun t97 =>
  aBin .add false t58 (.int .i64 1) fun t98 =>
  Kb15 (ref15_degree_fr15 t0 t4 t97 t56 t57 t98) H))))
  (K t7 H)
def ref15_degree (t0 t1 t2 : AV) (H : Heap) (K : Kt) : Prop :=
  aBox t1 H fun t4 H =>
  aBox t2 H fun t5 H =>
  aFld 0 t4 fun t13 =>
  aLoad false 1 t13 H fun t14 =>
  aBin .eql false t14 (.int .i64 6) fun t16 =>
  aTest t16
  (aFld 0 t5 fun t17 =>
  aLoad false 1 t17 H fun t18 =>
  aBin .neq false t18 (.int .i64 0) fun t19 =>
  aTest t19
  (K (.int .i64 (-1)) H)
  (aFld 2 t4 fun t21 =>
  aLoad false 1 t21 H fun t22 =>
  aFld 1 t5 fun t23 =>
  aLoad false 1 t23 H fun t24 =>
  ACalls Tryz.prog n_ref15_degrees [t0, t22, t24] H fun t25 H =>
  K t25 H))
  (aBin .eql false t14 (.int .i64 7) fun t27 =>
  aTest t27
  (aFld 0 t5 fun t28 =>
  aLoad false 1 t28 H fun t29 =>
  aBin .lss false t29 (.int .i64 0) fun t30 =>
  aGuardJ t30 false H (fun K' => aFld 0 t5 (K' · H)) fun t32 H =>
  aGuardJ t30 false H (fun K' => aLoad false 1 t32 H (K' · H)) fun t33 H =>
  aGuardJ t30 false H (fun K' => aBin .gtr false t33 (.int .i64 6) (K' · H)) fun t34 H =>
  aPick t30 (.bool true) t34 fun t35 =>
  aGuardJ t35 false H (fun K' => aFld 1 t5 (K' · H)) fun t37 H =>
  aGuardJ t35 false H (fun K' => aLoad false 1 t37 H (K' · H)) fun t38 H =>
  aGuardJ t35 false H (fun K' => aLen 1 t38 (K' · H)) fun t39 H =>
  aGuardJ t35 false H (fun K' => aBin .gtr false t39 (.int .i64 0) (K' · H)) fun t40 H =>
  aPick t35 (.bool true) t40 fun t41 =>
  aTest t41
  (K (.int .i64 (-1)) H)
  (aFld 0 t5 fun t42 =>
  aLoad false 1 t42 H fun t43 =>
  K t43 H))
  (aBin .eql false t14 (.int .i64 5) fun t45 =>
  aTest t45
  (aFld 0 t5 fun t46 =>
  aLoad false 1 t46 H fun t47 =>
  aBin .neq false t47 (.int .i64 0) fun t48 =>
  aGuardJ t48 false H (fun K' => aFld 1 t5 (K' · H)) fun t50 H =>
  aGuardJ t48 false H (fun K' => aLoad false 1 t50 H (K' · H)) fun t51 H =>
  aGuardJ t48 false H (fun K' => aLen 1 t51 (K' · H)) fun t52 H =>
  aGuardJ t48 false H (fun K' => aBin .gtr false t52 (.int .i64 6) (K' · H)) fun t53 H =>
  aPick t48 (.bool true) t53 fun t54 =>
  aTest t54
  (K (.int .i64 (-1)) H)
  (aFld 1 t5 fun t55 =>
  aLoad false 1 t55 H fun t56 =>
  aLen 1 t56 fun t57 =>
  ref15_degree_l15 t0 t4 (.int .i64 0) t56 t57 (.int .i64 0) H K))
  (aFld 0 t5 fun t100 =>
  aLoad false 1 t100 H fun t101 =>
  aBin .neq false t101 (.int .i64 0) fun t102 =>
  aGuardJ t102 false H (fun K' => aFld 1 t5 (K' · H)) fun t104 H =>
  aGuardJ t102 false H (fun K' => aLoad false 1 t104 H (K' · H)) fun t105 H =>
  aGuardJ t102 false H (fun K' => aLen 1 t105 (K' · H)) fun t106 H =>
  aGuardJ t102 false H (fun K' => aBin .gtr false t106 (.int .i64 0) (K' · H)) fun t107 H =>
  aPick t102 (.bool true) t107 fun t108 =>
  aTest t108
  (K (.int .i64 (-1)) H)
  (K (.int .i64 0) H))))
theorem ref15_degree_b15_eq (t0 t4 t7 t56 t57 t58 : AV) (H : Heap) (K : Kt) (Kb15 : Lt) : awp Tryz.prog ref15_degree_M ref15_degree_c15 (roundQ ref15_degree_m15 Kb15 (ref15_degree_Q15 K)) (ref15_degree_fr15 t0 t4 t7 t56 t57 t58) H = ref15_degree_b15 t0 t4 t7 t56 t57 t58 H K Kb15 := by kernel_rfl
theorem ref15_degree_loop15 {t0 t4 t7 t56 t57 t58 : AV} {H : Heap} {K : Kt} (Inv : Nat → AV → AV → Heap → Prop) (n : Nat) (h0 : HSc H → Inv n t7 t58 H)
    (round : ∀ n t7 t58 H', Inv n t7 t58 H' → HSc H' → H.length ≤ H'.length → (ref15_degree_fr15 t0 t4 t7 t56 t57 t58).all (AV.sc H'.length) = true → ∀ Kb15 : Lt, (∀ F'' H'', (∃ n', n' < n ∧ Back H.length (fun F2 H2 => ∃ t7 t58, F2 = ref15_degree_fr15 t0 t4 t7 t56 t57 t58 ∧ Inv n' t7 t58 H2) F'' H'') → Kb15 F'' H'') → ref15_degree_b15 t0 t4 t7 t56 t57 t58 H' K Kb15) : ref15_degree_l15 t0 t4 t7 t56 t57 t58 H K :=
  aloop (M := ref15_degree_M) ref15_degree_m15 (fun n F H => ∃ t7 t58, F = ref15_degree_fr15 t0 t4 t7 t56 t57 t58 ∧ Inv n t7 t58 H) n (fun hs _ => ⟨t7, t58, rfl, h0 hs⟩) (fun n F H' ⟨t7, t58, hF, hI⟩ h1 h2 h3 => by subst hF; rw [ref15_degree_b15_eq]; exact round n t7 t58 H' hI h1 h2 h3 _ (fun _ _ h => h))
theorem ref15_degree_eq (t0 t1 t2 : AV) (H : Heap) (K : Kt) : awp Tryz.prog ref15_degree_M ref15_degree_c (retQ Tryz.prog ref15_degree_r K) (t0 :: t1 :: t2 :: List.replicate 106 .unk) H = ref15_degree t0 t1 t2 H K := by kernel_rfl
theorem ref15_degree_ok {t0 t1 t2 : AV} {H : Heap} {K : Kt} (h : HSc H → ref15_degree t0 t1 t2 H K) : ACalls Tryz.prog n_ref15_degree [t0, t1, t2] H K :=
  acalls_body (M := ref15_degree_M) Tryz.func64 (c := ref15_degree_c) (by kernel_rfl) (fun hs => (ref15_degree_eq t0 t1 t2 H K).mpr (h hs))
/-! ### 108: index.total -/
def index_total_M : Nat → List Bool
  | 5 => rl false [0,1,1,1,5,1,9,3,23]
  | _ => []
noncomputable def index_total_c : Code := Tryz.f108.body.getD .skip
noncomputable def index_total_r : List ResultVar := Tryz.f108.results.toList
def index_total_fr5 (t0 t2 t8 t18 t19 t20 : AV) : List AV := t0 :: ux 1 (t2 :: ux 5 (t8 :: ux 9 (t18 :: t19 :: t20 :: ux 23 [])))
def index_total_m5 : List Bool := index_total_M 5
noncomputable def index_total_c5 : Code := codeAt [1, 1, 1, 0, 1, 0, 0] index_total_c
def index_total_Q5 (K : Kt) : AExit → List AV → Heap → Prop := contAt Tryz.prog index_total_M [1, 1, 1, 0, 1, 0] index_total_c (retQ Tryz.prog index_total_r K)
def index_total_l5 (t0 t2 t8 t18 t19 t20 : AV) (H : Heap) (K : Kt) : Prop := ALoop Tryz.prog index_total_c5 (index_total_Q5 K) (index_total_fr5 t0 t2 t8 t18 t19 t20) H
def index_total_b5 (t0 t2 t8 t18 t19 t20 : AV) (H : Heap) (K : Kt) (Kb5 : Lt) : Prop :=
  aBin .lss false t20 t19 fun t21 =>
  aTest t21
  (aIdxA 3 t18 t20 fun t23 =>
  aLoad true 3 t23 H fun t24 =>
  aNew [(.int .i64 0), (.int .i64 0), .snil] H fun t10 H =>
  aStore 3 t10 t24 H fun H =>
  aPure H (fun K' => K' t0 H) fun t26 =>
  aPure H (fun K' => aLoadC true 3 t10 H (K' · H)) fun t27 =>
  aPure H (fun K' => K' t2 H) fun t28 =>
  aPure H (fun K' => K' t20 H) fun t29 =>
  aPure H (fun K' => aIdxA 2 t28 t29 (K' · H)) fun t30 =>
  aPure H (fun K' => aLoadC true 2 t30 H (K' · H)) fun t31 =>
  aPureX H (fun H K' => ACalls Tryz.prog n_index_measure [t26, t27, t31] H K') fun t32 =>
  aPure H (fun K' => K' t32 H) fun t25 =>
  aPure H (fun K' => aExt t25 0 (K' · H)) fun t33 =>
  aPure H (fun K' => aExt t25 1 (K' · H)) fun t34 =>
  aPure H (fun K' => K' t33 H) fun t11 =>
  aPure H (fun K' => K' t34 H) fun t12 =>
  aUn .not t12 fun t36 =>
  aTest t36
  (aRet [(.int .i64 0), (.bool false)] (K · H))
  (aBin .add false t8 t11 fun t39 =>
  aBin .add false t20 (.int .i64 1) fun t40 =>
  Kb5 (index_total_fr5 t0 t2 t39 t18 t19 t40) H))
  (aBin .leq false t8 (.int .i64 6) fun t43 =>
  aRet [t8, t43] (K · H))
def index_total (t0 t1 t2 : AV) (H : Heap) (K : Kt) : Prop :=
  aLen 1 t1 fun t14 =>
  aLen 1 t2 fun t16 =>
  aBin .neq false t14 t16 fun t17 =>
  aTest t17
  (aRet [(.int .i64 0), (.bool false)] (K · H))
  (aLen 1 t1 fun t19 =>
  index_total_l5 t0 t2 (.int .i64 0) t1 t19 (.int .i64 0) H K)
theorem index_total_b5_eq (t0 t2 t8 t18 t19 t20 : AV) (H : Heap) (K : Kt) (Kb5 : Lt) : awp Tryz.prog index_total_M index_total_c5 (roundQ index_total_m5 Kb5 (index_total_Q5 K)) (index_total_fr5 t0 t2 t8 t18 t19 t20) H = index_total_b5 t0 t2 t8 t18 t19 t20 H K Kb5 := by kernel_rfl
theorem index_total_loop5 {t0 t2 t8 t18 t19 t20 : AV} {H : Heap} {K : Kt} (Inv : Nat → AV → AV → Heap → Prop) (n : Nat) (h0 : HSc H → Inv n t8 t20 H)
    (round : ∀ n t8 t20 H', Inv n t8 t20 H' → HSc H' → H.length ≤ H'.length → (index_total_fr5 t0 t2 t8 t18 t19 t20).all (AV.sc H'.length) = true → ∀ Kb5 : Lt, (∀ F'' H'', (∃ n', n' < n ∧ Back H.length (fun F2 H2 => ∃ t8 t20, F2 = index_total_fr5 t0 t2 t8 t18 t19 t20 ∧ Inv n' t8 t20 H2) F'' H'') → Kb5 F'' H'') → index_total_b5 t0 t2 t8 t18 t19 t20 H' K Kb5) : index_total_l5 t0 t2 t8 t18 t19 t20 H K :=
  aloop (M := index_total_M) index_total_m5 (fun n F H => ∃ t8 t20, F = index_total_fr5 t0 t2 t8 t18 t19 t20 ∧ Inv n t8 t20 H) n (fun hs _ => ⟨t8, t20, rfl, h0 hs⟩) (fun n F H' ⟨t8, t20, hF, hI⟩ h1 h2 h3 => by subst hF; rw [index_total_b5_eq]; exact round n t8 t20 H' hI h1 h2 h3 _ (fun _ _ h => h))
theorem index_total_eq (t0 t1 t2 : AV) (H : Heap) (K : Kt) : awp Tryz.prog index_total_M index_total_c (retQ Tryz.prog index_total_r K) (t0 :: t1 :: t2 :: List.replicate 41 .unk) H = index_total t0 t1 t2 H K := by kernel_rfl
theorem index_total_ok {t0 t1 t2 : AV} {H : Heap} {K : Kt} (h : HSc H → index_total t0 t1 t2 H K) : ACalls Tryz.prog n_index_total [t0, t1, t2] H K :=
  acalls_body (M := index_total_M) Tryz.func108 (c := index_total_c) (by kernel_rfl) (fun hs => (index_total_eq t0 t1 t2 H K).mpr (h hs))
/-! ### 109: index.payloadTypes -/
def index_payloadTypes_M : Nat → List Bool
  | 6 => rl false [8,1,1,1,15,3,15]
  | _ => []
noncomputable def index_payloadTypes_c : Code := Tryz.f109.body.getD .skip
noncomputable def index_payloadTypes_r : List ResultVar := Tryz.f109.results.toList
def index_payloadTypes_fr6 (t8 t10 t26 t27 t28 : AV) : List AV := ux 8 (t8 :: ux 1 (t10 :: ux 15 (t26 :: t27 :: t28 :: ux 15 [])))
def index_payloadTypes_m6 : List Bool := index_payloadTypes_M 6
noncomputable def index_payloadTypes_c6 : Code := codeAt [1, 1, 1, 1, 0, 1, 0, 0] index_payloadTypes_c
def index_payloadTypes_Q6 (K : Kt) : AExit → List AV → Heap → Prop := contAt Tryz.prog index_payloadTypes_M [1, 1, 1, 1, 0, 1, 0] index_payloadTypes_c (retQ Tryz.prog index_payloadTypes_r K)
def index_payloadTypes_l6 (t8 t10 t26 t27 t28 : AV) (H : Heap) (K : Kt) : Prop := ALoop Tryz.prog index_payloadTypes_c6 (index_payloadTypes_Q6 K) (index_payloadTypes_fr6 t8 t10 t26 t27 t28) H
def index_payloadTypes_j2 (t8 t10 t26 t27 t28 : AV) (H : Heap) (K : Kt) (Kb6 : Lt) : Prop :=
  aBin .add false t28 (.int .i64 1) fun t42 =>
  Kb6 (index_payloadTypes_fr6 t8 t10 t26 t27 t42) H
def index_payloadTypes_j1 (t8 t10 t26 t27 t28 : AV) (H : Heap) (K : Kt) (Kb6 : Lt) : Prop :=
  index_payloadTypes_j2 t8 t10 t26 t27 t28 H K Kb6
def index_payloadTypes_b6 (t8 t10 t26 t27 t28 : AV) (H : Heap) (K : Kt) (Kb6 : Lt) : Prop :=
  aBin .lss false t28 t27 fun t29 =>
  aTest t29
  (aIdxA 1 t26 t28 fun t31 =>
  aLoad false 1 t31 H fun t32 =>
  aUn .not t32 fun t34 =>
  aTest t34
  (aIdxA 3 t8 t28 fun t38 =>
  aLoad true 3 t38 H fun t39 =>
  aBuildS 3 [(.int .i64 0), (.int .i64 0), .snil] 1 [(0, t39)] fun t40 =>
  aAppend e_api_Type 3 40 t10 t40 H fun t41 H =>
  index_payloadTypes_j1 t8 t41 t26 t27 t28 H K Kb6)
  (index_payloadTypes_j1 t8 t10 t26 t27 t28 H K Kb6))
  (aRet [t10, (.bool true)] (K · H))
def index_payloadTypes (t0 t1 t2 : AV) (H : Heap) (K : Kt) : Prop :=
  aBox t1 H fun t4 H =>
  aLoad true 3 t4 H fun t15 =>
  ACalls Tryz.prog n_typing_Fields [t0, t15, t2] H fun t17 H =>
  aExt t17 0 fun t18 =>
  aExt t17 1 fun t19 =>
  aUn .not t19 fun t21 =>
  aTest t21
  (aRet [.snil, (.bool false)] (K · H))
  (aFld 1 t4 fun t23 =>
  aLoad false 1 t23 H fun t24 =>
  ACalls Tryz.prog n_scope_Recursive [t0, t24, t2] H fun t26 H =>
  aLen 1 t26 fun t27 =>
  index_payloadTypes_l6 t18 .snil t26 t27 (.int .i64 0) H K)
theorem index_payloadTypes_b6_eq (t8 t10 t26 t27 t28 : AV) (H : Heap) (K : Kt) (Kb6 : Lt) : awp Tryz.prog index_payloadTypes_M index_payloadTypes_c6 (roundQ index_payloadTypes_m6 Kb6 (index_payloadTypes_Q6 K)) (index_payloadTypes_fr6 t8 t10 t26 t27 t28) H = index_payloadTypes_b6 t8 t10 t26 t27 t28 H K Kb6 := by kernel_rfl
theorem index_payloadTypes_loop6 {t8 t10 t26 t27 t28 : AV} {H : Heap} {K : Kt} (Inv : Nat → AV → AV → Heap → Prop) (n : Nat) (h0 : HSc H → Inv n t10 t28 H)
    (round : ∀ n t10 t28 H', Inv n t10 t28 H' → HSc H' → H.length ≤ H'.length → (index_payloadTypes_fr6 t8 t10 t26 t27 t28).all (AV.sc H'.length) = true → ∀ Kb6 : Lt, (∀ F'' H'', (∃ n', n' < n ∧ Back H.length (fun F2 H2 => ∃ t10 t28, F2 = index_payloadTypes_fr6 t8 t10 t26 t27 t28 ∧ Inv n' t10 t28 H2) F'' H'') → Kb6 F'' H'') → index_payloadTypes_b6 t8 t10 t26 t27 t28 H' K Kb6) : index_payloadTypes_l6 t8 t10 t26 t27 t28 H K :=
  aloop (M := index_payloadTypes_M) index_payloadTypes_m6 (fun n F H => ∃ t10 t28, F = index_payloadTypes_fr6 t8 t10 t26 t27 t28 ∧ Inv n t10 t28 H) n (fun hs _ => ⟨t10, t28, rfl, h0 hs⟩) (fun n F H' ⟨t10, t28, hF, hI⟩ h1 h2 h3 => by subst hF; rw [index_payloadTypes_b6_eq]; exact round n t10 t28 H' hI h1 h2 h3 _ (fun _ _ h => h))
theorem index_payloadTypes_eq (t0 t1 t2 : AV) (H : Heap) (K : Kt) : awp Tryz.prog index_payloadTypes_M index_payloadTypes_c (retQ Tryz.prog index_payloadTypes_r K) (t0 :: t1 :: t2 :: List.replicate 41 .unk) H = index_payloadTypes t0 t1 t2 H K := by kernel_rfl
theorem index_payloadTypes_ok {t0 t1 t2 : AV} {H : Heap} {K : Kt} (h : HSc H → index_payloadTypes t0 t1 t2 H K) : ACalls Tryz.prog n_index_payloadTypes [t0, t1, t2] H K :=
  acalls_body (M := index_payloadTypes_M) Tryz.func109 (c := index_payloadTypes_c) (by kernel_rfl) (fun hs => (index_payloadTypes_eq t0 t1 t2 H K).mpr (h hs))
/-! ### 85: amortcostref15.PayloadTypes -/
def ref15_PayloadTypes_M : Nat → List Bool
  | 7 => rl false [8,1,4,1,19,3,12]
  | _ => []
noncomputable def ref15_PayloadTypes_c : Code := Tryz.f85.body.getD .skip
noncomputable def ref15_PayloadTypes_r : List ResultVar := Tryz.f85.results.toList
def ref15_PayloadTypes_fr7 (t8 t13 t33 t34 t35 : AV) : List AV := ux 8 (t8 :: ux 4 (t13 :: ux 19 (t33 :: t34 :: t35 :: ux 12 [])))
def ref15_PayloadTypes_m7 : List Bool := ref15_PayloadTypes_M 7
noncomputable def ref15_PayloadTypes_c7 : Code := codeAt [1, 1, 1, 1, 1, 0, 1, 0, 0] ref15_PayloadTypes_c
def ref15_PayloadTypes_Q7 (K : Kt) : AExit → List AV → Heap → Prop := contAt Tryz.prog ref15_PayloadTypes_M [1, 1, 1, 1, 1, 0, 1, 0] ref15_PayloadTypes_c (retQ Tryz.prog ref15_PayloadTypes_r K)
def ref15_PayloadTypes_l7 (t8 t13 t33 t34 t35 : AV) (H : Heap) (K : Kt) : Prop := ALoop Tryz.prog ref15_PayloadTypes_c7 (ref15_PayloadTypes_Q7 K) (ref15_PayloadTypes_fr7 t8 t13 t33 t34 t35) H
def ref15_PayloadTypes_b7 (t8 t13 t33 t34 t35 : AV) (H : Heap) (K : Kt) (Kb7 : Lt) : Prop :=
  aBin .lss false t35 t34 fun t36 =>
  aTest t36
  (aIdxA 1 t33 t35 fun t37 =>
  aLoad false 1 t37 H fun t38 =>
  aIdxA 3 t8 t38 fun t42 =>
  aLoad true 3 t42 H fun t43 =>
  aBuildS 3 [(.int .i64 0), (.int .i64 0), .snil] 1 [(0, t43)] fun t44 =>
  aAppend e_api_Type 3 40 t13 t44 H fun t45 H =>
  aBin .add false t35 (.int .i64 1) fun t46 =>
  Kb7 (ref15_PayloadTypes_fr7 t8 t45 t33 t34 t46) H)
  (aRet [t13, (.bool true)] (K · H))
def ref15_PayloadTypes (t0 t1 t2 : AV) (H : Heap) (K : Kt) : Prop :=
  aBox t1 H fun t4 H =>
  aLoad true 3 t4 H fun t18 =>
  ACalls Tryz.prog n_ref6_Fields [t0, t18, t2] H fun t20 H =>
  aExt t20 0 fun t21 =>
  aExt t20 1 fun t22 =>
  aUn .not t22 fun t24 =>
  aTest t24
  (aRet [.snil, (.bool false)] (K · H))
  (aLoad true 3 t4 H fun t27 =>
  ACalls Tryz.prog n_ref15_payload [t0, t27, t2] H fun t29 H =>
  aExt t29 0 fun t30 =>
  aExt t29 1 fun t31 =>
  aExt t29 2 fun t32 =>
  aLen 1 t30 fun t34 =>
  ref15_PayloadTypes_l7 t21 .snil t30 t34 (.int .i64 0) H K)
theorem ref15_PayloadTypes_b7_eq (t8 t13 t33 t34 t35 : AV) (H : Heap) (K : Kt) (Kb7 : Lt) : awp Tryz.prog ref15_PayloadTypes_M ref15_PayloadTypes_c7 (roundQ ref15_PayloadTypes_m7 Kb7 (ref15_PayloadTypes_Q7 K)) (ref15_PayloadTypes_fr7 t8 t13 t33 t34 t35) H = ref15_PayloadTypes_b7 t8 t13 t33 t34 t35 H K Kb7 := by kernel_rfl
theorem ref15_PayloadTypes_loop7 {t8 t13 t33 t34 t35 : AV} {H : Heap} {K : Kt} (Inv : Nat → AV → AV → Heap → Prop) (n : Nat) (h0 : HSc H → Inv n t13 t35 H)
    (round : ∀ n t13 t35 H', Inv n t13 t35 H' → HSc H' → H.length ≤ H'.length → (ref15_PayloadTypes_fr7 t8 t13 t33 t34 t35).all (AV.sc H'.length) = true → ∀ Kb7 : Lt, (∀ F'' H'', (∃ n', n' < n ∧ Back H.length (fun F2 H2 => ∃ t13 t35, F2 = ref15_PayloadTypes_fr7 t8 t13 t33 t34 t35 ∧ Inv n' t13 t35 H2) F'' H'') → Kb7 F'' H'') → ref15_PayloadTypes_b7 t8 t13 t33 t34 t35 H' K Kb7) : ref15_PayloadTypes_l7 t8 t13 t33 t34 t35 H K :=
  aloop (M := ref15_PayloadTypes_M) ref15_PayloadTypes_m7 (fun n F H => ∃ t13 t35, F = ref15_PayloadTypes_fr7 t8 t13 t33 t34 t35 ∧ Inv n t13 t35 H) n (fun hs _ => ⟨t13, t35, rfl, h0 hs⟩) (fun n F H' ⟨t13, t35, hF, hI⟩ h1 h2 h3 => by subst hF; rw [ref15_PayloadTypes_b7_eq]; exact round n t13 t35 H' hI h1 h2 h3 _ (fun _ _ h => h))
theorem ref15_PayloadTypes_eq (t0 t1 t2 : AV) (H : Heap) (K : Kt) : awp Tryz.prog ref15_PayloadTypes_M ref15_PayloadTypes_c (retQ Tryz.prog ref15_PayloadTypes_r K) (t0 :: t1 :: t2 :: List.replicate 45 .unk) H = ref15_PayloadTypes t0 t1 t2 H K := by kernel_rfl
theorem ref15_PayloadTypes_ok {t0 t1 t2 : AV} {H : Heap} {K : Kt} (h : HSc H → ref15_PayloadTypes t0 t1 t2 H K) : ACalls Tryz.prog n_ref15_PayloadTypes [t0, t1, t2] H K :=
  acalls_body (M := ref15_PayloadTypes_M) Tryz.func85 (c := ref15_PayloadTypes_c) (by kernel_rfl) (fun hs => (ref15_PayloadTypes_eq t0 t1 t2 H K).mpr (h hs))
/-! ### 147: amortcostref15.payload -/
def ref15_payload_M : Nat → List Bool
  | 6 => rl false [11,2,15,3,16]
  | _ => []
noncomputable def ref15_payload_c : Code := Tryz.f147.body.getD .skip
noncomputable def ref15_payload_r : List ResultVar := Tryz.f147.results.toList
def ref15_payload_fr6 (t11 t12 t28 t29 t30 : AV) : List AV := ux 11 (t11 :: t12 :: ux 15 (t28 :: t29 :: t30 :: ux 16 []))
def ref15_payload_m6 : List Bool := ref15_payload_M 6
noncomputable def ref15_payload_c6 : Code := codeAt [1, 1, 1, 0, 1, 0, 0] ref15_payload_c
def ref15_payload_Q6 (K : Kt) : AExit → List AV → Heap → Prop := contAt Tryz.prog ref15_payload_M [1, 1, 1, 0, 1, 0] ref15_payload_c (retQ Tryz.prog ref15_payload_r K)
def ref15_payload_l6 (t11 t12 t28 t29 t30 : AV) (H : Heap) (K : Kt) : Prop := ALoop Tryz.prog ref15_payload_c6 (ref15_payload_Q6 K) (ref15_payload_fr6 t11 t12 t28 t29 t30) H
def ref15_payload_j2 (t11 t12 t28 t29 t30 : AV) (H : Heap) (K : Kt) (Kb6 : Lt) : Prop :=
  aBin .add false t30 (.int .i64 1) fun t44 =>
  Kb6 (ref15_payload_fr6 t11 t12 t28 t29 t44) H
def ref15_payload_j1 (t11 t12 t28 t29 t30 : AV) (H : Heap) (K : Kt) (Kb6 : Lt) : Prop :=
  ref15_payload_j2 t11 t12 t28 t29 t30 H K Kb6
def ref15_payload_b6 (t11 t12 t28 t29 t30 : AV) (H : Heap) (K : Kt) (Kb6 : Lt) : Prop :=
  aBin .lss false t30 t29 fun t31 =>
  aTest t31
  (aIdxA 1 t28 t30 fun t33 =>
  aLoad false 1 t33 H fun t34 =>
  aTest t34
  (aBuildS 1 [(.int .i64 0)] 1 [(0, t30)] fun t38 =>
  aAppend e_int 1 8 t12 t38 H fun t39 H =>
  ref15_payload_j1 t11 t39 t28 t29 t30 H K Kb6)
  (aBuildS 1 [(.int .i64 0)] 1 [(0, t30)] fun t42 =>
  aAppend e_int 1 8 t11 t42 H fun t43 H =>
  ref15_payload_j1 t43 t12 t28 t29 t30 H K Kb6))
  (aRet [t11, t12, (.bool true)] (K · H))
def ref15_payload (t0 t1 t2 : AV) (H : Heap) (K : Kt) : Prop :=
  aBox t1 H fun t4 H =>
  aLoad true 3 t4 H fun t17 =>
  ACalls Tryz.prog n_ref6_Fields [t0, t17, t2] H fun t19 H =>
  aExt t19 0 fun t20 =>
  aExt t19 1 fun t21 =>
  aUn .not t21 fun t23 =>
  aTest t23
  (aRet [.snil, .snil, (.bool false)] (K · H))
  (aFld 1 t4 fun t25 =>
  aLoad false 1 t25 H fun t26 =>
  ACalls Tryz.prog n_ref5_Recursive [t0, t26, t2] H fun t28 H =>
  aLen 1 t28 fun t29 =>
  ref15_payload_l6 .snil .snil t28 t29 (.int .i64 0) H K)
theorem ref15_payload_b6_eq (t11 t12 t28 t29 t30 : AV) (H : Heap) (K : Kt) (Kb6 : Lt) : awp Tryz.prog ref15_payload_M ref15_payload_c6 (roundQ ref15_payload_m6 Kb6 (ref15_payload_Q6 K)) (ref15_payload_fr6 t11 t12 t28 t29 t30) H = ref15_payload_b6 t11 t12 t28 t29 t30 H K Kb6 := by kernel_rfl
theorem ref15_payload_loop6 {t11 t12 t28 t29 t30 : AV} {H : Heap} {K : Kt} (Inv : Nat → AV → AV → AV → Heap → Prop) (n : Nat) (h0 : HSc H → Inv n t11 t12 t30 H)
    (round : ∀ n t11 t12 t30 H', Inv n t11 t12 t30 H' → HSc H' → H.length ≤ H'.length → (ref15_payload_fr6 t11 t12 t28 t29 t30).all (AV.sc H'.length) = true → ∀ Kb6 : Lt, (∀ F'' H'', (∃ n', n' < n ∧ Back H.length (fun F2 H2 => ∃ t11 t12 t30, F2 = ref15_payload_fr6 t11 t12 t28 t29 t30 ∧ Inv n' t11 t12 t30 H2) F'' H'') → Kb6 F'' H'') → ref15_payload_b6 t11 t12 t28 t29 t30 H' K Kb6) : ref15_payload_l6 t11 t12 t28 t29 t30 H K :=
  aloop (M := ref15_payload_M) ref15_payload_m6 (fun n F H => ∃ t11 t12 t30, F = ref15_payload_fr6 t11 t12 t28 t29 t30 ∧ Inv n t11 t12 t30 H) n (fun hs _ => ⟨t11, t12, t30, rfl, h0 hs⟩) (fun n F H' ⟨t11, t12, t30, hF, hI⟩ h1 h2 h3 => by subst hF; rw [ref15_payload_b6_eq]; exact round n t11 t12 t30 H' hI h1 h2 h3 _ (fun _ _ h => h))
theorem ref15_payload_eq (t0 t1 t2 : AV) (H : Heap) (K : Kt) : awp Tryz.prog ref15_payload_M ref15_payload_c (retQ Tryz.prog ref15_payload_r K) (t0 :: t1 :: t2 :: List.replicate 44 .unk) H = ref15_payload t0 t1 t2 H K := by kernel_rfl
theorem ref15_payload_ok {t0 t1 t2 : AV} {H : Heap} {K : Kt} (h : HSc H → ref15_payload t0 t1 t2 H K) : ACalls Tryz.prog n_ref15_payload [t0, t1, t2] H K :=
  acalls_body (M := ref15_payload_M) Tryz.func147 (c := ref15_payload_c) (by kernel_rfl) (fun hs => (ref15_payload_eq t0 t1 t2 H K).mpr (h hs))
/-! ### 110: amortcostref15.degrees -/
def ref15_degrees_M : Nat → List Bool
  | 5 => rl false [0,3,4,1,8,2,25]
  | _ => []
noncomputable def ref15_degrees_c : Code := Tryz.f110.body.getD .skip
noncomputable def ref15_degrees_r : List ResultVar := Tryz.f110.results.toList
def ref15_degrees_fr5 (t0 t1 t2 t7 t16 t17 : AV) : List AV := t0 :: t1 :: t2 :: ux 4 (t7 :: ux 8 (t16 :: t17 :: ux 25 []))
def ref15_degrees_m5 : List Bool := ref15_degrees_M 5
noncomputable def ref15_degrees_c5 : Code := codeAt [1, 1, 1, 0, 1, 0, 0] ref15_degrees_c
def ref15_degrees_Q5 (K : Kt) : AExit → List AV → Heap → Prop := contAt Tryz.prog ref15_degrees_M [1, 1, 1, 0, 1, 0] ref15_degrees_c (retQ Tryz.prog ref15_degrees_r K)
def ref15_degrees_l5 (t0 t1 t2 t7 t16 t17 : AV) (H : Heap) (K : Kt) : Prop := ALoop Tryz.prog ref15_degrees_c5 (ref15_degrees_Q5 K) (ref15_degrees_fr5 t0 t1 t2 t7 t16 t17) H
def ref15_degrees_b5 (t0 t1 t2 t7 t16 t17 : AV) (H : Heap) (K : Kt) (Kb5 : Lt) : Prop :=
  aBin .lss false t17 t16 fun t18 =>
  aTest t18
  (aPure H (fun K' => K' t0 H) fun t20 =>
  aPure H (fun K' => K' t1 H) fun t21 =>
  aPure H (fun K' => K' t17 H) fun t22 =>
  aPure H (fun K' => aIdxA 3 t21 t22 (K' · H)) fun t23 =>
  aPure H (fun K' => aLoadC true 3 t23 H (K' · H)) fun t24 =>
  aPure H (fun K' => K' t2 H) fun t25 =>
  aPure H (fun K' => K' t17 H) fun t26 =>
  aPure H (fun K' => aIdxA 2 t25 t26 (K' · H)) fun t27 =>
  aPure H (fun K' => aLoadC true 2 t27 H (K' · H)) fun t28 =>
  aPureX H (fun H K' => ACalls Tryz.prog n_ref15_degree [t20, t24, t28] H K') fun t29 =>
  aPure H (fun K' => K' t29 H) fun t9 =>
  aBin .lss false t9 (.int .i64 0) fun t31 =>
  aGuardJ t31 false H (fun K' => K' t7 H) fun t33 H =>
  aGuardJ t31 false H (fun K' => K' t9 H) fun t34 H =>
  aGuardJ t31 false H (fun K' => aBin .add false t33 t34 (K' · H)) fun t35 H =>
  aGuardJ t31 false H (fun K' => aBin .gtr false t35 (.int .i64 6) (K' · H)) fun t36 H =>
  aPick t31 (.bool true) t36 fun t37 =>
  aTest t37
  (K (.int .i64 (-1)) H)
  (aBin .add false t7 t9 fun t40 =>
  aBin .add false t17 (.int .i64 1) fun t41 =>
  Kb5 (ref15_degrees_fr5 t0 t1 t2 t40 t16 t41) H))
  (K t7 H)
def ref15_degrees (t0 t1 t2 : AV) (H : Heap) (K : Kt) : Prop :=
  aLen 1 t1 fun t11 =>
  aLen 1 t2 fun t13 =>
  aBin .neq false t11 t13 fun t14 =>
  aTest t14
  (K (.int .i64 (-1)) H)
  (aLen 1 t1 fun t16 =>
  ref15_degrees_l5 t0 t1 t2 (.int .i64 0) t16 (.int .i64 0) H K)
theorem ref15_degrees_b5_eq (t0 t1 t2 t7 t16 t17 : AV) (H : Heap) (K : Kt) (Kb5 : Lt) : awp Tryz.prog ref15_degrees_M ref15_degrees_c5 (roundQ ref15_degrees_m5 Kb5 (ref15_degrees_Q5 K)) (ref15_degrees_fr5 t0 t1 t2 t7 t16 t17) H = ref15_degrees_b5 t0 t1 t2 t7 t16 t17 H K Kb5 := by kernel_rfl
theorem ref15_degrees_loop5 {t0 t1 t2 t7 t16 t17 : AV} {H : Heap} {K : Kt} (Inv : Nat → AV → AV → Heap → Prop) (n : Nat) (h0 : HSc H → Inv n t7 t17 H)
    (round : ∀ n t7 t17 H', Inv n t7 t17 H' → HSc H' → H.length ≤ H'.length → (ref15_degrees_fr5 t0 t1 t2 t7 t16 t17).all (AV.sc H'.length) = true → ∀ Kb5 : Lt, (∀ F'' H'', (∃ n', n' < n ∧ Back H.length (fun F2 H2 => ∃ t7 t17, F2 = ref15_degrees_fr5 t0 t1 t2 t7 t16 t17 ∧ Inv n' t7 t17 H2) F'' H'') → Kb5 F'' H'') → ref15_degrees_b5 t0 t1 t2 t7 t16 t17 H' K Kb5) : ref15_degrees_l5 t0 t1 t2 t7 t16 t17 H K :=
  aloop (M := ref15_degrees_M) ref15_degrees_m5 (fun n F H => ∃ t7 t17, F = ref15_degrees_fr5 t0 t1 t2 t7 t16 t17 ∧ Inv n t7 t17 H) n (fun hs _ => ⟨t7, t17, rfl, h0 hs⟩) (fun n F H' ⟨t7, t17, hF, hI⟩ h1 h2 h3 => by subst hF; rw [ref15_degrees_b5_eq]; exact round n t7 t17 H' hI h1 h2 h3 _ (fun _ _ h => h))
theorem ref15_degrees_eq (t0 t1 t2 : AV) (H : Heap) (K : Kt) : awp Tryz.prog ref15_degrees_M ref15_degrees_c (retQ Tryz.prog ref15_degrees_r K) (t0 :: t1 :: t2 :: List.replicate 40 .unk) H = ref15_degrees t0 t1 t2 H K := by kernel_rfl
theorem ref15_degrees_ok {t0 t1 t2 : AV} {H : Heap} {K : Kt} (h : HSc H → ref15_degrees t0 t1 t2 H K) : ACalls Tryz.prog n_ref15_degrees [t0, t1, t2] H K :=
  acalls_body (M := ref15_degrees_M) Tryz.func110 (c := ref15_degrees_c) (by kernel_rfl) (fun hs => (ref15_degrees_eq t0 t1 t2 H K).mpr (h hs))
end Go.Proofs.YtfpmdpldabopjaaGreatDoor
