/- The shallow forms of functions of the program, printed by a program (absgen.py) off the translation, each tied to the model by the kernel. -/
import Derived.Test.YtfpmdpldabopjaaGreatDoorKNum
import Derived.Test.YtfpmdpldabopjaaGreatDoorProg
import Derived.KernelRfl
namespace Go.Proofs.YtfpmdpldabopjaaGreatDoor
open Go Go.Abs
set_option linter.unusedVariables false
set_option maxRecDepth 100000
/-! ### 48: amortcostkeep.typ -/
def keep_typ_M : Nat → List Bool
  | 5 => rl false [1,2,2,1,24]
  | _ => []
noncomputable def keep_typ_c : Code := Tryz.f48.body.getD .skip
noncomputable def keep_typ_r : List ResultVar := Tryz.f48.results.toList
def keep_typ_fr5 (t1 t2 t5 : AV) : List AV := ux 1 (t1 :: t2 :: ux 2 (t5 :: ux 24 []))
def keep_typ_m5 : List Bool := keep_typ_M 5
noncomputable def keep_typ_c5 : Code := codeAt [1, 1, 1, 0, 1, 0, 0] keep_typ_c
def keep_typ_Q5 (K : Kt) : AExit → List AV → Heap → Prop := contAt Tryz.prog keep_typ_M [1, 1, 1, 0, 1, 0] keep_typ_c (retQ Tryz.prog keep_typ_r K)
def keep_typ_l5 (t1 t2 t5 : AV) (H : Heap) (K : Kt) : Prop := ALoop Tryz.prog keep_typ_c5 (keep_typ_Q5 K) (keep_typ_fr5 t1 t2 t5) H
def keep_typ_b5 (t1 t2 t5 : AV) (H : Heap) (K : Kt) (Kb5 : Lt) : Prop :=
  aFld 2 t2 fun t16 =>
  aLoad false 1 t16 H fun t17 =>
  aLen 1 t17 fun t18 =>
  aBin .lss false t5 t18 fun t19 =>
  aTest t19
  (aFld 2 t2 fun t22 =>
  aLoad false 1 t22 H fun t23 =>
  aIdxA 3 t23 t5 fun t25 =>
  aLoad true 3 t25 H fun t26 =>
  ACalls Tryz.prog n_keep_typ [t26, t1] H fun t28 H =>
  aUn .not t28 fun t29 =>
  aTest t29
  (K (.bool false) H)
  (aBin .add false t5 (.int .i64 1) fun t21 =>
  Kb5 (keep_typ_fr5 t1 t2 t21) H))
  (K (.bool true) H)
def keep_typ (t0 t1 : AV) (H : Heap) (K : Kt) : Prop :=
  aBox t0 H fun t2 H =>
  aNil t1 fun t7 =>
  aLoad false 1 t7 H fun t8 =>
  aBin .sub false t8 (.int .i64 1) fun t9 =>
  aNil t1 fun t10 =>
  aStore 1 t10 t9 H fun H =>
  aNil t1 fun t12 =>
  aLoad false 1 t12 H fun t13 =>
  aBin .lss false t13 (.int .i64 0) fun t14 =>
  aTest t14
  (K (.bool false) H)
  (keep_typ_l5 t1 t2 (.int .i64 0) H K)
theorem keep_typ_b5_eq (t1 t2 t5 : AV) (H : Heap) (K : Kt) (Kb5 : Lt) : awp Tryz.prog keep_typ_M keep_typ_c5 (roundQ keep_typ_m5 Kb5 (keep_typ_Q5 K)) (keep_typ_fr5 t1 t2 t5) H = keep_typ_b5 t1 t2 t5 H K Kb5 := by kernel_rfl
theorem keep_typ_loop5 {t1 t2 t5 : AV} {H : Heap} {K : Kt} (Inv : Nat → AV → Heap → Prop) (n : Nat) (h0 : HSc H → Inv n t5 H)
    (round : ∀ n t5 H', Inv n t5 H' → HSc H' → H.length ≤ H'.length → (keep_typ_fr5 t1 t2 t5).all (AV.sc H'.length) = true → ∀ Kb5 : Lt, (∀ F'' H'', (∃ n', n' < n ∧ Back H.length (fun F2 H2 => ∃ t5, F2 = keep_typ_fr5 t1 t2 t5 ∧ Inv n' t5 H2) F'' H'') → Kb5 F'' H'') → keep_typ_b5 t1 t2 t5 H' K Kb5) : keep_typ_l5 t1 t2 t5 H K :=
  aloop (M := keep_typ_M) keep_typ_m5 (fun n F H => ∃ t5, F = keep_typ_fr5 t1 t2 t5 ∧ Inv n t5 H) n (fun hs _ => ⟨t5, rfl, h0 hs⟩) (fun n F H' ⟨t5, hF, hI⟩ h1 h2 h3 => by subst hF; rw [keep_typ_b5_eq]; exact round n t5 H' hI h1 h2 h3 _ (fun _ _ h => h))
theorem keep_typ_eq (t0 t1 : AV) (H : Heap) (K : Kt) : awp Tryz.prog keep_typ_M keep_typ_c (retQ Tryz.prog keep_typ_r K) (t0 :: t1 :: List.replicate 28 .unk) H = keep_typ t0 t1 H K := by kernel_rfl
theorem keep_typ_ok {t0 t1 : AV} {H : Heap} {K : Kt} (h : HSc H → keep_typ t0 t1 H K) : ACalls Tryz.prog n_keep_typ [t0, t1] H K :=
  acalls_body (M := keep_typ_M) Tryz.func48 (c := keep_typ_c) (by kernel_rfl) (fun hs => (keep_typ_eq t0 t1 H K).mpr (h hs))
/-! ### 17: amortcostkeep.Type -/
def keep_Type_M (_ : Nat) : List Bool := []
noncomputable def keep_Type_c : Code := Tryz.f17.body.getD .skip
noncomputable def keep_Type_r : List ResultVar := Tryz.f17.results.toList
def keep_Type (t0 : AV) (H : Heap) (K : Kt) : Prop :=
  aBox t0 H fun t1 H =>
  aNew [(.int .i64 0)] H fun t3 H =>
  aStore 1 t3 (.int .i64 250) H fun H =>
  aLoad true 3 t1 H fun t4 =>
  ACalls Tryz.prog n_keep_typ [t4, t3] H fun t5 H =>
  K t5 H
theorem keep_Type_eq (t0 : AV) (H : Heap) (K : Kt) : awp Tryz.prog keep_Type_M keep_Type_c (retQ Tryz.prog keep_Type_r K) (t0 :: List.replicate 5 .unk) H = keep_Type t0 H K := by kernel_rfl
theorem keep_Type_ok {t0 : AV} {H : Heap} {K : Kt} (h : HSc H → keep_Type t0 H K) : ACalls Tryz.prog n_keep_Type [t0] H K :=
  acalls_body (M := keep_Type_M) Tryz.func17 (c := keep_Type_c) (by kernel_rfl) (fun hs => (keep_Type_eq t0 H K).mpr (h hs))
/-! ### 15: amortcostkeep.Data -/
def keep_Data_M : Nat → List Bool
  | 4 => rl false [13,3,43]
  | 9 => rl false [13,3,14,3,26]
  | 15 => rl false [7,1,5,3,14,3,14,3,9]
  | _ => []
noncomputable def keep_Data_c : Code := Tryz.f15.body.getD .skip
noncomputable def keep_Data_r : List ResultVar := Tryz.f15.results.toList
def keep_Data_fr4 (t13 t14 t15 : AV) : List AV := ux 13 (t13 :: t14 :: t15 :: ux 43 [])
def keep_Data_m4 : List Bool := keep_Data_M 4
noncomputable def keep_Data_c4 : Code := codeAt [1, 1, 0, 1, 0, 0] keep_Data_c
def keep_Data_Q4 (K : Kt) : AExit → List AV → Heap → Prop := contAt Tryz.prog keep_Data_M [1, 1, 0, 1, 0] keep_Data_c (retQ Tryz.prog keep_Data_r K)
def keep_Data_l4 (t13 t14 t15 : AV) (H : Heap) (K : Kt) : Prop := ALoop Tryz.prog keep_Data_c4 (keep_Data_Q4 K) (keep_Data_fr4 t13 t14 t15) H
def keep_Data_fr9 (t13 t14 t15 t30 t31 t32 : AV) : List AV := ux 13 (t13 :: t14 :: t15 :: ux 14 (t30 :: t31 :: t32 :: ux 26 []))
def keep_Data_m9 : List Bool := keep_Data_M 9
noncomputable def keep_Data_c9 : Code := codeAt [1, 1, 0, 0, 1, 1, 1, 0, 0] keep_Data_c4
def keep_Data_Q9 (K : Kt) (Kb4 : Lt) : AExit → List AV → Heap → Prop := contAt Tryz.prog keep_Data_M [1, 1, 0, 0, 1, 1, 1, 0] keep_Data_c4 (roundQ keep_Data_m4 Kb4 (keep_Data_Q4 K))
def keep_Data_l9 (t13 t14 t15 t30 t31 t32 : AV) (H : Heap) (K : Kt) (Kb4 : Lt) : Prop := ALoop Tryz.prog keep_Data_c9 (keep_Data_Q9 K Kb4) (keep_Data_fr9 t13 t14 t15 t30 t31 t32) H
def keep_Data_fr15 (t7 t13 t14 t15 t30 t31 t32 t47 t48 t49 : AV) : List AV := ux 7 (t7 :: ux 5 (t13 :: t14 :: t15 :: ux 14 (t30 :: t31 :: t32 :: ux 14 (t47 :: t48 :: t49 :: ux 9 []))))
def keep_Data_m15 : List Bool := keep_Data_M 15
noncomputable def keep_Data_c15 : Code := codeAt [1, 1, 0, 0, 1, 1, 1, 1, 0, 0] keep_Data_c9
def keep_Data_Q15 (K : Kt) (Kb4 : Lt) (Kb9 : Lt) : AExit → List AV → Heap → Prop := contAt Tryz.prog keep_Data_M [1, 1, 0, 0, 1, 1, 1, 1, 0] keep_Data_c9 (roundQ keep_Data_m9 Kb9 (keep_Data_Q9 K Kb4))
def keep_Data_l15 (t7 t13 t14 t15 t30 t31 t32 t47 t48 t49 : AV) (H : Heap) (K : Kt) (Kb4 : Lt) (Kb9 : Lt) : Prop := ALoop Tryz.prog keep_Data_c15 (keep_Data_Q15 K Kb4 Kb9) (keep_Data_fr15 t7 t13 t14 t15 t30 t31 t32 t47 t48 t49) H
def keep_Data_b15 (t7 t13 t14 t15 t30 t31 t32 t47 t48 t49 : AV) (H : Heap) (K : Kt) (Kb4 : Lt) (Kb9 : Lt) (Kb15 : Lt) : Prop :=
  aBin .lss false t49 t48 fun t50 =>
  aTest t50
  (aIdxA 3 t47 t49 fun t51 =>
  aLoad true 3 t51 H fun t52 =>
  aNew [(.int .i64 0), (.int .i64 0), .snil] H fun t9 H =>
  aStore 3 t9 t52 H fun H =>
  aLoad true 3 t9 H fun t53 =>
  ACalls Tryz.prog n_keep_typ [t53, t7] H fun t54 H =>
  aUn .not t54 fun t55 =>
  aTest t55
  (K (.bool false) H)
  (aBin .add false t49 (.int .i64 1) fun t56 =>
  Kb15 (keep_Data_fr15 t7 t13 t14 t15 t30 t31 t32 t47 t48 t56) H))
  (aBin .add false t32 (.int .i64 1) fun t57 =>
  Kb9 (keep_Data_fr9 t13 t14 t15 t30 t31 t57) H)
def keep_Data_b9 (t13 t14 t15 t30 t31 t32 : AV) (H : Heap) (K : Kt) (Kb4 : Lt) (Kb9 : Lt) : Prop :=
  aBin .lss false t32 t31 fun t33 =>
  aTest t33
  (aIdxA 2 t30 t32 fun t34 =>
  aLoad true 2 t34 H fun t35 =>
  aNew [(.str []), .snil] H fun t6 H =>
  aStore 2 t6 t35 H fun H =>
  aFld 0 t6 fun t36 =>
  aLoad false 1 t36 H fun t37 =>
  aLen 0 t37 fun t38 =>
  aBin .gtr false t38 (.int .i64 40) fun t39 =>
  aGuardJ t39 false H (fun K' => aFld 1 t6 (K' · H)) fun t41 H =>
  aGuardJ t39 false H (fun K' => aLoad false 1 t41 H (K' · H)) fun t42 H =>
  aGuardJ t39 false H (fun K' => aLen 1 t42 (K' · H)) fun t43 H =>
  aGuardJ t39 false H (fun K' => aBin .gtr false t43 (.int .i64 8) (K' · H)) fun t44 H =>
  aPick t39 (.bool true) t44 fun t45 =>
  aTest t45
  (K (.bool false) H)
  (aNew [(.int .i64 0)] H fun t7 H =>
  aStore 1 t7 (.int .i64 20) H fun H =>
  aFld 1 t6 fun t46 =>
  aLoad false 1 t46 H fun t47 =>
  aLen 1 t47 fun t48 =>
  keep_Data_l15 t7 t13 t14 t15 t30 t31 t32 t47 t48 (.int .i64 0) H K Kb4 Kb9))
  (aBin .add false t15 (.int .i64 1) fun t58 =>
  Kb4 (keep_Data_fr4 t13 t14 t58) H)
def keep_Data_b4 (t13 t14 t15 : AV) (H : Heap) (K : Kt) (Kb4 : Lt) : Prop :=
  aBin .lss false t15 t14 fun t16 =>
  aTest t16
  (aIdxA 3 t13 t15 fun t17 =>
  aLoad true 3 t17 H fun t18 =>
  aNew [(.str []), (.int .i64 0), .snil] H fun t4 H =>
  aStore 3 t4 t18 H fun H =>
  aFld 0 t4 fun t19 =>
  aLoad false 1 t19 H fun t20 =>
  aLen 0 t20 fun t21 =>
  aBin .gtr false t21 (.int .i64 40) fun t22 =>
  aGuardJ t22 false H (fun K' => aFld 2 t4 (K' · H)) fun t24 H =>
  aGuardJ t22 false H (fun K' => aLoad false 1 t24 H (K' · H)) fun t25 H =>
  aGuardJ t22 false H (fun K' => aLen 1 t25 (K' · H)) fun t26 H =>
  aGuardJ t22 false H (fun K' => aBin .gtr false t26 (.int .i64 10) (K' · H)) fun t27 H =>
  aPick t22 (.bool true) t27 fun t28 =>
  aTest t28
  (K (.bool false) H)
  (aFld 2 t4 fun t29 =>
  aLoad false 1 t29 H fun t30 =>
  aLen 1 t30 fun t31 =>
  keep_Data_l9 t13 t14 t15 t30 t31 (.int .i64 0) H K Kb4))
  (K (.bool true) H)
def keep_Data (t0 : AV) (H : Heap) (K : Kt) : Prop :=
  aLen 1 t0 fun t11 =>
  aBin .gtr false t11 (.int .i64 14) fun t12 =>
  aTest t12
  (K (.bool false) H)
  (aLen 1 t0 fun t14 =>
  keep_Data_l4 t0 t14 (.int .i64 0) H K)
theorem keep_Data_b15_eq (t7 t13 t14 t15 t30 t31 t32 t47 t48 t49 : AV) (H : Heap) (K : Kt) (Kb4 : Lt) (Kb9 : Lt) (Kb15 : Lt) : awp Tryz.prog keep_Data_M keep_Data_c15 (roundQ keep_Data_m15 Kb15 (keep_Data_Q15 K Kb4 Kb9)) (keep_Data_fr15 t7 t13 t14 t15 t30 t31 t32 t47 t48 t49) H = keep_Data_b15 t7 t13 t14 t15 t30 t31 t32 t47 t48 t49 H K Kb4 Kb9 Kb15 := by kernel_rfl
theorem keep_Data_loop15 {t7 t13 t14 t15 t30 t31 t32 t47 t48 t49 : AV} {H : Heap} {K : Kt} {Kb4 : Lt} {Kb9 : Lt} (Inv : Nat → AV → Heap → Prop) (n : Nat) (h0 : HSc H → Inv n t49 H)
    (round : ∀ n t49 H', Inv n t49 H' → HSc H' → H.length ≤ H'.length → (keep_Data_fr15 t7 t13 t14 t15 t30 t31 t32 t47 t48 t49).all (AV.sc H'.length) = true → ∀ Kb15 : Lt, (∀ F'' H'', (∃ n', n' < n ∧ Back H.length (fun F2 H2 => ∃ t49, F2 = keep_Data_fr15 t7 t13 t14 t15 t30 t31 t32 t47 t48 t49 ∧ Inv n' t49 H2) F'' H'') → Kb15 F'' H'') → keep_Data_b15 t7 t13 t14 t15 t30 t31 t32 t47 t48 t49 H' K Kb4 Kb9 Kb15) : keep_Data_l15 t7 t13 t14 t15 t30 t31 t32 t47 t48 t49 H K Kb4 Kb9 :=
  aloop (M := keep_Data_M) keep_Data_m15 (fun n F H => ∃ t49, F = keep_Data_fr15 t7 t13 t14 t15 t30 t31 t32 t47 t48 t49 ∧ Inv n t49 H) n (fun hs _ => ⟨t49, rfl, h0 hs⟩) (fun n F H' ⟨t49, hF, hI⟩ h1 h2 h3 => by subst hF; rw [keep_Data_b15_eq]; exact round n t49 H' hI h1 h2 h3 _ (fun _ _ h => h))
theorem keep_Data_b9_eq (t13 t14 t15 t30 t31 t32 : AV) (H : Heap) (K : Kt) (Kb4 : Lt) (Kb9 : Lt) : awp Tryz.prog keep_Data_M keep_Data_c9 (roundQ keep_Data_m9 Kb9 (keep_Data_Q9 K Kb4)) (keep_Data_fr9 t13 t14 t15 t30 t31 t32) H = keep_Data_b9 t13 t14 t15 t30 t31 t32 H K Kb4 Kb9 := by kernel_rfl
theorem keep_Data_loop9 {t13 t14 t15 t30 t31 t32 : AV} {H : Heap} {K : Kt} {Kb4 : Lt} (Inv : Nat → AV → Heap → Prop) (n : Nat) (h0 : HSc H → Inv n t32 H)
    (round : ∀ n t32 H', Inv n t32 H' → HSc H' → H.length ≤ H'.length → (keep_Data_fr9 t13 t14 t15 t30 t31 t32).all (AV.sc H'.length) = true → ∀ Kb9 : Lt, (∀ F'' H'', (∃ n', n' < n ∧ Back H.length (fun F2 H2 => ∃ t32, F2 = keep_Data_fr9 t13 t14 t15 t30 t31 t32 ∧ Inv n' t32 H2) F'' H'') → Kb9 F'' H'') → keep_Data_b9 t13 t14 t15 t30 t31 t32 H' K Kb4 Kb9) : keep_Data_l9 t13 t14 t15 t30 t31 t32 H K Kb4 :=
  aloop (M := keep_Data_M) keep_Data_m9 (fun n F H => ∃ t32, F = keep_Data_fr9 t13 t14 t15 t30 t31 t32 ∧ Inv n t32 H) n (fun hs _ => ⟨t32, rfl, h0 hs⟩) (fun n F H' ⟨t32, hF, hI⟩ h1 h2 h3 => by subst hF; rw [keep_Data_b9_eq]; exact round n t32 H' hI h1 h2 h3 _ (fun _ _ h => h))
theorem keep_Data_b4_eq (t13 t14 t15 : AV) (H : Heap) (K : Kt) (Kb4 : Lt) : awp Tryz.prog keep_Data_M keep_Data_c4 (roundQ keep_Data_m4 Kb4 (keep_Data_Q4 K)) (keep_Data_fr4 t13 t14 t15) H = keep_Data_b4 t13 t14 t15 H K Kb4 := by kernel_rfl
theorem keep_Data_loop4 {t13 t14 t15 : AV} {H : Heap} {K : Kt} (Inv : Nat → AV → Heap → Prop) (n : Nat) (h0 : HSc H → Inv n t15 H)
    (round : ∀ n t15 H', Inv n t15 H' → HSc H' → H.length ≤ H'.length → (keep_Data_fr4 t13 t14 t15).all (AV.sc H'.length) = true → ∀ Kb4 : Lt, (∀ F'' H'', (∃ n', n' < n ∧ Back H.length (fun F2 H2 => ∃ t15, F2 = keep_Data_fr4 t13 t14 t15 ∧ Inv n' t15 H2) F'' H'') → Kb4 F'' H'') → keep_Data_b4 t13 t14 t15 H' K Kb4) : keep_Data_l4 t13 t14 t15 H K :=
  aloop (M := keep_Data_M) keep_Data_m4 (fun n F H => ∃ t15, F = keep_Data_fr4 t13 t14 t15 ∧ Inv n t15 H) n (fun hs _ => ⟨t15, rfl, h0 hs⟩) (fun n F H' ⟨t15, hF, hI⟩ h1 h2 h3 => by subst hF; rw [keep_Data_b4_eq]; exact round n t15 H' hI h1 h2 h3 _ (fun _ _ h => h))
theorem keep_Data_eq (t0 : AV) (H : Heap) (K : Kt) : awp Tryz.prog keep_Data_M keep_Data_c (retQ Tryz.prog keep_Data_r K) (t0 :: List.replicate 58 .unk) H = keep_Data t0 H K := by kernel_rfl
theorem keep_Data_ok {t0 : AV} {H : Heap} {K : Kt} (h : HSc H → keep_Data t0 H K) : ACalls Tryz.prog n_keep_Data [t0] H K :=
  acalls_body (M := keep_Data_M) Tryz.func15 (c := keep_Data_c) (by kernel_rfl) (fun hs => (keep_Data_eq t0 H K).mpr (h hs))
/-! ### 87: typing.Valid -/
def typing_Valid_M (_ : Nat) : List Bool := []
noncomputable def typing_Valid_c : Code := Tryz.f87.body.getD .skip
noncomputable def typing_Valid_r : List ResultVar := Tryz.f87.results.toList
def typing_Valid (t0 t1 t2 : AV) (H : Heap) (K : Kt) : Prop :=
  aBox t1 H fun t4 H =>
  aBuild [.snil, (.int .i64 0), (.int .i64 0)] [(0, 1), (1, 1), (2, 1)] [(0, t0), (1, t2), (2, (.int .i64 200))] fun t10 =>
  aBox t10 H fun t11 H =>
  aLoad true 3 t4 H fun t13 =>
  ACalls Tryz.prog n_typing_validator_valid [t11, t13] H fun t14 H =>
  K t14 H
theorem typing_Valid_eq (t0 t1 t2 : AV) (H : Heap) (K : Kt) : awp Tryz.prog typing_Valid_M typing_Valid_c (retQ Tryz.prog typing_Valid_r K) (t0 :: t1 :: t2 :: List.replicate 12 .unk) H = typing_Valid t0 t1 t2 H K := by kernel_rfl
theorem typing_Valid_ok {t0 t1 t2 : AV} {H : Heap} {K : Kt} (h : HSc H → typing_Valid t0 t1 t2 H K) : ACalls Tryz.prog n_typing_Valid [t0, t1, t2] H K :=
  acalls_body (M := typing_Valid_M) Tryz.func87 (c := typing_Valid_c) (by kernel_rfl) (fun hs => (typing_Valid_eq t0 t1 t2 H K).mpr (h hs))
/-! ### 155: (*typing.validator).valid -/
def typing_validator_valid_M : Nat → List Bool
  | 171022 => rl false [2,2,16,1,53,1,34]
  | 150010 => rl false [2,2,1,2,13,2,87]
  | 100007 => rl false [2,2,1,2,13,1,88]
  | 100002 => rl false [2,2,105]
  | _ => []
noncomputable def typing_validator_valid_c : Code := Tryz.f155.body.getD .skip
noncomputable def typing_validator_valid_r : List ResultVar := Tryz.f155.results.toList
def typing_validator_valid_j5 (t2 t3 t5 t6 : AV) (H : Heap) (K : Kt) : Prop :=
  aFld 0 t3 fun t79 =>
  aLoad false 1 t79 H fun t80 =>
  aBin .neq false t80 (.int .i64 4) fun t81 =>
  aGuardJ t81 true H (fun K' => aFld 0 t3 (K' · H)) fun t83 H =>
  aGuardJ t81 true H (fun K' => aLoad false 1 t83 H (K' · H)) fun t84 H =>
  aGuardJ t81 true H (fun K' => aBin .neq false t84 (.int .i64 5) (K' · H)) fun t85 H =>
  aPick t81 t85 (.bool false) fun t86 =>
  aGuardJ t86 true H (fun K' => aFld 1 t3 (K' · H)) fun t88 H =>
  aGuardJ t86 true H (fun K' => aLoad false 1 t88 H (K' · H)) fun t89 H =>
  aGuardJ t86 true H (fun K' => aBin .neq false t89 (.int .i64 0) (K' · H)) fun t90 H =>
  aPick t86 t90 (.bool false) fun t91 =>
  aTest t91
  (K (.bool false) H)
  (aFld 2 t3 fun t92 =>
  aLoad false 1 t92 H fun t93 =>
  aLen 1 t93 fun t94 =>
  aBin .lss false t94 t5 fun t96 =>
  aGuardJ t96 false H (fun K' => aFld 2 t3 (K' · H)) fun t98 H =>
  aGuardJ t96 false H (fun K' => aLoad false 1 t98 H (K' · H)) fun t99 H =>
  aGuardJ t96 false H (fun K' => aLen 1 t99 (K' · H)) fun t100 H =>
  aGuardJ t96 false H (fun K' => K' t6 H) fun t101 H =>
  aGuardJ t96 false H (fun K' => aBin .gtr false t100 t101 (K' · H)) fun t102 H =>
  aPick t96 (.bool true) t102 fun t103 =>
  aTest t103
  (K (.bool false) H)
  (aFld 2 t3 fun t104 =>
  aLoad false 1 t104 H fun t105 =>
  aClos n_typing_validator_valid_1 [t2] fun t106 =>
  ACalls Tryz.prog n_slices_ContainsFunc_S_api_Type_api_Type [t105, t106] H fun t107 H =>
  aUn .not t107 fun t108 =>
  K t108 H))
def typing_validator_valid_j4 (t2 t3 t5 t6 : AV) (H : Heap) (K : Kt) : Prop :=
  typing_validator_valid_j5 t2 t3 t5 t6 H K
noncomputable def typing_validator_valid_j6_c : Code := codeAt [1, 1, 1, 1, 0, 1, 0, 1, 1, 1, 1, 1, 1, 1, 1, 1] typing_validator_valid_c
def typing_validator_valid_j6_Q (K : Kt) : AExit → List AV → Heap → Prop := contAt Tryz.prog typing_validator_valid_M [1, 1, 1, 1, 0, 1, 0, 1, 1, 1, 1, 1, 1, 1, 1, 1] typing_validator_valid_c (retQ Tryz.prog typing_validator_valid_r K)
def typing_validator_valid_j6 (t2 t3 t20 t74 : AV) (H : Heap) (K : Kt) : Prop := AWp Tryz.prog typing_validator_valid_j6_c (typing_validator_valid_j6_Q K) (ux 2 (t2 :: t3 :: ux 16 (t20 :: ux 53 (t74 :: ux 34 [])))) H
def typing_validator_valid_j6b (t2 t3 t20 t74 : AV) (H : Heap) (K : Kt) : Prop :=
  aTest t74
  (typing_validator_valid_j4 t2 t3 (.int .i64 1) (.int .i64 1) H K)
  (aBin .eql false t20 (.int .i64 9) fun t78 =>
  aTest t78
  (typing_validator_valid_j4 t2 t3 (.int .i64 1) (.int .i64 7) H K)
  (K (.bool false) H))
noncomputable def typing_validator_valid_j3_c : Code := codeAt [1, 1, 1, 1, 0, 1, 0, 1] typing_validator_valid_c
def typing_validator_valid_j3_Q (K : Kt) : AExit → List AV → Heap → Prop := contAt Tryz.prog typing_validator_valid_M [1, 1, 1, 1, 0, 1, 0, 1] typing_validator_valid_c (retQ Tryz.prog typing_validator_valid_r K)
def typing_validator_valid_j3 (t2 t3 t5 t6 t20 t21 : AV) (H : Heap) (K : Kt) : Prop := AWp Tryz.prog typing_validator_valid_j3_c (typing_validator_valid_j3_Q K) (ux 2 (t2 :: t3 :: ux 1 (t5 :: t6 :: ux 13 (t20 :: t21 :: ux 87 [])))) H
def typing_validator_valid_j3b (t2 t3 t5 t6 t20 t21 : AV) (H : Heap) (K : Kt) : Prop :=
  aTest t21
  (typing_validator_valid_j4 t2 t3 t5 t6 H K)
  (aBin .eql false t20 (.int .i64 4) fun t26 =>
  aTest t26
  (aPure H (fun K' => aFld 1 t3 (K' · H)) fun t27 =>
  aPure H (fun K' => aLoadC false 1 t27 H (K' · H)) fun t28 =>
  aPure H (fun K' => aBin .lss false t28 (.int .i64 0) (K' · H)) fun t29 =>
  aPure H (fun K' => K' t29 H) fun t30 =>
  aGuardJ t30 false H (fun K' => aPure H (fun K'' => aFld 1 t3 (K'' · H)) (K' · H)) fun t31 H =>
  aGuardJ t30 false H (fun K' => aPure H (fun K'' => aLoadC false 1 t31 H (K'' · H)) (K' · H)) fun t32 H =>
  aGuardJ t30 false H (fun K' => aPure H (fun K'' => aLoadC false 1 t2 H (K'' · H)) (K' · H)) fun t33 H =>
  aGuardJ t30 false H (fun K' => aPure H (fun K'' => aNil t33 (K'' · H)) (K' · H)) fun t34 H =>
  aGuardJ t30 false H (fun K' => aPure H (fun K'' => aFld 1 t34 (K'' · H)) (K' · H)) fun t35 H =>
  aGuardJ t30 false H (fun K' => aPure H (fun K'' => aLoadC false 1 t35 H (K'' · H)) (K' · H)) fun t36 H =>
  aGuardJ t30 false H (fun K' => aPure H (fun K'' => aBin .geq false t32 t36 (K'' · H)) (K' · H)) fun t37 H =>
  aPure H (fun K' => aPick t30 (.bool true) t37 (K' · H)) fun t38 =>
  aTest t38
  (K (.bool false) H)
  (typing_validator_valid_j4 t2 t3 t5 t6 H K))
  (aBin .eql false t20 (.int .i64 5) fun t40 =>
  aTest t40
  (aPure H (fun K' => aFld 1 t3 (K' · H)) fun t41 =>
  aPure H (fun K' => aLoadC false 1 t41 H (K' · H)) fun t42 =>
  aPure H (fun K' => aBin .lss false t42 (.int .i64 0) (K' · H)) fun t43 =>
  aPure H (fun K' => K' t43 H) fun t44 =>
  aGuardJ t44 false H (fun K' => aPure H (fun K'' => aFld 1 t3 (K'' · H)) (K' · H)) fun t45 H =>
  aGuardJ t44 false H (fun K' => aPure H (fun K'' => aLoadC false 1 t45 H (K'' · H)) (K' · H)) fun t46 H =>
  aGuardJ t44 false H (fun K' => aPure H (fun K'' => aLoadC false 1 t2 H (K'' · H)) (K' · H)) fun t47 H =>
  aGuardJ t44 false H (fun K' => aPure H (fun K'' => aNil t47 (K'' · H)) (K' · H)) fun t48 H =>
  aGuardJ t44 false H (fun K' => aPure H (fun K'' => aFld 0 t48 (K'' · H)) (K' · H)) fun t49 H =>
  aGuardJ t44 false H (fun K' => aPure H (fun K'' => aLoadC false 1 t49 H (K'' · H)) (K' · H)) fun t50 H =>
  aGuardJ t44 false H (fun K' => aPure H (fun K'' => aLen 1 t50 (K'' · H)) (K' · H)) fun t51 H =>
  aGuardJ t44 false H (fun K' => aPure H (fun K'' => aBin .geq false t46 t51 (K'' · H)) (K' · H)) fun t52 H =>
  aPure H (fun K' => aPick t44 (.bool true) t52 (K' · H)) fun t53 =>
  aTest t53
  (K (.bool false) H)
  (aPure H (fun K' => aLoadC false 1 t2 H (K' · H)) fun t54 =>
  aPure H (fun K' => aNil t54 (K' · H)) fun t55 =>
  aPure H (fun K' => aFld 0 t55 (K' · H)) fun t56 =>
  aPure H (fun K' => aLoadC false 1 t56 H (K' · H)) fun t57 =>
  aPure H (fun K' => aFld 1 t3 (K' · H)) fun t58 =>
  aPure H (fun K' => aLoadC false 1 t58 H (K' · H)) fun t59 =>
  aPure H (fun K' => aIdxA 3 t57 t59 (K' · H)) fun t60 =>
  aPure H (fun K' => aFld 1 t60 (K' · H)) fun t61 =>
  aPure H (fun K' => aLoadC false 1 t61 H (K' · H)) fun t62 =>
  aPure H (fun K' => aLoadC false 1 t2 H (K' · H)) fun t63 =>
  aPure H (fun K' => aNil t63 (K' · H)) fun t64 =>
  aPure H (fun K' => aFld 0 t64 (K' · H)) fun t65 =>
  aPure H (fun K' => aLoadC false 1 t65 H (K' · H)) fun t66 =>
  aPure H (fun K' => aFld 1 t3 (K' · H)) fun t67 =>
  aPure H (fun K' => aLoadC false 1 t67 H (K' · H)) fun t68 =>
  aPure H (fun K' => aIdxA 3 t66 t68 (K' · H)) fun t69 =>
  aPure H (fun K' => aFld 1 t69 (K' · H)) fun t70 =>
  aPure H (fun K' => aLoadC false 1 t70 H (K' · H)) fun t71 =>
  aPure H (fun K' => K' t62 H) fun t5 =>
  aPure H (fun K' => K' t71 H) fun t6 =>
  typing_validator_valid_j4 t2 t3 t5 t6 H K))
  (aBin .eql false t20 (.int .i64 6) fun t73 =>
  aTest t73
  (typing_validator_valid_j4 t2 t3 (.int .i64 2) (.int .i64 6) H K)
  (aBin .eql false t20 (.int .i64 7) fun t75 =>
  aTest t75
  (typing_validator_valid_j6 t2 t3 t20 t75 H K)
  (aBin .eql false t20 (.int .i64 8) fun t76 =>
  typing_validator_valid_j6 t2 t3 t20 t76 H K)))))
noncomputable def typing_validator_valid_j2_c : Code := codeAt [1, 1, 1, 1, 0, 1] typing_validator_valid_c
def typing_validator_valid_j2_Q (K : Kt) : AExit → List AV → Heap → Prop := contAt Tryz.prog typing_validator_valid_M [1, 1, 1, 1, 0, 1] typing_validator_valid_c (retQ Tryz.prog typing_validator_valid_r K)
def typing_validator_valid_j2 (t2 t3 t5 t6 t20 : AV) (H : Heap) (K : Kt) : Prop := AWp Tryz.prog typing_validator_valid_j2_c (typing_validator_valid_j2_Q K) (ux 2 (t2 :: t3 :: ux 1 (t5 :: t6 :: ux 13 (t20 :: ux 88 [])))) H
def typing_validator_valid_j2b (t2 t3 t5 t6 t20 : AV) (H : Heap) (K : Kt) : Prop :=
  aBin .eql false t20 (.int .i64 1) fun t22 =>
  aTest t22
  (typing_validator_valid_j3 t2 t3 t5 t6 t20 t22 H K)
  (aBin .eql false t20 (.int .i64 2) fun t23 =>
  aTest t23
  (typing_validator_valid_j3 t2 t3 t5 t6 t20 t23 H K)
  (aBin .eql false t20 (.int .i64 3) fun t24 =>
  typing_validator_valid_j3 t2 t3 t5 t6 t20 t24 H K))
noncomputable def typing_validator_valid_j1_c : Code := codeAt [1, 1] typing_validator_valid_c
def typing_validator_valid_j1_Q (K : Kt) : AExit → List AV → Heap → Prop := contAt Tryz.prog typing_validator_valid_M [1, 1] typing_validator_valid_c (retQ Tryz.prog typing_validator_valid_r K)
def typing_validator_valid_j1 (t2 t3 : AV) (H : Heap) (K : Kt) : Prop := AWp Tryz.prog typing_validator_valid_j1_c (typing_validator_valid_j1_Q K) (ux 2 (t2 :: t3 :: ux 105 [])) H
def typing_validator_valid_j1b (t2 t3 : AV) (H : Heap) (K : Kt) : Prop :=
  aLoad false 1 t2 H fun t14 =>
  aNil t14 fun t15 =>
  aFld 2 t15 fun t16 =>
  aLoad false 1 t16 H fun t17 =>
  aBin .lss false t17 (.int .i64 0) fun t18 =>
  aTest t18
  (K (.bool false) H)
  (aFld 0 t3 fun t19 =>
  aLoad false 1 t19 H fun t20 =>
  typing_validator_valid_j2 t2 t3 (.int .i64 0) (.int .i64 0) t20 H K)
def typing_validator_valid (t0 t1 : AV) (H : Heap) (K : Kt) : Prop :=
  aBox t0 H fun t2 H =>
  aBox t1 H fun t3 H =>
  aLoad false 1 t2 H fun t7 =>
  aNil t7 fun t8 =>
  aFld 2 t8 fun t9 =>
  aLoad false 1 t9 H fun t10 =>
  aBin .sub false t10 (.int .i64 1) fun t11 =>
  aNil t7 fun t12 =>
  aFld 2 t12 fun t13 =>
  aStore 1 t13 t11 H fun H =>
  typing_validator_valid_j1 t2 t3 H K
theorem typing_validator_valid_j6_eq (t2 t3 t20 t74 : AV) (H : Heap) (K : Kt) : awp Tryz.prog typing_validator_valid_M typing_validator_valid_j6_c (typing_validator_valid_j6_Q K) (ux 2 (t2 :: t3 :: ux 16 (t20 :: ux 53 (t74 :: ux 34 [])))) H = typing_validator_valid_j6b t2 t3 t20 t74 H K := by kernel_rfl
theorem typing_validator_valid_j6_ok {t2 t3 t20 t74 : AV} {H : Heap} {K : Kt} (h : HSc H → typing_validator_valid_j6b t2 t3 t20 t74 H K) : typing_validator_valid_j6 t2 t3 t20 t74 H K :=
  fun B w G a hH hF hd => awp_sound (M := typing_validator_valid_M) _ _ _ _ ((typing_validator_valid_j6_eq t2 t3 t20 t74 H K).mpr (h hH.sc)) B w G a hH hF hd
theorem typing_validator_valid_j3_eq (t2 t3 t5 t6 t20 t21 : AV) (H : Heap) (K : Kt) : awp Tryz.prog typing_validator_valid_M typing_validator_valid_j3_c (typing_validator_valid_j3_Q K) (ux 2 (t2 :: t3 :: ux 1 (t5 :: t6 :: ux 13 (t20 :: t21 :: ux 87 [])))) H = typing_validator_valid_j3b t2 t3 t5 t6 t20 t21 H K := by kernel_rfl
theorem typing_validator_valid_j3_ok {t2 t3 t5 t6 t20 t21 : AV} {H : Heap} {K : Kt} (h : HSc H → typing_validator_valid_j3b t2 t3 t5 t6 t20 t21 H K) : typing_validator_valid_j3 t2 t3 t5 t6 t20 t21 H K :=
  fun B w G a hH hF hd => awp_sound (M := typing_validator_valid_M) _ _ _ _ ((typing_validator_valid_j3_eq t2 t3 t5 t6 t20 t21 H K).mpr (h hH.sc)) B w G a hH hF hd
theorem typing_validator_valid_j2_eq (t2 t3 t5 t6 t20 : AV) (H : Heap) (K : Kt) : awp Tryz.prog typing_validator_valid_M typing_validator_valid_j2_c (typing_validator_valid_j2_Q K) (ux 2 (t2 :: t3 :: ux 1 (t5 :: t6 :: ux 13 (t20 :: ux 88 [])))) H = typing_validator_valid_j2b t2 t3 t5 t6 t20 H K := by kernel_rfl
theorem typing_validator_valid_j2_ok {t2 t3 t5 t6 t20 : AV} {H : Heap} {K : Kt} (h : HSc H → typing_validator_valid_j2b t2 t3 t5 t6 t20 H K) : typing_validator_valid_j2 t2 t3 t5 t6 t20 H K :=
  fun B w G a hH hF hd => awp_sound (M := typing_validator_valid_M) _ _ _ _ ((typing_validator_valid_j2_eq t2 t3 t5 t6 t20 H K).mpr (h hH.sc)) B w G a hH hF hd
theorem typing_validator_valid_j1_eq (t2 t3 : AV) (H : Heap) (K : Kt) : awp Tryz.prog typing_validator_valid_M typing_validator_valid_j1_c (typing_validator_valid_j1_Q K) (ux 2 (t2 :: t3 :: ux 105 [])) H = typing_validator_valid_j1b t2 t3 H K := by kernel_rfl
theorem typing_validator_valid_j1_ok {t2 t3 : AV} {H : Heap} {K : Kt} (h : HSc H → typing_validator_valid_j1b t2 t3 H K) : typing_validator_valid_j1 t2 t3 H K :=
  fun B w G a hH hF hd => awp_sound (M := typing_validator_valid_M) _ _ _ _ ((typing_validator_valid_j1_eq t2 t3 H K).mpr (h hH.sc)) B w G a hH hF hd
theorem typing_validator_valid_eq (t0 t1 : AV) (H : Heap) (K : Kt) : awp Tryz.prog typing_validator_valid_M typing_validator_valid_c (retQ Tryz.prog typing_validator_valid_r K) (t0 :: t1 :: List.replicate 107 .unk) H = typing_validator_valid t0 t1 H K := by kernel_rfl
theorem typing_validator_valid_ok {t0 t1 : AV} {H : Heap} {K : Kt} (h : HSc H → typing_validator_valid t0 t1 H K) : ACalls Tryz.prog n_typing_validator_valid [t0, t1] H K :=
  acalls_body (M := typing_validator_valid_M) Tryz.func155 (c := typing_validator_valid_c) (by kernel_rfl) (fun hs => (typing_validator_valid_eq t0 t1 H K).mpr (h hs))
/-! ### 198: (*typing.validator).valid$1 -/
def typing_validator_valid_1_M (_ : Nat) : List Bool := []
noncomputable def typing_validator_valid_1_c : Code := Tryz.f198.body.getD .skip
noncomputable def typing_validator_valid_1_r : List ResultVar := Tryz.f198.results.toList
def typing_validator_valid_1 (t0 t1 : AV) (H : Heap) (K : Kt) : Prop :=
  aBox t0 H fun t2 H =>
  aLoad false 1 t1 H fun t4 =>
  aLoad true 3 t2 H fun t5 =>
  ACalls Tryz.prog n_typing_validator_valid [t4, t5] H fun t6 H =>
  aUn .not t6 fun t7 =>
  K t7 H
theorem typing_validator_valid_1_eq (t0 t1 : AV) (H : Heap) (K : Kt) : awp Tryz.prog typing_validator_valid_1_M typing_validator_valid_1_c (retQ Tryz.prog typing_validator_valid_1_r K) (t0 :: t1 :: List.replicate 6 .unk) H = typing_validator_valid_1 t0 t1 H K := by kernel_rfl
theorem typing_validator_valid_1_ok {t0 t1 : AV} {H : Heap} {K : Kt} (h : HSc H → typing_validator_valid_1 t0 t1 H K) : ACalls Tryz.prog n_typing_validator_valid_1 [t0, t1] H K :=
  acalls_body (M := typing_validator_valid_1_M) Tryz.func198 (c := typing_validator_valid_1_c) (by kernel_rfl) (fun hs => (typing_validator_valid_1_eq t0 t1 H K).mpr (h hs))
/-! ### 192: typing.Equal -/
def typing_Equal_M (_ : Nat) : List Bool := []
noncomputable def typing_Equal_c : Code := Tryz.f192.body.getD .skip
noncomputable def typing_Equal_r : List ResultVar := Tryz.f192.results.toList
def typing_Equal (t0 t1 : AV) (H : Heap) (K : Kt) : Prop :=
  aBox t0 H fun t2 H =>
  aBox t1 H fun t3 H =>
  aFld 0 t2 fun t5 =>
  aLoad false 1 t5 H fun t6 =>
  aFld 0 t3 fun t7 =>
  aLoad false 1 t7 H fun t8 =>
  aBin .eql false t6 t8 fun t9 =>
  aGuardJ t9 true H (fun K' => aFld 1 t2 (K' · H)) fun t11 H =>
  aGuardJ t9 true H (fun K' => aLoad false 1 t11 H (K' · H)) fun t12 H =>
  aGuardJ t9 true H (fun K' => aFld 1 t3 (K' · H)) fun t13 H =>
  aGuardJ t9 true H (fun K' => aLoad false 1 t13 H (K' · H)) fun t14 H =>
  aGuardJ t9 true H (fun K' => aBin .eql false t12 t14 (K' · H)) fun t15 H =>
  aPick t9 t15 (.bool false) fun t16 =>
  aGuardJ t16 true H (fun K' => aFld 2 t2 (K' · H)) fun t18 H =>
  aGuardJ t16 true H (fun K' => aLoad false 1 t18 H (K' · H)) fun t19 H =>
  aGuardJ t16 true H (fun K' => aFld 2 t3 (K' · H)) fun t20 H =>
  aGuardJ t16 true H (fun K' => aLoad false 1 t20 H (K' · H)) fun t21 H =>
  aGuardJ t16 true H (fun K' => ACalls Tryz.prog n_slices_EqualFunc_S_api_Type_S_api_Type_api_Type_api_Type [t19, t21, (.fn n_typing_Equal [])] H K') fun t22 H =>
  aPick t16 t22 (.bool false) fun t23 =>
  K t23 H
theorem typing_Equal_eq (t0 t1 : AV) (H : Heap) (K : Kt) : awp Tryz.prog typing_Equal_M typing_Equal_c (retQ Tryz.prog typing_Equal_r K) (t0 :: t1 :: List.replicate 22 .unk) H = typing_Equal t0 t1 H K := by kernel_rfl
theorem typing_Equal_ok {t0 t1 : AV} {H : Heap} {K : Kt} (h : HSc H → typing_Equal t0 t1 H K) : ACalls Tryz.prog n_typing_Equal [t0, t1] H K :=
  acalls_body (M := typing_Equal_M) Tryz.func192 (c := typing_Equal_c) (by kernel_rfl) (fun hs => (typing_Equal_eq t0 t1 H K).mpr (h hs))
/-! ### 226: slices.EqualFunc[[]api.Type,[]api.Type,api.Type,api.Type] -/
def slices_EqualFunc_S_api_Type_S_api_Type_api_Type_api_Type_M : Nat → List Bool
  | 4 => rl false [1,2,12,3,14]
  | _ => []
noncomputable def slices_EqualFunc_S_api_Type_S_api_Type_api_Type_api_Type_c : Code := Tryz.f226.body.getD .skip
noncomputable def slices_EqualFunc_S_api_Type_S_api_Type_api_Type_api_Type_r : List ResultVar := Tryz.f226.results.toList
def slices_EqualFunc_S_api_Type_S_api_Type_api_Type_api_Type_fr4 (t1 t2 t15 t16 t17 : AV) : List AV := ux 1 (t1 :: t2 :: ux 12 (t15 :: t16 :: t17 :: ux 14 []))
def slices_EqualFunc_S_api_Type_S_api_Type_api_Type_api_Type_m4 : List Bool := slices_EqualFunc_S_api_Type_S_api_Type_api_Type_api_Type_M 4
noncomputable def slices_EqualFunc_S_api_Type_S_api_Type_api_Type_api_Type_c4 : Code := codeAt [1, 1, 0, 1, 0, 0] slices_EqualFunc_S_api_Type_S_api_Type_api_Type_api_Type_c
def slices_EqualFunc_S_api_Type_S_api_Type_api_Type_api_Type_Q4 (K : Kt) : AExit → List AV → Heap → Prop := contAt Tryz.prog slices_EqualFunc_S_api_Type_S_api_Type_api_Type_api_Type_M [1, 1, 0, 1, 0] slices_EqualFunc_S_api_Type_S_api_Type_api_Type_api_Type_c (retQ Tryz.prog slices_EqualFunc_S_api_Type_S_api_Type_api_Type_api_Type_r K)
def slices_EqualFunc_S_api_Type_S_api_Type_api_Type_api_Type_l4 (t1 t2 t15 t16 t17 : AV) (H : Heap) (K : Kt) : Prop := ALoop Tryz.prog slices_EqualFunc_S_api_Type_S_api_Type_api_Type_api_Type_c4 (slices_EqualFunc_S_api_Type_S_api_Type_api_Type_api_Type_Q4 K) (slices_EqualFunc_S_api_Type_S_api_Type_api_Type_api_Type_fr4 t1 t2 t15 t16 t17) H
def slices_EqualFunc_S_api_Type_S_api_Type_api_Type_api_Type_b4 (t1 t2 t15 t16 t17 : AV) (H : Heap) (K : Kt) (Kb4 : Lt) : Prop :=
  aBin .lss false t17 t16 fun t18 =>
  aTest t18
  (aIdxA 3 t15 t17 fun t20 =>
  aLoad true 3 t20 H fun t21 =>
  aNew [(.int .i64 0), (.int .i64 0), .snil] H fun t8 H =>
  aStore 3 t8 t21 H fun H =>
  aIdxA 3 t1 t17 fun t24 =>
  aLoad true 3 t24 H fun t25 =>
  aNew [(.int .i64 0), (.int .i64 0), .snil] H fun t9 H =>
  aStore 3 t9 t25 H fun H =>
  aLoad true 3 t8 H fun t27 =>
  aLoad true 3 t9 H fun t28 =>
  aCallV Tryz.prog t2 [t27, t28] H fun t29 H =>
  aUn .not t29 fun t30 =>
  aTest t30
  (K (.bool false) H)
  (aBin .add false t17 (.int .i64 1) fun t31 =>
  Kb4 (slices_EqualFunc_S_api_Type_S_api_Type_api_Type_api_Type_fr4 t1 t2 t15 t16 t31) H))
  (K (.bool true) H)
def slices_EqualFunc_S_api_Type_S_api_Type_api_Type_api_Type (t0 t1 t2 : AV) (H : Heap) (K : Kt) : Prop :=
  aLen 1 t0 fun t11 =>
  aLen 1 t1 fun t13 =>
  aBin .neq false t11 t13 fun t14 =>
  aTest t14
  (K (.bool false) H)
  (aLen 1 t0 fun t16 =>
  slices_EqualFunc_S_api_Type_S_api_Type_api_Type_api_Type_l4 t1 t2 t0 t16 (.int .i64 0) H K)
theorem slices_EqualFunc_S_api_Type_S_api_Type_api_Type_api_Type_b4_eq (t1 t2 t15 t16 t17 : AV) (H : Heap) (K : Kt) (Kb4 : Lt) : awp Tryz.prog slices_EqualFunc_S_api_Type_S_api_Type_api_Type_api_Type_M slices_EqualFunc_S_api_Type_S_api_Type_api_Type_api_Type_c4 (roundQ slices_EqualFunc_S_api_Type_S_api_Type_api_Type_api_Type_m4 Kb4 (slices_EqualFunc_S_api_Type_S_api_Type_api_Type_api_Type_Q4 K)) (slices_EqualFunc_S_api_Type_S_api_Type_api_Type_api_Type_fr4 t1 t2 t15 t16 t17) H = slices_EqualFunc_S_api_Type_S_api_Type_api_Type_api_Type_b4 t1 t2 t15 t16 t17 H K Kb4 := by kernel_rfl
theorem slices_EqualFunc_S_api_Type_S_api_Type_api_Type_api_Type_loop4 {t1 t2 t15 t16 t17 : AV} {H : Heap} {K : Kt} (Inv : Nat → AV → Heap → Prop) (n : Nat) (h0 : HSc H → Inv n t17 H)
    (round : ∀ n t17 H', Inv n t17 H' → HSc H' → H.length ≤ H'.length → (slices_EqualFunc_S_api_Type_S_api_Type_api_Type_api_Type_fr4 t1 t2 t15 t16 t17).all (AV.sc H'.length) = true → ∀ Kb4 : Lt, (∀ F'' H'', (∃ n', n' < n ∧ Back H.length (fun F2 H2 => ∃ t17, F2 = slices_EqualFunc_S_api_Type_S_api_Type_api_Type_api_Type_fr4 t1 t2 t15 t16 t17 ∧ Inv n' t17 H2) F'' H'') → Kb4 F'' H'') → slices_EqualFunc_S_api_Type_S_api_Type_api_Type_api_Type_b4 t1 t2 t15 t16 t17 H' K Kb4) : slices_EqualFunc_S_api_Type_S_api_Type_api_Type_api_Type_l4 t1 t2 t15 t16 t17 H K :=
  aloop (M := slices_EqualFunc_S_api_Type_S_api_Type_api_Type_api_Type_M) slices_EqualFunc_S_api_Type_S_api_Type_api_Type_api_Type_m4 (fun n F H => ∃ t17, F = slices_EqualFunc_S_api_Type_S_api_Type_api_Type_api_Type_fr4 t1 t2 t15 t16 t17 ∧ Inv n t17 H) n (fun hs _ => ⟨t17, rfl, h0 hs⟩) (fun n F H' ⟨t17, hF, hI⟩ h1 h2 h3 => by subst hF; rw [slices_EqualFunc_S_api_Type_S_api_Type_api_Type_api_Type_b4_eq]; exact round n t17 H' hI h1 h2 h3 _ (fun _ _ h => h))
theorem slices_EqualFunc_S_api_Type_S_api_Type_api_Type_api_Type_eq (t0 t1 t2 : AV) (H : Heap) (K : Kt) : awp Tryz.prog slices_EqualFunc_S_api_Type_S_api_Type_api_Type_api_Type_M slices_EqualFunc_S_api_Type_S_api_Type_api_Type_api_Type_c (retQ Tryz.prog slices_EqualFunc_S_api_Type_S_api_Type_api_Type_api_Type_r K) (t0 :: t1 :: t2 :: List.replicate 29 .unk) H = slices_EqualFunc_S_api_Type_S_api_Type_api_Type_api_Type t0 t1 t2 H K := by kernel_rfl
theorem slices_EqualFunc_S_api_Type_S_api_Type_api_Type_api_Type_ok {t0 t1 t2 : AV} {H : Heap} {K : Kt} (h : HSc H → slices_EqualFunc_S_api_Type_S_api_Type_api_Type_api_Type t0 t1 t2 H K) : ACalls Tryz.prog n_slices_EqualFunc_S_api_Type_S_api_Type_api_Type_api_Type [t0, t1, t2] H K :=
  acalls_body (M := slices_EqualFunc_S_api_Type_S_api_Type_api_Type_api_Type_M) Tryz.func226 (c := slices_EqualFunc_S_api_Type_S_api_Type_api_Type_api_Type_c) (by kernel_rfl) (fun hs => (slices_EqualFunc_S_api_Type_S_api_Type_api_Type_api_Type_eq t0 t1 t2 H K).mpr (h hs))
/-! ### 146: slices.ContainsFunc[[]api.Type,api.Type] -/
def slices_ContainsFunc_S_api_Type_api_Type_M (_ : Nat) : List Bool := []
noncomputable def slices_ContainsFunc_S_api_Type_api_Type_c : Code := Tryz.f146.body.getD .skip
noncomputable def slices_ContainsFunc_S_api_Type_api_Type_r : List ResultVar := Tryz.f146.results.toList
def slices_ContainsFunc_S_api_Type_api_Type (t0 t1 : AV) (H : Heap) (K : Kt) : Prop :=
  ACalls Tryz.prog n_slices_IndexFunc_S_api_Type_api_Type [t0, t1] H fun t7 H =>
  aBin .geq false t7 (.int .i64 0) fun t8 =>
  K t8 H
theorem slices_ContainsFunc_S_api_Type_api_Type_eq (t0 t1 : AV) (H : Heap) (K : Kt) : awp Tryz.prog slices_ContainsFunc_S_api_Type_api_Type_M slices_ContainsFunc_S_api_Type_api_Type_c (retQ Tryz.prog slices_ContainsFunc_S_api_Type_api_Type_r K) (t0 :: t1 :: List.replicate 7 .unk) H = slices_ContainsFunc_S_api_Type_api_Type t0 t1 H K := by kernel_rfl
theorem slices_ContainsFunc_S_api_Type_api_Type_ok {t0 t1 : AV} {H : Heap} {K : Kt} (h : HSc H → slices_ContainsFunc_S_api_Type_api_Type t0 t1 H K) : ACalls Tryz.prog n_slices_ContainsFunc_S_api_Type_api_Type [t0, t1] H K :=
  acalls_body (M := slices_ContainsFunc_S_api_Type_api_Type_M) Tryz.func146 (c := slices_ContainsFunc_S_api_Type_api_Type_c) (by kernel_rfl) (fun hs => (slices_ContainsFunc_S_api_Type_api_Type_eq t0 t1 H K).mpr (h hs))
/-! ### 188: slices.IndexFunc[[]api.Type,api.Type] -/
def slices_IndexFunc_S_api_Type_api_Type_M : Nat → List Bool
  | 2 => rl false [0,2,5,2,10]
  | _ => []
noncomputable def slices_IndexFunc_S_api_Type_api_Type_c : Code := Tryz.f188.body.getD .skip
noncomputable def slices_IndexFunc_S_api_Type_api_Type_r : List ResultVar := Tryz.f188.results.toList
def slices_IndexFunc_S_api_Type_api_Type_fr2 (t0 t1 t7 t8 : AV) : List AV := t0 :: t1 :: ux 5 (t7 :: t8 :: ux 10 [])
def slices_IndexFunc_S_api_Type_api_Type_m2 : List Bool := slices_IndexFunc_S_api_Type_api_Type_M 2
noncomputable def slices_IndexFunc_S_api_Type_api_Type_c2 : Code := codeAt [1, 0, 1, 0, 0] slices_IndexFunc_S_api_Type_api_Type_c
def slices_IndexFunc_S_api_Type_api_Type_Q2 (K : Kt) : AExit → List AV → Heap → Prop := contAt Tryz.prog slices_IndexFunc_S_api_Type_api_Type_M [1, 0, 1, 0] slices_IndexFunc_S_api_Type_api_Type_c (retQ Tryz.prog slices_IndexFunc_S_api_Type_api_Type_r K)
def slices_IndexFunc_S_api_Type_api_Type_l2 (t0 t1 t7 t8 : AV) (H : Heap) (K : Kt) : Prop := ALoop Tryz.prog slices_IndexFunc_S_api_Type_api_Type_c2 (slices_IndexFunc_S_api_Type_api_Type_Q2 K) (slices_IndexFunc_S_api_Type_api_Type_fr2 t0 t1 t7 t8) H
def slices_IndexFunc_S_api_Type_api_Type_b2 (t0 t1 t7 t8 : AV) (H : Heap) (K : Kt) (Kb2 : Lt) : Prop :=
  aBin .lss false t8 t7 fun t9 =>
  aTest t9
  (aIdxA 3 t0 t8 fun t14 =>
  aLoad true 3 t14 H fun t15 =>
  aCallV Tryz.prog t1 [t15] H fun t16 H =>
  aTest t16
  (K t8 H)
  (aBin .add false t8 (.int .i64 1) fun t18 =>
  Kb2 (slices_IndexFunc_S_api_Type_api_Type_fr2 t0 t1 t7 t18) H))
  (K (.int .i64 (-1)) H)
def slices_IndexFunc_S_api_Type_api_Type (t0 t1 : AV) (H : Heap) (K : Kt) : Prop :=
  aLen 1 t0 fun t7 =>
  slices_IndexFunc_S_api_Type_api_Type_l2 t0 t1 t7 (.int .i64 0) H K
theorem slices_IndexFunc_S_api_Type_api_Type_b2_eq (t0 t1 t7 t8 : AV) (H : Heap) (K : Kt) (Kb2 : Lt) : awp Tryz.prog slices_IndexFunc_S_api_Type_api_Type_M slices_IndexFunc_S_api_Type_api_Type_c2 (roundQ slices_IndexFunc_S_api_Type_api_Type_m2 Kb2 (slices_IndexFunc_S_api_Type_api_Type_Q2 K)) (slices_IndexFunc_S_api_Type_api_Type_fr2 t0 t1 t7 t8) H = slices_IndexFunc_S_api_Type_api_Type_b2 t0 t1 t7 t8 H K Kb2 := by kernel_rfl
theorem slices_IndexFunc_S_api_Type_api_Type_loop2 {t0 t1 t7 t8 : AV} {H : Heap} {K : Kt} (Inv : Nat → AV → Heap → Prop) (n : Nat) (h0 : HSc H → Inv n t8 H)
    (round : ∀ n t8 H', Inv n t8 H' → HSc H' → H.length ≤ H'.length → (slices_IndexFunc_S_api_Type_api_Type_fr2 t0 t1 t7 t8).all (AV.sc H'.length) = true → ∀ Kb2 : Lt, (∀ F'' H'', (∃ n', n' < n ∧ Back H.length (fun F2 H2 => ∃ t8, F2 = slices_IndexFunc_S_api_Type_api_Type_fr2 t0 t1 t7 t8 ∧ Inv n' t8 H2) F'' H'') → Kb2 F'' H'') → slices_IndexFunc_S_api_Type_api_Type_b2 t0 t1 t7 t8 H' K Kb2) : slices_IndexFunc_S_api_Type_api_Type_l2 t0 t1 t7 t8 H K :=
  aloop (M := slices_IndexFunc_S_api_Type_api_Type_M) slices_IndexFunc_S_api_Type_api_Type_m2 (fun n F H => ∃ t8, F = slices_IndexFunc_S_api_Type_api_Type_fr2 t0 t1 t7 t8 ∧ Inv n t8 H) n (fun hs _ => ⟨t8, rfl, h0 hs⟩) (fun n F H' ⟨t8, hF, hI⟩ h1 h2 h3 => by subst hF; rw [slices_IndexFunc_S_api_Type_api_Type_b2_eq]; exact round n t8 H' hI h1 h2 h3 _ (fun _ _ h => h))
theorem slices_IndexFunc_S_api_Type_api_Type_eq (t0 t1 : AV) (H : Heap) (K : Kt) : awp Tryz.prog slices_IndexFunc_S_api_Type_api_Type_M slices_IndexFunc_S_api_Type_api_Type_c (retQ Tryz.prog slices_IndexFunc_S_api_Type_api_Type_r K) (t0 :: t1 :: List.replicate 17 .unk) H = slices_IndexFunc_S_api_Type_api_Type t0 t1 H K := by kernel_rfl
theorem slices_IndexFunc_S_api_Type_api_Type_ok {t0 t1 : AV} {H : Heap} {K : Kt} (h : HSc H → slices_IndexFunc_S_api_Type_api_Type t0 t1 H K) : ACalls Tryz.prog n_slices_IndexFunc_S_api_Type_api_Type [t0, t1] H K :=
  acalls_body (M := slices_IndexFunc_S_api_Type_api_Type_M) Tryz.func188 (c := slices_IndexFunc_S_api_Type_api_Type_c) (by kernel_rfl) (fun hs => (slices_IndexFunc_S_api_Type_api_Type_eq t0 t1 H K).mpr (h hs))
end Go.Proofs.YtfpmdpldabopjaaGreatDoor
namespace Go.Proofs.YtfpmdpldabopjaaGreatDoor
open Go Go.Abs
set_option linter.unusedVariables false
set_option maxRecDepth 100000
/-! ### 91: typing.Fields -/
def typing_Fields_M : Nat → List Bool
  | 8 => rl false [2,1,1,1,3,2,49,3,46]
  | 13 => rl false [2,1,1,1,3,2,67,3,28]
  | 20 => rl false [4,1,9,1,78,3,12]
  | _ => []
noncomputable def typing_Fields_c : Code := Tryz.f91.body.getD .skip
noncomputable def typing_Fields_r : List ResultVar := Tryz.f91.results.toList
def typing_Fields_fr8 (t2 t4 t8 t9 t59 t60 t61 : AV) : List AV := ux 2 (t2 :: ux 1 (t4 :: ux 3 (t8 :: t9 :: ux 49 (t59 :: t60 :: t61 :: ux 46 []))))
def typing_Fields_m8 : List Bool := typing_Fields_M 8
noncomputable def typing_Fields_c8 : Code := codeAt [1, 1, 1, 1, 1, 0, 1, 0, 0] typing_Fields_c
def typing_Fields_Q8 (K : Kt) : AExit → List AV → Heap → Prop := contAt Tryz.prog typing_Fields_M [1, 1, 1, 1, 1, 0, 1, 0] typing_Fields_c (retQ Tryz.prog typing_Fields_r K)
def typing_Fields_l8 (t2 t4 t8 t9 t59 t60 t61 : AV) (H : Heap) (K : Kt) : Prop := ALoop Tryz.prog typing_Fields_c8 (typing_Fields_Q8 K) (typing_Fields_fr8 t2 t4 t8 t9 t59 t60 t61) H
def typing_Fields_fr13 (t2 t4 t8 t9 t77 t78 t79 : AV) : List AV := ux 2 (t2 :: ux 1 (t4 :: ux 3 (t8 :: t9 :: ux 67 (t77 :: t78 :: t79 :: ux 28 []))))
def typing_Fields_m13 : List Bool := typing_Fields_M 13
noncomputable def typing_Fields_c13 : Code := codeAt [1, 1, 1, 1, 1, 1, 0, 1, 0, 0] typing_Fields_c
def typing_Fields_Q13 (K : Kt) : AExit → List AV → Heap → Prop := contAt Tryz.prog typing_Fields_M [1, 1, 1, 1, 1, 1, 0, 1, 0] typing_Fields_c (retQ Tryz.prog typing_Fields_r K)
def typing_Fields_l13 (t2 t4 t8 t9 t77 t78 t79 : AV) (H : Heap) (K : Kt) : Prop := ALoop Tryz.prog typing_Fields_c13 (typing_Fields_Q13 K) (typing_Fields_fr13 t2 t4 t8 t9 t77 t78 t79) H
def typing_Fields_fr20 (t4 t14 t93 t94 t95 : AV) : List AV := ux 4 (t4 :: ux 9 (t14 :: ux 78 (t93 :: t94 :: t95 :: ux 12 [])))
def typing_Fields_m20 : List Bool := typing_Fields_M 20
noncomputable def typing_Fields_c20 : Code := codeAt [1, 1, 1, 1, 1, 1, 1, 1, 0, 1, 0, 0] typing_Fields_c
def typing_Fields_Q20 (K : Kt) : AExit → List AV → Heap → Prop := contAt Tryz.prog typing_Fields_M [1, 1, 1, 1, 1, 1, 1, 1, 0, 1, 0] typing_Fields_c (retQ Tryz.prog typing_Fields_r K)
def typing_Fields_l20 (t4 t14 t93 t94 t95 : AV) (H : Heap) (K : Kt) : Prop := ALoop Tryz.prog typing_Fields_c20 (typing_Fields_Q20 K) (typing_Fields_fr20 t4 t14 t93 t94 t95) H
def typing_Fields_b20 (t4 t14 t93 t94 t95 : AV) (H : Heap) (K : Kt) (Kb20 : Lt) : Prop :=
  aBin .lss false t95 t94 fun t96 =>
  aTest t96
  (aIdxA 3 t93 t95 fun t97 =>
  aLoad true 3 t97 H fun t98 =>
  aNew [(.int .i64 0), (.int .i64 0), .snil] H fun t16 H =>
  aStore 3 t16 t98 H fun H =>
  aLoad true 3 t16 H fun t100 =>
  aFld 2 t4 fun t101 =>
  aLoad false 1 t101 H fun t102 =>
  ACalls Tryz.prog n_typing_Subst [t100, t102] H fun t103 H =>
  aBuildS 3 [(.int .i64 0), (.int .i64 0), .snil] 1 [(0, t103)] fun t104 =>
  aAppend e_api_Type 3 40 t14 t104 H fun t105 H =>
  aBin .add false t95 (.int .i64 1) fun t106 =>
  Kb20 (typing_Fields_fr20 t4 t105 t93 t94 t106) H)
  (aRet [t14, (.bool true)] (K · H))
def typing_Fields_b13 (t2 t4 t8 t9 t77 t78 t79 : AV) (H : Heap) (K : Kt) (Kb13 : Lt) : Prop :=
  aBin .lss false t79 t78 fun t80 =>
  aTest t80
  (aIdxA 3 t77 t79 fun t81 =>
  aLoad true 3 t81 H fun t82 =>
  aNew [(.int .i64 0), (.int .i64 0), .snil] H fun t13 H =>
  aStore 3 t13 t82 H fun H =>
  aLoad true 3 t13 H fun t83 =>
  ACalls Tryz.prog n_typing_substSize [t83, t9] H fun t85 H =>
  aBin .gtr false t85 (.int .i64 200) fun t86 =>
  aTest t86
  (aRet [.snil, (.bool false)] (K · H))
  (aBin .add false t79 (.int .i64 1) fun t87 =>
  Kb13 (typing_Fields_fr13 t2 t4 t8 t9 t77 t78 t87) H))
  (aFld 2 t8 fun t88 =>
  aLoad false 1 t88 H fun t89 =>
  aIdxA 2 t89 t2 fun t91 =>
  aFld 1 t91 fun t92 =>
  aLoad false 1 t92 H fun t93 =>
  aLen 1 t93 fun t94 =>
  typing_Fields_l20 t4 .snil t93 t94 (.int .i64 0) H K)
def typing_Fields_b8 (t2 t4 t8 t9 t59 t60 t61 : AV) (H : Heap) (K : Kt) (Kb8 : Lt) : Prop :=
  aBin .lss false t61 t60 fun t62 =>
  aTest t62
  (aIdxA 3 t59 t61 fun t64 =>
  aLoad true 3 t64 H fun t65 =>
  aNew [(.int .i64 0), (.int .i64 0), .snil] H fun t11 H =>
  aStore 3 t11 t65 H fun H =>
  aLoad true 3 t11 H fun t68 =>
  ACalls Tryz.prog n_typing_Size [t68] H fun t69 H =>
  aIdxA 1 t9 t61 fun t70 =>
  aStore 1 t70 t69 H fun H =>
  aBin .add false t61 (.int .i64 1) fun t71 =>
  Kb8 (typing_Fields_fr8 t2 t4 t8 t9 t59 t60 t71) H)
  (aFld 2 t8 fun t72 =>
  aLoad false 1 t72 H fun t73 =>
  aIdxA 2 t73 t2 fun t75 =>
  aFld 1 t75 fun t76 =>
  aLoad false 1 t76 H fun t77 =>
  aLen 1 t77 fun t78 =>
  typing_Fields_l13 t2 t4 t8 t9 t77 t78 (.int .i64 0) H K)
def typing_Fields (t0 t1 t2 : AV) (H : Heap) (K : Kt) : Prop :=
  aBox t1 H fun t4 H =>
  aFld 0 t4 fun t17 =>
  aLoad false 1 t17 H fun t18 =>
  aBin .neq false t18 (.int .i64 5) fun t19 =>
  aGuardJ t19 false H (fun K' => aFld 1 t4 (K' · H)) fun t21 H =>
  aGuardJ t19 false H (fun K' => aLoad false 1 t21 H (K' · H)) fun t22 H =>
  aGuardJ t19 false H (fun K' => aBin .lss false t22 (.int .i64 0) (K' · H)) fun t23 H =>
  aPick t19 (.bool true) t23 fun t24 =>
  aGuardJ t24 false H (fun K' => aFld 1 t4 (K' · H)) fun t26 H =>
  aGuardJ t24 false H (fun K' => aLoad false 1 t26 H (K' · H)) fun t27 H =>
  aGuardJ t24 false H (fun K' => K' t0 H) fun t28 H =>
  aGuardJ t24 false H (fun K' => aLen 1 t28 (K' · H)) fun t29 H =>
  aGuardJ t24 false H (fun K' => aBin .geq false t27 t29 (K' · H)) fun t30 H =>
  aPick t24 (.bool true) t30 fun t31 =>
  aTest t31
  (aRet [.snil, (.bool false)] (K · H))
  (aFld 1 t4 fun t33 =>
  aLoad false 1 t33 H fun t34 =>
  aIdxA 3 t0 t34 fun t35 =>
  aLoad true 3 t35 H fun t36 =>
  aNew [(.str []), (.int .i64 0), .snil] H fun t8 H =>
  aStore 3 t8 t36 H fun H =>
  aFld 2 t4 fun t37 =>
  aLoad false 1 t37 H fun t38 =>
  aLen 1 t38 fun t39 =>
  aFld 1 t8 fun t40 =>
  aLoad false 1 t40 H fun t41 =>
  aBin .neq false t39 t41 fun t42 =>
  aGuardJ t42 false H (fun K' => K' t2 H) fun t44 H =>
  aGuardJ t42 false H (fun K' => aBin .lss false t44 (.int .i64 0) (K' · H)) fun t45 H =>
  aPick t42 (.bool true) t45 fun t46 =>
  aGuardJ t46 false H (fun K' => K' t2 H) fun t48 H =>
  aGuardJ t46 false H (fun K' => aFld 2 t8 (K' · H)) fun t49 H =>
  aGuardJ t46 false H (fun K' => aLoad false 1 t49 H (K' · H)) fun t50 H =>
  aGuardJ t46 false H (fun K' => aLen 1 t50 (K' · H)) fun t51 H =>
  aGuardJ t46 false H (fun K' => aBin .geq false t48 t51 (K' · H)) fun t52 H =>
  aPick t46 (.bool true) t52 fun t53 =>
  aTest t53
  (aRet [.snil, (.bool false)] (K · H))
  (aFld 2 t4 fun t54 =>
  aLoad false 1 t54 H fun t55 =>
  aLen 1 t55 fun t56 =>
  aMake 8 [(.int .i64 0)] t56 t56 H fun t57 H =>
  aFld 2 t4 fun t58 =>
  aLoad false 1 t58 H fun t59 =>
  aLen 1 t59 fun t60 =>
  typing_Fields_l8 t2 t4 t8 t57 t59 t60 (.int .i64 0) H K))
theorem typing_Fields_b20_eq (t4 t14 t93 t94 t95 : AV) (H : Heap) (K : Kt) (Kb20 : Lt) : awp Tryz.prog typing_Fields_M typing_Fields_c20 (roundQ typing_Fields_m20 Kb20 (typing_Fields_Q20 K)) (typing_Fields_fr20 t4 t14 t93 t94 t95) H = typing_Fields_b20 t4 t14 t93 t94 t95 H K Kb20 := by kernel_rfl
theorem typing_Fields_loop20 {t4 t14 t93 t94 t95 : AV} {H : Heap} {K : Kt} (Inv : Nat → AV → AV → Heap → Prop) (n : Nat) (h0 : HSc H → Inv n t14 t95 H)
    (round : ∀ n t14 t95 H', Inv n t14 t95 H' → HSc H' → H.length ≤ H'.length → (typing_Fields_fr20 t4 t14 t93 t94 t95).all (AV.sc H'.length) = true → ∀ Kb20 : Lt, (∀ F'' H'', (∃ n', n' < n ∧ Back H.length (fun F2 H2 => ∃ t14 t95, F2 = typing_Fields_fr20 t4 t14 t93 t94 t95 ∧ Inv n' t14 t95 H2) F'' H'') → Kb20 F'' H'') → typing_Fields_b20 t4 t14 t93 t94 t95 H' K Kb20) : typing_Fields_l20 t4 t14 t93 t94 t95 H K :=
  aloop (M := typing_Fields_M) typing_Fields_m20 (fun n F H => ∃ t14 t95, F = typing_Fields_fr20 t4 t14 t93 t94 t95 ∧ Inv n t14 t95 H) n (fun hs _ => ⟨t14, t95, rfl, h0 hs⟩) (fun n F H' ⟨t14, t95, hF, hI⟩ h1 h2 h3 => by subst hF; rw [typing_Fields_b20_eq]; exact round n t14 t95 H' hI h1 h2 h3 _ (fun _ _ h => h))
theorem typing_Fields_b13_eq (t2 t4 t8 t9 t77 t78 t79 : AV) (H : Heap) (K : Kt) (Kb13 : Lt) : awp Tryz.prog typing_Fields_M typing_Fields_c13 (roundQ typing_Fields_m13 Kb13 (typing_Fields_Q13 K)) (typing_Fields_fr13 t2 t4 t8 t9 t77 t78 t79) H = typing_Fields_b13 t2 t4 t8 t9 t77 t78 t79 H K Kb13 := by kernel_rfl
theorem typing_Fields_loop13 {t2 t4 t8 t9 t77 t78 t79 : AV} {H : Heap} {K : Kt} (Inv : Nat → AV → Heap → Prop) (n : Nat) (h0 : HSc H → Inv n t79 H)
    (round : ∀ n t79 H', Inv n t79 H' → HSc H' → H.length ≤ H'.length → (typing_Fields_fr13 t2 t4 t8 t9 t77 t78 t79).all (AV.sc H'.length) = true → ∀ Kb13 : Lt, (∀ F'' H'', (∃ n', n' < n ∧ Back H.length (fun F2 H2 => ∃ t79, F2 = typing_Fields_fr13 t2 t4 t8 t9 t77 t78 t79 ∧ Inv n' t79 H2) F'' H'') → Kb13 F'' H'') → typing_Fields_b13 t2 t4 t8 t9 t77 t78 t79 H' K Kb13) : typing_Fields_l13 t2 t4 t8 t9 t77 t78 t79 H K :=
  aloop (M := typing_Fields_M) typing_Fields_m13 (fun n F H => ∃ t79, F = typing_Fields_fr13 t2 t4 t8 t9 t77 t78 t79 ∧ Inv n t79 H) n (fun hs _ => ⟨t79, rfl, h0 hs⟩) (fun n F H' ⟨t79, hF, hI⟩ h1 h2 h3 => by subst hF; rw [typing_Fields_b13_eq]; exact round n t79 H' hI h1 h2 h3 _ (fun _ _ h => h))
theorem typing_Fields_b8_eq (t2 t4 t8 t9 t59 t60 t61 : AV) (H : Heap) (K : Kt) (Kb8 : Lt) : awp Tryz.prog typing_Fields_M typing_Fields_c8 (roundQ typing_Fields_m8 Kb8 (typing_Fields_Q8 K)) (typing_Fields_fr8 t2 t4 t8 t9 t59 t60 t61) H = typing_Fields_b8 t2 t4 t8 t9 t59 t60 t61 H K Kb8 := by kernel_rfl
theorem typing_Fields_loop8 {t2 t4 t8 t9 t59 t60 t61 : AV} {H : Heap} {K : Kt} (Inv : Nat → AV → Heap → Prop) (n : Nat) (h0 : HSc H → Inv n t61 H)
    (round : ∀ n t61 H', Inv n t61 H' → HSc H' → H.length ≤ H'.length → (typing_Fields_fr8 t2 t4 t8 t9 t59 t60 t61).all (AV.sc H'.length) = true → ∀ Kb8 : Lt, (∀ F'' H'', (∃ n', n' < n ∧ Back H.length (fun F2 H2 => ∃ t61, F2 = typing_Fields_fr8 t2 t4 t8 t9 t59 t60 t61 ∧ Inv n' t61 H2) F'' H'') → Kb8 F'' H'') → typing_Fields_b8 t2 t4 t8 t9 t59 t60 t61 H' K Kb8) : typing_Fields_l8 t2 t4 t8 t9 t59 t60 t61 H K :=
  aloop (M := typing_Fields_M) typing_Fields_m8 (fun n F H => ∃ t61, F = typing_Fields_fr8 t2 t4 t8 t9 t59 t60 t61 ∧ Inv n t61 H) n (fun hs _ => ⟨t61, rfl, h0 hs⟩) (fun n F H' ⟨t61, hF, hI⟩ h1 h2 h3 => by subst hF; rw [typing_Fields_b8_eq]; exact round n t61 H' hI h1 h2 h3 _ (fun _ _ h => h))
theorem typing_Fields_eq (t0 t1 t2 : AV) (H : Heap) (K : Kt) : awp Tryz.prog typing_Fields_M typing_Fields_c (retQ Tryz.prog typing_Fields_r K) (t0 :: t1 :: t2 :: List.replicate 105 .unk) H = typing_Fields t0 t1 t2 H K := by kernel_rfl
theorem typing_Fields_ok {t0 t1 t2 : AV} {H : Heap} {K : Kt} (h : HSc H → typing_Fields t0 t1 t2 H K) : ACalls Tryz.prog n_typing_Fields [t0, t1, t2] H K :=
  acalls_body (M := typing_Fields_M) Tryz.func91 (c := typing_Fields_c) (by kernel_rfl) (fun hs => (typing_Fields_eq t0 t1 t2 H K).mpr (h hs))
/-! ### 159: typing.Size -/
def typing_Size_M : Nat → List Bool
  | 3 => rl false [3,1,3,3,9]
  | _ => []
noncomputable def typing_Size_c : Code := Tryz.f159.body.getD .skip
noncomputable def typing_Size_r : List ResultVar := Tryz.f159.results.toList
def typing_Size_fr3 (t3 t7 t8 t9 : AV) : List AV := ux 3 (t3 :: ux 3 (t7 :: t8 :: t9 :: ux 9 []))
def typing_Size_m3 : List Bool := typing_Size_M 3
noncomputable def typing_Size_c3 : Code := codeAt [1, 1, 0, 1, 0, 0] typing_Size_c
def typing_Size_Q3 (K : Kt) : AExit → List AV → Heap → Prop := contAt Tryz.prog typing_Size_M [1, 1, 0, 1, 0] typing_Size_c (retQ Tryz.prog typing_Size_r K)
def typing_Size_l3 (t3 t7 t8 t9 : AV) (H : Heap) (K : Kt) : Prop := ALoop Tryz.prog typing_Size_c3 (typing_Size_Q3 K) (typing_Size_fr3 t3 t7 t8 t9) H
def typing_Size_b3 (t3 t7 t8 t9 : AV) (H : Heap) (K : Kt) (Kb3 : Lt) : Prop :=
  aBin .lss false t9 t8 fun t10 =>
  aTest t10
  (aIdxA 3 t7 t9 fun t11 =>
  aLoad true 3 t11 H fun t12 =>
  aNew [(.int .i64 0), (.int .i64 0), .snil] H fun t5 H =>
  aStore 3 t5 t12 H fun H =>
  aLoad true 3 t5 H fun t14 =>
  ACalls Tryz.prog n_typing_Size [t14] H fun t15 H =>
  aBin .add false t3 t15 fun t16 =>
  aBin .add false t9 (.int .i64 1) fun t17 =>
  Kb3 (typing_Size_fr3 t16 t7 t8 t17) H)
  (K t3 H)
def typing_Size (t0 : AV) (H : Heap) (K : Kt) : Prop :=
  aBox t0 H fun t1 H =>
  aFld 2 t1 fun t6 =>
  aLoad false 1 t6 H fun t7 =>
  aLen 1 t7 fun t8 =>
  typing_Size_l3 (.int .i64 1) t7 t8 (.int .i64 0) H K
theorem typing_Size_b3_eq (t3 t7 t8 t9 : AV) (H : Heap) (K : Kt) (Kb3 : Lt) : awp Tryz.prog typing_Size_M typing_Size_c3 (roundQ typing_Size_m3 Kb3 (typing_Size_Q3 K)) (typing_Size_fr3 t3 t7 t8 t9) H = typing_Size_b3 t3 t7 t8 t9 H K Kb3 := by kernel_rfl
theorem typing_Size_loop3 {t3 t7 t8 t9 : AV} {H : Heap} {K : Kt} (Inv : Nat → AV → AV → Heap → Prop) (n : Nat) (h0 : HSc H → Inv n t3 t9 H)
    (round : ∀ n t3 t9 H', Inv n t3 t9 H' → HSc H' → H.length ≤ H'.length → (typing_Size_fr3 t3 t7 t8 t9).all (AV.sc H'.length) = true → ∀ Kb3 : Lt, (∀ F'' H'', (∃ n', n' < n ∧ Back H.length (fun F2 H2 => ∃ t3 t9, F2 = typing_Size_fr3 t3 t7 t8 t9 ∧ Inv n' t3 t9 H2) F'' H'') → Kb3 F'' H'') → typing_Size_b3 t3 t7 t8 t9 H' K Kb3) : typing_Size_l3 t3 t7 t8 t9 H K :=
  aloop (M := typing_Size_M) typing_Size_m3 (fun n F H => ∃ t3 t9, F = typing_Size_fr3 t3 t7 t8 t9 ∧ Inv n t3 t9 H) n (fun hs _ => ⟨t3, t9, rfl, h0 hs⟩) (fun n F H' ⟨t3, t9, hF, hI⟩ h1 h2 h3 => by subst hF; rw [typing_Size_b3_eq]; exact round n t3 t9 H' hI h1 h2 h3 _ (fun _ _ h => h))
theorem typing_Size_eq (t0 : AV) (H : Heap) (K : Kt) : awp Tryz.prog typing_Size_M typing_Size_c (retQ Tryz.prog typing_Size_r K) (t0 :: List.replicate 18 .unk) H = typing_Size t0 H K := by kernel_rfl
theorem typing_Size_ok {t0 : AV} {H : Heap} {K : Kt} (h : HSc H → typing_Size t0 H K) : ACalls Tryz.prog n_typing_Size [t0] H K :=
  acalls_body (M := typing_Size_M) Tryz.func159 (c := typing_Size_c) (by kernel_rfl) (fun hs => (typing_Size_eq t0 H K).mpr (h hs))
/-! ### 160: typing.substSize -/
def typing_substSize_M : Nat → List Bool
  | 5 => rl false [1,1,3,1,23,3,12]
  | _ => []
noncomputable def typing_substSize_c : Code := Tryz.f160.body.getD .skip
noncomputable def typing_substSize_r : List ResultVar := Tryz.f160.results.toList
def typing_substSize_fr5 (t1 t5 t29 t30 t31 : AV) : List AV := ux 1 (t1 :: ux 3 (t5 :: ux 23 (t29 :: t30 :: t31 :: ux 12 [])))
def typing_substSize_m5 : List Bool := typing_substSize_M 5
noncomputable def typing_substSize_c5 : Code := codeAt [1, 1, 1, 0, 1, 0, 0] typing_substSize_c
def typing_substSize_Q5 (K : Kt) : AExit → List AV → Heap → Prop := contAt Tryz.prog typing_substSize_M [1, 1, 1, 0, 1, 0] typing_substSize_c (retQ Tryz.prog typing_substSize_r K)
def typing_substSize_l5 (t1 t5 t29 t30 t31 : AV) (H : Heap) (K : Kt) : Prop := ALoop Tryz.prog typing_substSize_c5 (typing_substSize_Q5 K) (typing_substSize_fr5 t1 t5 t29 t30 t31) H
def typing_substSize_j2 (t5 : AV) (H : Heap) (K : Kt) : Prop :=
  K t5 H
def typing_substSize_j1 (t5 : AV) (H : Heap) (K : Kt) : Prop :=
  typing_substSize_j2 t5 H K
def typing_substSize_b5 (t1 t5 t29 t30 t31 : AV) (H : Heap) (K : Kt) (Kb5 : Lt) : Prop :=
  aBin .lss false t31 t30 fun t32 =>
  aTest t32
  (aIdxA 3 t29 t31 fun t33 =>
  aLoad true 3 t33 H fun t34 =>
  aNew [(.int .i64 0), (.int .i64 0), .snil] H fun t7 H =>
  aStore 3 t7 t34 H fun H =>
  aLoad true 3 t7 H fun t36 =>
  ACalls Tryz.prog n_typing_substSize [t36, t1] H fun t38 H =>
  aBin .add false t5 t38 fun t39 =>
  aBin .gtr false t39 (.int .i64 200) fun t41 =>
  aTest t41
  (typing_substSize_j1 t39 H K)
  (aBin .add false t31 (.int .i64 1) fun t42 =>
  Kb5 (typing_substSize_fr5 t1 t39 t29 t30 t42) H))
  (typing_substSize_j1 t5 H K)
def typing_substSize (t0 t1 : AV) (H : Heap) (K : Kt) : Prop :=
  aBox t0 H fun t2 H =>
  aFld 0 t2 fun t8 =>
  aLoad false 1 t8 H fun t9 =>
  aBin .eql false t9 (.int .i64 4) fun t10 =>
  aGuardJ t10 true H (fun K' => aFld 1 t2 (K' · H)) fun t12 H =>
  aGuardJ t10 true H (fun K' => aLoad false 1 t12 H (K' · H)) fun t13 H =>
  aGuardJ t10 true H (fun K' => aBin .geq false t13 (.int .i64 0) (K' · H)) fun t14 H =>
  aPick t10 t14 (.bool false) fun t15 =>
  aGuardJ t15 true H (fun K' => aFld 1 t2 (K' · H)) fun t17 H =>
  aGuardJ t15 true H (fun K' => aLoad false 1 t17 H (K' · H)) fun t18 H =>
  aGuardJ t15 true H (fun K' => K' t1 H) fun t19 H =>
  aGuardJ t15 true H (fun K' => aLen 1 t19 (K' · H)) fun t20 H =>
  aGuardJ t15 true H (fun K' => aBin .lss false t18 t20 (K' · H)) fun t21 H =>
  aPick t15 t21 (.bool false) fun t22 =>
  aTest t22
  (aFld 1 t2 fun t24 =>
  aLoad false 1 t24 H fun t25 =>
  aIdxA 1 t1 t25 fun t26 =>
  aLoad false 1 t26 H fun t27 =>
  K t27 H)
  (aFld 2 t2 fun t28 =>
  aLoad false 1 t28 H fun t29 =>
  aLen 1 t29 fun t30 =>
  typing_substSize_l5 t1 (.int .i64 1) t29 t30 (.int .i64 0) H K)
theorem typing_substSize_b5_eq (t1 t5 t29 t30 t31 : AV) (H : Heap) (K : Kt) (Kb5 : Lt) : awp Tryz.prog typing_substSize_M typing_substSize_c5 (roundQ typing_substSize_m5 Kb5 (typing_substSize_Q5 K)) (typing_substSize_fr5 t1 t5 t29 t30 t31) H = typing_substSize_b5 t1 t5 t29 t30 t31 H K Kb5 := by kernel_rfl
theorem typing_substSize_loop5 {t1 t5 t29 t30 t31 : AV} {H : Heap} {K : Kt} (Inv : Nat → AV → AV → Heap → Prop) (n : Nat) (h0 : HSc H → Inv n t5 t31 H)
    (round : ∀ n t5 t31 H', Inv n t5 t31 H' → HSc H' → H.length ≤ H'.length → (typing_substSize_fr5 t1 t5 t29 t30 t31).all (AV.sc H'.length) = true → ∀ Kb5 : Lt, (∀ F'' H'', (∃ n', n' < n ∧ Back H.length (fun F2 H2 => ∃ t5 t31, F2 = typing_substSize_fr5 t1 t5 t29 t30 t31 ∧ Inv n' t5 t31 H2) F'' H'') → Kb5 F'' H'') → typing_substSize_b5 t1 t5 t29 t30 t31 H' K Kb5) : typing_substSize_l5 t1 t5 t29 t30 t31 H K :=
  aloop (M := typing_substSize_M) typing_substSize_m5 (fun n F H => ∃ t5 t31, F = typing_substSize_fr5 t1 t5 t29 t30 t31 ∧ Inv n t5 t31 H) n (fun hs _ => ⟨t5, t31, rfl, h0 hs⟩) (fun n F H' ⟨t5, t31, hF, hI⟩ h1 h2 h3 => by subst hF; rw [typing_substSize_b5_eq]; exact round n t5 t31 H' hI h1 h2 h3 _ (fun _ _ h => h))
theorem typing_substSize_eq (t0 t1 : AV) (H : Heap) (K : Kt) : awp Tryz.prog typing_substSize_M typing_substSize_c (retQ Tryz.prog typing_substSize_r K) (t0 :: t1 :: List.replicate 42 .unk) H = typing_substSize t0 t1 H K := by kernel_rfl
theorem typing_substSize_ok {t0 t1 : AV} {H : Heap} {K : Kt} (h : HSc H → typing_substSize t0 t1 H K) : ACalls Tryz.prog n_typing_substSize [t0, t1] H K :=
  acalls_body (M := typing_substSize_M) Tryz.func160 (c := typing_substSize_c) (by kernel_rfl) (fun hs => (typing_substSize_eq t0 t1 H K).mpr (h hs))
/-! ### 161: typing.Subst -/
def typing_Subst_M : Nat → List Bool
  | 5 => rl false [1,1,2,2,29,3,13]
  | _ => []
noncomputable def typing_Subst_c : Code := Tryz.f161.body.getD .skip
noncomputable def typing_Subst_r : List ResultVar := Tryz.f161.results.toList
def typing_Subst_fr5 (t1 t4 t5 t35 t36 t37 : AV) : List AV := ux 1 (t1 :: ux 2 (t4 :: t5 :: ux 29 (t35 :: t36 :: t37 :: ux 13 [])))
def typing_Subst_m5 : List Bool := typing_Subst_M 5
noncomputable def typing_Subst_c5 : Code := codeAt [1, 1, 1, 0, 1, 0, 0] typing_Subst_c
def typing_Subst_Q5 (K : Kt) : AExit → List AV → Heap → Prop := contAt Tryz.prog typing_Subst_M [1, 1, 1, 0, 1, 0] typing_Subst_c (retQ Tryz.prog typing_Subst_r K)
def typing_Subst_l5 (t1 t4 t5 t35 t36 t37 : AV) (H : Heap) (K : Kt) : Prop := ALoop Tryz.prog typing_Subst_c5 (typing_Subst_Q5 K) (typing_Subst_fr5 t1 t4 t5 t35 t36 t37) H
def typing_Subst_b5 (t1 t4 t5 t35 t36 t37 : AV) (H : Heap) (K : Kt) (Kb5 : Lt) : Prop :=
  aBin .lss false t37 t36 fun t38 =>
  aTest t38
  (aIdxA 3 t35 t37 fun t39 =>
  aLoad true 3 t39 H fun t40 =>
  aNew [(.int .i64 0), (.int .i64 0), .snil] H fun t7 H =>
  aStore 3 t7 t40 H fun H =>
  aPure H (fun K' => aFld 2 t5 (K' · H)) fun t41 =>
  aPure H (fun K' => aLoadC false 1 t41 H (K' · H)) fun t42 =>
  aPure H (fun K' => aLoadC true 3 t7 H (K' · H)) fun t43 =>
  aPure H (fun K' => K' t1 H) fun t44 =>
  aPureX H (fun H K' => ACalls Tryz.prog n_typing_Subst [t43, t44] H K') fun t45 =>
  aPure H (fun K' => aBuildS 3 [(.int .i64 0), (.int .i64 0), .snil] 1 [(0, t45)] (K' · H)) fun t46 =>
  aAppend e_api_Type 3 40 t42 t46 H fun t47 H =>
  aPure H (fun K' => aFld 2 t5 (K' · H)) fun t48 =>
  aStore 1 t48 t47 H fun H =>
  aBin .add false t37 (.int .i64 1) fun t49 =>
  Kb5 (typing_Subst_fr5 t1 t4 t5 t35 t36 t49) H)
  (aLoad true 3 t5 H fun t50 =>
  aStore 3 t4 t50 H fun H =>
  aLoad true 3 t4 H fun r0 =>
  K r0 H)
def typing_Subst (t0 t1 : AV) (H : Heap) (K : Kt) : Prop :=
  aBox t0 H fun t2 H =>
  aNew [(.int .i64 0), (.int .i64 0), .snil] H fun t4 H =>
  aFld 0 t2 fun t8 =>
  aLoad false 1 t8 H fun t9 =>
  aBin .eql false t9 (.int .i64 4) fun t10 =>
  aGuardJ t10 true H (fun K' => aFld 1 t2 (K' · H)) fun t12 H =>
  aGuardJ t10 true H (fun K' => aLoad false 1 t12 H (K' · H)) fun t13 H =>
  aGuardJ t10 true H (fun K' => aBin .geq false t13 (.int .i64 0) (K' · H)) fun t14 H =>
  aPick t10 t14 (.bool false) fun t15 =>
  aGuardJ t15 true H (fun K' => aFld 1 t2 (K' · H)) fun t17 H =>
  aGuardJ t15 true H (fun K' => aLoad false 1 t17 H (K' · H)) fun t18 H =>
  aGuardJ t15 true H (fun K' => K' t1 H) fun t19 H =>
  aGuardJ t15 true H (fun K' => aLen 1 t19 (K' · H)) fun t20 H =>
  aGuardJ t15 true H (fun K' => aBin .lss false t18 t20 (K' · H)) fun t21 H =>
  aPick t15 t21 (.bool false) fun t22 =>
  aTest t22
  (aFld 1 t2 fun t24 =>
  aLoad false 1 t24 H fun t25 =>
  aIdxA 3 t1 t25 fun t26 =>
  aLoad true 3 t26 H fun t27 =>
  ACalls Tryz.prog n_typing_Subst [t27, .snil] H fun t28 H =>
  aStore 3 t4 t28 H fun H =>
  aLoad true 3 t4 H fun r0 =>
  K r0 H)
  (aFld 0 t2 fun t29 =>
  aLoad false 1 t29 H fun t30 =>
  aFld 1 t2 fun t31 =>
  aLoad false 1 t31 H fun t32 =>
  aBuild [(.int .i64 0), (.int .i64 0), .snil] [(0, 1), (1, 1), (2, 1)] [(0, t30), (1, t32)] fun t33 =>
  aNew [(.int .i64 0), (.int .i64 0), .snil] H fun t5 H =>
  aStore 3 t5 t33 H fun H =>
  aFld 2 t2 fun t34 =>
  aLoad false 1 t34 H fun t35 =>
  aLen 1 t35 fun t36 =>
  typing_Subst_l5 t1 t4 t5 t35 t36 (.int .i64 0) H K)
theorem typing_Subst_b5_eq (t1 t4 t5 t35 t36 t37 : AV) (H : Heap) (K : Kt) (Kb5 : Lt) : awp Tryz.prog typing_Subst_M typing_Subst_c5 (roundQ typing_Subst_m5 Kb5 (typing_Subst_Q5 K)) (typing_Subst_fr5 t1 t4 t5 t35 t36 t37) H = typing_Subst_b5 t1 t4 t5 t35 t36 t37 H K Kb5 := by kernel_rfl
theorem typing_Subst_loop5 {t1 t4 t5 t35 t36 t37 : AV} {H : Heap} {K : Kt} (Inv : Nat → AV → Heap → Prop) (n : Nat) (h0 : HSc H → Inv n t37 H)
    (round : ∀ n t37 H', Inv n t37 H' → HSc H' → H.length ≤ H'.length → (typing_Subst_fr5 t1 t4 t5 t35 t36 t37).all (AV.sc H'.length) = true → ∀ Kb5 : Lt, (∀ F'' H'', (∃ n', n' < n ∧ Back H.length (fun F2 H2 => ∃ t37, F2 = typing_Subst_fr5 t1 t4 t5 t35 t36 t37 ∧ Inv n' t37 H2) F'' H'') → Kb5 F'' H'') → typing_Subst_b5 t1 t4 t5 t35 t36 t37 H' K Kb5) : typing_Subst_l5 t1 t4 t5 t35 t36 t37 H K :=
  aloop (M := typing_Subst_M) typing_Subst_m5 (fun n F H => ∃ t37, F = typing_Subst_fr5 t1 t4 t5 t35 t36 t37 ∧ Inv n t37 H) n (fun hs _ => ⟨t37, rfl, h0 hs⟩) (fun n F H' ⟨t37, hF, hI⟩ h1 h2 h3 => by subst hF; rw [typing_Subst_b5_eq]; exact round n t37 H' hI h1 h2 h3 _ (fun _ _ h => h))
theorem typing_Subst_eq (t0 t1 : AV) (H : Heap) (K : Kt) : awp Tryz.prog typing_Subst_M typing_Subst_c (retQ Tryz.prog typing_Subst_r K) (t0 :: t1 :: List.replicate 49 .unk) H = typing_Subst t0 t1 H K := by kernel_rfl
theorem typing_Subst_ok {t0 t1 : AV} {H : Heap} {K : Kt} (h : HSc H → typing_Subst t0 t1 H K) : ACalls Tryz.prog n_typing_Subst [t0, t1] H K :=
  acalls_body (M := typing_Subst_M) Tryz.func161 (c := typing_Subst_c) (by kernel_rfl) (fun hs => (typing_Subst_eq t0 t1 H K).mpr (h hs))
/-! ### 54: amortcostref6.Valid -/
def ref6_Valid_M (_ : Nat) : List Bool := []
noncomputable def ref6_Valid_c : Code := Tryz.f54.body.getD .skip
noncomputable def ref6_Valid_r : List ResultVar := Tryz.f54.results.toList
def ref6_Valid (t0 t1 t2 : AV) (H : Heap) (K : Kt) : Prop :=
  aBox t1 H fun t4 H =>
  aLoad true 3 t4 H fun t7 =>
  ACalls Tryz.prog n_ref6_Size [t7] H fun t8 H =>
  aBin .leq false t8 (.int .i64 200) fun t9 =>
  aGuardJ t9 true H (fun K' => K' t0 H) fun t11 H =>
  aGuardJ t9 true H (fun K' => aLoad true 3 t4 H (K' · H)) fun t12 H =>
  aGuardJ t9 true H (fun K' => K' t2 H) fun t13 H =>
  aGuardJ t9 true H (fun K' => ACalls Tryz.prog n_ref6_valid [t11, t12, t13] H K') fun t14 H =>
  aPick t9 t14 (.bool false) fun t15 =>
  K t15 H
theorem ref6_Valid_eq (t0 t1 t2 : AV) (H : Heap) (K : Kt) : awp Tryz.prog ref6_Valid_M ref6_Valid_c (retQ Tryz.prog ref6_Valid_r K) (t0 :: t1 :: t2 :: List.replicate 13 .unk) H = ref6_Valid t0 t1 t2 H K := by kernel_rfl
theorem ref6_Valid_ok {t0 t1 t2 : AV} {H : Heap} {K : Kt} (h : HSc H → ref6_Valid t0 t1 t2 H K) : ACalls Tryz.prog n_ref6_Valid [t0, t1, t2] H K :=
  acalls_body (M := ref6_Valid_M) Tryz.func54 (c := ref6_Valid_c) (by kernel_rfl) (fun hs => (ref6_Valid_eq t0 t1 t2 H K).mpr (h hs))
/-! ### 95: amortcostref6.Size -/
def ref6_Size_M : Nat → List Bool
  | 3 => rl false [1,1,1,2,16]
  | _ => []
noncomputable def ref6_Size_c : Code := Tryz.f95.body.getD .skip
noncomputable def ref6_Size_r : List ResultVar := Tryz.f95.results.toList
def ref6_Size_fr3 (t1 t3 t4 : AV) : List AV := ux 1 (t1 :: ux 1 (t3 :: t4 :: ux 16 []))
def ref6_Size_m3 : List Bool := ref6_Size_M 3
noncomputable def ref6_Size_c3 : Code := codeAt [1, 1, 0, 1, 0, 0] ref6_Size_c
def ref6_Size_Q3 (K : Kt) : AExit → List AV → Heap → Prop := contAt Tryz.prog ref6_Size_M [1, 1, 0, 1, 0] ref6_Size_c (retQ Tryz.prog ref6_Size_r K)
def ref6_Size_l3 (t1 t3 t4 : AV) (H : Heap) (K : Kt) : Prop := ALoop Tryz.prog ref6_Size_c3 (ref6_Size_Q3 K) (ref6_Size_fr3 t1 t3 t4) H
def ref6_Size_b3 (t1 t3 t4 : AV) (H : Heap) (K : Kt) (Kb3 : Lt) : Prop :=
  aFld 2 t1 fun t6 =>
  aLoad false 1 t6 H fun t7 =>
  aLen 1 t7 fun t8 =>
  aBin .lss false t4 t8 fun t9 =>
  aTest t9
  (aFld 2 t1 fun t13 =>
  aLoad false 1 t13 H fun t14 =>
  aIdxA 3 t14 t4 fun t16 =>
  aLoad true 3 t16 H fun t17 =>
  ACalls Tryz.prog n_ref6_Size [t17] H fun t18 H =>
  aBin .add false t3 t18 fun t19 =>
  aBin .add false t4 (.int .i64 1) fun t11 =>
  Kb3 (ref6_Size_fr3 t1 t19 t11) H)
  (K t3 H)
def ref6_Size (t0 : AV) (H : Heap) (K : Kt) : Prop :=
  aBox t0 H fun t1 H =>
  ref6_Size_l3 t1 (.int .i64 1) (.int .i64 0) H K
theorem ref6_Size_b3_eq (t1 t3 t4 : AV) (H : Heap) (K : Kt) (Kb3 : Lt) : awp Tryz.prog ref6_Size_M ref6_Size_c3 (roundQ ref6_Size_m3 Kb3 (ref6_Size_Q3 K)) (ref6_Size_fr3 t1 t3 t4) H = ref6_Size_b3 t1 t3 t4 H K Kb3 := by kernel_rfl
theorem ref6_Size_loop3 {t1 t3 t4 : AV} {H : Heap} {K : Kt} (Inv : Nat → AV → AV → Heap → Prop) (n : Nat) (h0 : HSc H → Inv n t3 t4 H)
    (round : ∀ n t3 t4 H', Inv n t3 t4 H' → HSc H' → H.length ≤ H'.length → (ref6_Size_fr3 t1 t3 t4).all (AV.sc H'.length) = true → ∀ Kb3 : Lt, (∀ F'' H'', (∃ n', n' < n ∧ Back H.length (fun F2 H2 => ∃ t3 t4, F2 = ref6_Size_fr3 t1 t3 t4 ∧ Inv n' t3 t4 H2) F'' H'') → Kb3 F'' H'') → ref6_Size_b3 t1 t3 t4 H' K Kb3) : ref6_Size_l3 t1 t3 t4 H K :=
  aloop (M := ref6_Size_M) ref6_Size_m3 (fun n F H => ∃ t3 t4, F = ref6_Size_fr3 t1 t3 t4 ∧ Inv n t3 t4 H) n (fun hs _ => ⟨t3, t4, rfl, h0 hs⟩) (fun n F H' ⟨t3, t4, hF, hI⟩ h1 h2 h3 => by subst hF; rw [ref6_Size_b3_eq]; exact round n t3 t4 H' hI h1 h2 h3 _ (fun _ _ h => h))
theorem ref6_Size_eq (t0 : AV) (H : Heap) (K : Kt) : awp Tryz.prog ref6_Size_M ref6_Size_c (retQ Tryz.prog ref6_Size_r K) (t0 :: List.replicate 20 .unk) H = ref6_Size t0 H K := by kernel_rfl
theorem ref6_Size_ok {t0 : AV} {H : Heap} {K : Kt} (h : HSc H → ref6_Size t0 H K) : ACalls Tryz.prog n_ref6_Size [t0] H K :=
  acalls_body (M := ref6_Size_M) Tryz.func95 (c := ref6_Size_c) (by kernel_rfl) (fun hs => (ref6_Size_eq t0 H K).mpr (h hs))
end Go.Proofs.YtfpmdpldabopjaaGreatDoor
namespace Go.Proofs.YtfpmdpldabopjaaGreatDoor
open Go Go.Abs
set_option linter.unusedVariables false
set_option maxRecDepth 100000
/-! ### 96: amortcostref6.valid -/
def ref6_valid_M : Nat → List Bool
  | 24 => rl false [0,1,1,1,1,1,2,2,103]
  | _ => []
noncomputable def ref6_valid_c : Code := Tryz.f96.body.getD .skip
noncomputable def ref6_valid_r : List ResultVar := Tryz.f96.results.toList
def ref6_valid_fr24 (t0 t2 t4 t7 t8 : AV) : List AV := t0 :: ux 1 (t2 :: ux 1 (t4 :: ux 2 (t7 :: t8 :: ux 103 [])))
def ref6_valid_m24 : List Bool := ref6_valid_M 24
noncomputable def ref6_valid_c24 : Code := codeAt [1, 1, 1, 0, 1, 0, 0] ref6_valid_c
def ref6_valid_Q24 (K : Kt) : AExit → List AV → Heap → Prop := contAt Tryz.prog ref6_valid_M [1, 1, 1, 0, 1, 0] ref6_valid_c (retQ Tryz.prog ref6_valid_r K)
def ref6_valid_l24 (t0 t2 t4 t7 t8 : AV) (H : Heap) (K : Kt) : Prop := ALoop Tryz.prog ref6_valid_c24 (ref6_valid_Q24 K) (ref6_valid_fr24 t0 t2 t4 t7 t8) H
def ref6_valid_b24 (t0 t2 t4 t7 t8 : AV) (H : Heap) (K : Kt) (Kb24 : Lt) : Prop :=
  aBin .lss false t8 t7 fun t100 =>
  aTest t100
  (aFld 2 t4 fun t104 =>
  aLoad false 1 t104 H fun t105 =>
  aIdxA 3 t105 t8 fun t107 =>
  aLoad true 3 t107 H fun t108 =>
  ACalls Tryz.prog n_ref6_valid [t0, t108, t2] H fun t110 H =>
  aUn .not t110 fun t111 =>
  aTest t111
  (K (.bool false) H)
  (aBin .add false t8 (.int .i64 1) fun t102 =>
  Kb24 (ref6_valid_fr24 t0 t2 t4 t7 t102) H))
  (K (.bool true) H)
def ref6_valid_j3 (t0 t2 t4 t7 : AV) (H : Heap) (K : Kt) : Prop :=
  ref6_valid_l24 t0 t2 t4 t7 (.int .i64 0) H K
def ref6_valid_j2 (t0 t2 t4 t7 : AV) (H : Heap) (K : Kt) : Prop :=
  ref6_valid_j3 t0 t2 t4 t7 H K
def ref6_valid_j4 (t0 t2 t4 t7 t13 t75 : AV) (H : Heap) (K : Kt) : Prop :=
  aTest t75
  (aFld 1 t4 fun t78 =>
  aLoad false 1 t78 H fun t79 =>
  aBin .neq false t79 (.int .i64 0) fun t80 =>
  aGuardJ t80 false H (fun K' => K' t7 H) fun t82 H =>
  aGuardJ t80 false H (fun K' => aBin .neq false t82 (.int .i64 1) (K' · H)) fun t83 H =>
  aPick t80 (.bool true) t83 fun t84 =>
  aTest t84
  (K (.bool false) H)
  (ref6_valid_j2 t0 t2 t4 t7 H K))
  (aBin .eql false t13 (.int .i64 9) fun t86 =>
  aTest t86
  (aFld 1 t4 fun t87 =>
  aLoad false 1 t87 H fun t88 =>
  aBin .neq false t88 (.int .i64 0) fun t89 =>
  aGuardJ t89 false H (fun K' => K' t7 H) fun t91 H =>
  aGuardJ t89 false H (fun K' => aBin .lss false t91 (.int .i64 1) (K' · H)) fun t92 H =>
  aPick t89 (.bool true) t92 fun t93 =>
  aGuardJ t93 false H (fun K' => K' t7 H) fun t95 H =>
  aGuardJ t93 false H (fun K' => aBin .gtr false t95 (.int .i64 7) (K' · H)) fun t96 H =>
  aPick t93 (.bool true) t96 fun t97 =>
  aTest t97
  (K (.bool false) H)
  (ref6_valid_j2 t0 t2 t4 t7 H K))
  (K (.bool false) H))
def ref6_valid_j1 (t0 t2 t4 t7 t13 t14 : AV) (H : Heap) (K : Kt) : Prop :=
  aTest t14
  (aFld 1 t4 fun t18 =>
  aLoad false 1 t18 H fun t19 =>
  aBin .eql false t19 (.int .i64 0) fun t20 =>
  aGuardJ t20 true H (fun K' => K' t7 H) fun t22 H =>
  aGuardJ t20 true H (fun K' => aBin .eql false t22 (.int .i64 0) (K' · H)) fun t23 H =>
  aPick t20 t23 (.bool false) fun t24 =>
  K t24 H)
  (aBin .eql false t13 (.int .i64 4) fun t26 =>
  aTest t26
  (aFld 1 t4 fun t27 =>
  aLoad false 1 t27 H fun t28 =>
  aBin .geq false t28 (.int .i64 0) fun t29 =>
  aGuardJ t29 true H (fun K' => aFld 1 t4 (K' · H)) fun t31 H =>
  aGuardJ t29 true H (fun K' => aLoad false 1 t31 H (K' · H)) fun t32 H =>
  aGuardJ t29 true H (fun K' => K' t2 H) fun t33 H =>
  aGuardJ t29 true H (fun K' => aBin .lss false t32 t33 (K' · H)) fun t34 H =>
  aPick t29 t34 (.bool false) fun t35 =>
  aGuardJ t35 true H (fun K' => K' t7 H) fun t37 H =>
  aGuardJ t35 true H (fun K' => aBin .eql false t37 (.int .i64 0) (K' · H)) fun t38 H =>
  aPick t35 t38 (.bool false) fun t39 =>
  K t39 H)
  (aBin .eql false t13 (.int .i64 5) fun t41 =>
  aTest t41
  (aFld 1 t4 fun t42 =>
  aLoad false 1 t42 H fun t43 =>
  aBin .lss false t43 (.int .i64 0) fun t44 =>
  aGuardJ t44 false H (fun K' => aFld 1 t4 (K' · H)) fun t46 H =>
  aGuardJ t44 false H (fun K' => aLoad false 1 t46 H (K' · H)) fun t47 H =>
  aGuardJ t44 false H (fun K' => K' t0 H) fun t48 H =>
  aGuardJ t44 false H (fun K' => aLen 1 t48 (K' · H)) fun t49 H =>
  aGuardJ t44 false H (fun K' => aBin .geq false t47 t49 (K' · H)) fun t50 H =>
  aPick t44 (.bool true) t50 fun t51 =>
  aGuardJ t51 false H (fun K' => K' t7 H) fun t53 H =>
  aGuardJ t51 false H (fun K' => K' t0 H) fun t54 H =>
  aGuardJ t51 false H (fun K' => aFld 1 t4 (K' · H)) fun t55 H =>
  aGuardJ t51 false H (fun K' => aLoad false 1 t55 H (K' · H)) fun t56 H =>
  aGuardJ t51 false H (fun K' => aIdxA 3 t54 t56 (K' · H)) fun t57 H =>
  aGuardJ t51 false H (fun K' => aFld 1 t57 (K' · H)) fun t58 H =>
  aGuardJ t51 false H (fun K' => aLoad false 1 t58 H (K' · H)) fun t59 H =>
  aGuardJ t51 false H (fun K' => aBin .neq false t53 t59 (K' · H)) fun t60 H =>
  aPick t51 (.bool true) t60 fun t61 =>
  aTest t61
  (K (.bool false) H)
  (ref6_valid_j2 t0 t2 t4 t7 H K))
  (aBin .eql false t13 (.int .i64 6) fun t63 =>
  aTest t63
  (aFld 1 t4 fun t64 =>
  aLoad false 1 t64 H fun t65 =>
  aBin .neq false t65 (.int .i64 0) fun t66 =>
  aGuardJ t66 false H (fun K' => K' t7 H) fun t68 H =>
  aGuardJ t66 false H (fun K' => aBin .lss false t68 (.int .i64 2) (K' · H)) fun t69 H =>
  aPick t66 (.bool true) t69 fun t70 =>
  aGuardJ t70 false H (fun K' => K' t7 H) fun t72 H =>
  aGuardJ t70 false H (fun K' => aBin .gtr false t72 (.int .i64 6) (K' · H)) fun t73 H =>
  aPick t70 (.bool true) t73 fun t74 =>
  aTest t74
  (K (.bool false) H)
  (ref6_valid_j2 t0 t2 t4 t7 H K))
  (aBin .eql false t13 (.int .i64 7) fun t76 =>
  aTest t76
  (ref6_valid_j4 t0 t2 t4 t7 t13 t76 H K)
  (aBin .eql false t13 (.int .i64 8) fun t77 =>
  ref6_valid_j4 t0 t2 t4 t7 t13 t77 H K)))))
def ref6_valid (t0 t1 t2 : AV) (H : Heap) (K : Kt) : Prop :=
  aBox t1 H fun t4 H =>
  aFld 2 t4 fun t9 =>
  aLoad false 1 t9 H fun t10 =>
  aLen 1 t10 fun t11 =>
  aFld 0 t4 fun t12 =>
  aLoad false 1 t12 H fun t13 =>
  aBin .eql false t13 (.int .i64 1) fun t15 =>
  aTest t15
  (ref6_valid_j1 t0 t2 t4 t11 t13 t15 H K)
  (aBin .eql false t13 (.int .i64 2) fun t16 =>
  aTest t16
  (ref6_valid_j1 t0 t2 t4 t11 t13 t16 H K)
  (aBin .eql false t13 (.int .i64 3) fun t17 =>
  ref6_valid_j1 t0 t2 t4 t11 t13 t17 H K))
theorem ref6_valid_b24_eq (t0 t2 t4 t7 t8 : AV) (H : Heap) (K : Kt) (Kb24 : Lt) : awp Tryz.prog ref6_valid_M ref6_valid_c24 (roundQ ref6_valid_m24 Kb24 (ref6_valid_Q24 K)) (ref6_valid_fr24 t0 t2 t4 t7 t8) H = ref6_valid_b24 t0 t2 t4 t7 t8 H K Kb24 := by kernel_rfl
theorem ref6_valid_loop24 {t0 t2 t4 t7 t8 : AV} {H : Heap} {K : Kt} (Inv : Nat → AV → Heap → Prop) (n : Nat) (h0 : HSc H → Inv n t8 H)
    (round : ∀ n t8 H', Inv n t8 H' → HSc H' → H.length ≤ H'.length → (ref6_valid_fr24 t0 t2 t4 t7 t8).all (AV.sc H'.length) = true → ∀ Kb24 : Lt, (∀ F'' H'', (∃ n', n' < n ∧ Back H.length (fun F2 H2 => ∃ t8, F2 = ref6_valid_fr24 t0 t2 t4 t7 t8 ∧ Inv n' t8 H2) F'' H'') → Kb24 F'' H'') → ref6_valid_b24 t0 t2 t4 t7 t8 H' K Kb24) : ref6_valid_l24 t0 t2 t4 t7 t8 H K :=
  aloop (M := ref6_valid_M) ref6_valid_m24 (fun n F H => ∃ t8, F = ref6_valid_fr24 t0 t2 t4 t7 t8 ∧ Inv n t8 H) n (fun hs _ => ⟨t8, rfl, h0 hs⟩) (fun n F H' ⟨t8, hF, hI⟩ h1 h2 h3 => by subst hF; rw [ref6_valid_b24_eq]; exact round n t8 H' hI h1 h2 h3 _ (fun _ _ h => h))
theorem ref6_valid_eq (t0 t1 t2 : AV) (H : Heap) (K : Kt) : awp Tryz.prog ref6_valid_M ref6_valid_c (retQ Tryz.prog ref6_valid_r K) (t0 :: t1 :: t2 :: List.replicate 109 .unk) H = ref6_valid t0 t1 t2 H K := by kernel_rfl
theorem ref6_valid_ok {t0 t1 t2 : AV} {H : Heap} {K : Kt} (h : HSc H → ref6_valid t0 t1 t2 H K) : ACalls Tryz.prog n_ref6_valid [t0, t1, t2] H K :=
  acalls_body (M := ref6_valid_M) Tryz.func96 (c := ref6_valid_c) (by kernel_rfl) (fun hs => (ref6_valid_eq t0 t1 t2 H K).mpr (h hs))
/-! ### 98: amortcostref6.Fields -/
def ref6_Fields_M : Nat → List Bool
  | 5 => rl false [4,1,3,1,54,3,16]
  | _ => []
noncomputable def ref6_Fields_c : Code := Tryz.f98.body.getD .skip
noncomputable def ref6_Fields_r : List ResultVar := Tryz.f98.results.toList
def ref6_Fields_fr5 (t4 t8 t63 t64 t65 : AV) : List AV := ux 4 (t4 :: ux 3 (t8 :: ux 54 (t63 :: t64 :: t65 :: ux 16 [])))
def ref6_Fields_m5 : List Bool := ref6_Fields_M 5
noncomputable def ref6_Fields_c5 : Code := codeAt [1, 1, 1, 0, 1, 0, 0] ref6_Fields_c
def ref6_Fields_Q5 (K : Kt) : AExit → List AV → Heap → Prop := contAt Tryz.prog ref6_Fields_M [1, 1, 1, 0, 1, 0] ref6_Fields_c (retQ Tryz.prog ref6_Fields_r K)
def ref6_Fields_l5 (t4 t8 t63 t64 t65 : AV) (H : Heap) (K : Kt) : Prop := ALoop Tryz.prog ref6_Fields_c5 (ref6_Fields_Q5 K) (ref6_Fields_fr5 t4 t8 t63 t64 t65) H
def ref6_Fields_b5 (t4 t8 t63 t64 t65 : AV) (H : Heap) (K : Kt) (Kb5 : Lt) : Prop :=
  aBin .lss false t65 t64 fun t66 =>
  aTest t66
  (aIdxA 3 t63 t65 fun t67 =>
  aLoad true 3 t67 H fun t68 =>
  aNew [(.int .i64 0), (.int .i64 0), .snil] H fun t10 H =>
  aStore 3 t10 t68 H fun H =>
  aLoad true 3 t10 H fun t69 =>
  aFld 2 t4 fun t70 =>
  aLoad false 1 t70 H fun t71 =>
  ACalls Tryz.prog n_ref6_Subst [t69, t71] H fun t72 H =>
  aNew [(.int .i64 0), (.int .i64 0), .snil] H fun t11 H =>
  aStore 3 t11 t72 H fun H =>
  aLoad true 3 t11 H fun t73 =>
  ACalls Tryz.prog n_ref6_Size [t73] H fun t74 H =>
  aBin .gtr false t74 (.int .i64 200) fun t75 =>
  aTest t75
  (aRet [.snil, (.bool false)] (K · H))
  (aLoad true 3 t11 H fun t77 =>
  aBuildS 3 [(.int .i64 0), (.int .i64 0), .snil] 1 [(0, t77)] fun t78 =>
  aAppend e_api_Type 3 40 t8 t78 H fun t79 H =>
  aBin .add false t65 (.int .i64 1) fun t80 =>
  Kb5 (ref6_Fields_fr5 t4 t79 t63 t64 t80) H))
  (aRet [t8, (.bool true)] (K · H))
def ref6_Fields (t0 t1 t2 : AV) (H : Heap) (K : Kt) : Prop :=
  aBox t1 H fun t4 H =>
  aPure H (fun K' => aFld 0 t4 (K' · H)) fun t12 =>
  aPure H (fun K' => aLoadC false 1 t12 H (K' · H)) fun t13 =>
  aPure H (fun K' => aBin .neq false t13 (.int .i64 5) (K' · H)) fun t14 =>
  aPure H (fun K' => K' t14 H) fun t15 =>
  aGuardJ t15 false H (fun K' => aPure H (fun K'' => aFld 1 t4 (K'' · H)) (K' · H)) fun t16 H =>
  aGuardJ t15 false H (fun K' => aPure H (fun K'' => aLoadC false 1 t16 H (K'' · H)) (K' · H)) fun t17 H =>
  aGuardJ t15 false H (fun K' => aPure H (fun K'' => aBin .lss false t17 (.int .i64 0) (K'' · H)) (K' · H)) fun t18 H =>
  aPure H (fun K' => aPick t15 (.bool true) t18 (K' · H)) fun t19 =>
  aPure H (fun K' => K' t19 H) fun t20 =>
  aGuardJ t20 false H (fun K' => aPure H (fun K'' => aFld 1 t4 (K'' · H)) (K' · H)) fun t21 H =>
  aGuardJ t20 false H (fun K' => aPure H (fun K'' => aLoadC false 1 t21 H (K'' · H)) (K' · H)) fun t22 H =>
  aGuardJ t20 false H (fun K' => aPure H (fun K'' => K'' t0 H) (K' · H)) fun t23 H =>
  aGuardJ t20 false H (fun K' => aPure H (fun K'' => aLen 1 t23 (K'' · H)) (K' · H)) fun t24 H =>
  aGuardJ t20 false H (fun K' => aPure H (fun K'' => aBin .geq false t22 t24 (K'' · H)) (K' · H)) fun t25 H =>
  aPure H (fun K' => aPick t20 (.bool true) t25 (K' · H)) fun t26 =>
  aPure H (fun K' => K' t26 H) fun t27 =>
  aGuardJ t27 false H (fun K' => aPure H (fun K'' => aFld 2 t4 (K'' · H)) (K' · H)) fun t28 H =>
  aGuardJ t27 false H (fun K' => aPure H (fun K'' => aLoadC false 1 t28 H (K'' · H)) (K' · H)) fun t29 H =>
  aGuardJ t27 false H (fun K' => aPure H (fun K'' => aLen 1 t29 (K'' · H)) (K' · H)) fun t30 H =>
  aGuardJ t27 false H (fun K' => aPure H (fun K'' => K'' t0 H) (K' · H)) fun t31 H =>
  aGuardJ t27 false H (fun K' => aPure H (fun K'' => aFld 1 t4 (K'' · H)) (K' · H)) fun t32 H =>
  aGuardJ t27 false H (fun K' => aPure H (fun K'' => aLoadC false 1 t32 H (K'' · H)) (K' · H)) fun t33 H =>
  aGuardJ t27 false H (fun K' => aPure H (fun K'' => aIdxA 3 t31 t33 (K'' · H)) (K' · H)) fun t34 H =>
  aGuardJ t27 false H (fun K' => aPure H (fun K'' => aFld 1 t34 (K'' · H)) (K' · H)) fun t35 H =>
  aGuardJ t27 false H (fun K' => aPure H (fun K'' => aLoadC false 1 t35 H (K'' · H)) (K' · H)) fun t36 H =>
  aGuardJ t27 false H (fun K' => aPure H (fun K'' => aBin .neq false t30 t36 (K'' · H)) (K' · H)) fun t37 H =>
  aPure H (fun K' => aPick t27 (.bool true) t37 (K' · H)) fun t38 =>
  aPure H (fun K' => K' t38 H) fun t39 =>
  aGuardJ t39 false H (fun K' => aPure H (fun K'' => K'' t2 H) (K' · H)) fun t40 H =>
  aGuardJ t39 false H (fun K' => aPure H (fun K'' => aBin .lss false t40 (.int .i64 0) (K'' · H)) (K' · H)) fun t41 H =>
  aPure H (fun K' => aPick t39 (.bool true) t41 (K' · H)) fun t42 =>
  aPure H (fun K' => K' t42 H) fun t43 =>
  aGuardJ t43 false H (fun K' => aPure H (fun K'' => K'' t2 H) (K' · H)) fun t44 H =>
  aGuardJ t43 false H (fun K' => aPure H (fun K'' => K'' t0 H) (K' · H)) fun t45 H =>
  aGuardJ t43 false H (fun K' => aPure H (fun K'' => aFld 1 t4 (K'' · H)) (K' · H)) fun t46 H =>
  aGuardJ t43 false H (fun K' => aPure H (fun K'' => aLoadC false 1 t46 H (K'' · H)) (K' · H)) fun t47 H =>
  aGuardJ t43 false H (fun K' => aPure H (fun K'' => aIdxA 3 t45 t47 (K'' · H)) (K' · H)) fun t48 H =>
  aGuardJ t43 false H (fun K' => aPure H (fun K'' => aFld 2 t48 (K'' · H)) (K' · H)) fun t49 H =>
  aGuardJ t43 false H (fun K' => aPure H (fun K'' => aLoadC false 1 t49 H (K'' · H)) (K' · H)) fun t50 H =>
  aGuardJ t43 false H (fun K' => aPure H (fun K'' => aLen 1 t50 (K'' · H)) (K' · H)) fun t51 H =>
  aGuardJ t43 false H (fun K' => aPure H (fun K'' => aBin .geq false t44 t51 (K'' · H)) (K' · H)) fun t52 H =>
  aPure H (fun K' => aPick t43 (.bool true) t52 (K' · H)) fun t53 =>
  aTest t53
  (aRet [.snil, (.bool false)] (K · H))
  (aFld 1 t4 fun t55 =>
  aLoad false 1 t55 H fun t56 =>
  aIdxA 3 t0 t56 fun t57 =>
  aFld 2 t57 fun t58 =>
  aLoad false 1 t58 H fun t59 =>
  aIdxA 2 t59 t2 fun t61 =>
  aFld 1 t61 fun t62 =>
  aLoad false 1 t62 H fun t63 =>
  aLen 1 t63 fun t64 =>
  ref6_Fields_l5 t4 .snil t63 t64 (.int .i64 0) H K)
theorem ref6_Fields_b5_eq (t4 t8 t63 t64 t65 : AV) (H : Heap) (K : Kt) (Kb5 : Lt) : awp Tryz.prog ref6_Fields_M ref6_Fields_c5 (roundQ ref6_Fields_m5 Kb5 (ref6_Fields_Q5 K)) (ref6_Fields_fr5 t4 t8 t63 t64 t65) H = ref6_Fields_b5 t4 t8 t63 t64 t65 H K Kb5 := by kernel_rfl
theorem ref6_Fields_loop5 {t4 t8 t63 t64 t65 : AV} {H : Heap} {K : Kt} (Inv : Nat → AV → AV → Heap → Prop) (n : Nat) (h0 : HSc H → Inv n t8 t65 H)
    (round : ∀ n t8 t65 H', Inv n t8 t65 H' → HSc H' → H.length ≤ H'.length → (ref6_Fields_fr5 t4 t8 t63 t64 t65).all (AV.sc H'.length) = true → ∀ Kb5 : Lt, (∀ F'' H'', (∃ n', n' < n ∧ Back H.length (fun F2 H2 => ∃ t8 t65, F2 = ref6_Fields_fr5 t4 t8 t63 t64 t65 ∧ Inv n' t8 t65 H2) F'' H'') → Kb5 F'' H'') → ref6_Fields_b5 t4 t8 t63 t64 t65 H' K Kb5) : ref6_Fields_l5 t4 t8 t63 t64 t65 H K :=
  aloop (M := ref6_Fields_M) ref6_Fields_m5 (fun n F H => ∃ t8 t65, F = ref6_Fields_fr5 t4 t8 t63 t64 t65 ∧ Inv n t8 t65 H) n (fun hs _ => ⟨t8, t65, rfl, h0 hs⟩) (fun n F H' ⟨t8, t65, hF, hI⟩ h1 h2 h3 => by subst hF; rw [ref6_Fields_b5_eq]; exact round n t8 t65 H' hI h1 h2 h3 _ (fun _ _ h => h))
theorem ref6_Fields_eq (t0 t1 t2 : AV) (H : Heap) (K : Kt) : awp Tryz.prog ref6_Fields_M ref6_Fields_c (retQ Tryz.prog ref6_Fields_r K) (t0 :: t1 :: t2 :: List.replicate 79 .unk) H = ref6_Fields t0 t1 t2 H K := by kernel_rfl
theorem ref6_Fields_ok {t0 t1 t2 : AV} {H : Heap} {K : Kt} (h : HSc H → ref6_Fields t0 t1 t2 H K) : ACalls Tryz.prog n_ref6_Fields [t0, t1, t2] H K :=
  acalls_body (M := ref6_Fields_M) Tryz.func98 (c := ref6_Fields_c) (by kernel_rfl) (fun hs => (ref6_Fields_eq t0 t1 t2 H K).mpr (h hs))
/-! ### 163: amortcostref6.Subst -/
def ref6_Subst_M : Nat → List Bool
  | 5 => rl false [1,2,1,3,46]
  | _ => []
noncomputable def ref6_Subst_c : Code := Tryz.f163.body.getD .skip
noncomputable def ref6_Subst_r : List ResultVar := Tryz.f163.results.toList
def ref6_Subst_fr5 (t1 t2 t4 t5 t6 : AV) : List AV := ux 1 (t1 :: t2 :: ux 1 (t4 :: t5 :: t6 :: ux 46 []))
def ref6_Subst_m5 : List Bool := ref6_Subst_M 5
noncomputable def ref6_Subst_c5 : Code := codeAt [1, 1, 1, 0, 1, 0, 0] ref6_Subst_c
def ref6_Subst_Q5 (K : Kt) : AExit → List AV → Heap → Prop := contAt Tryz.prog ref6_Subst_M [1, 1, 1, 0, 1, 0] ref6_Subst_c (retQ Tryz.prog ref6_Subst_r K)
def ref6_Subst_l5 (t1 t2 t4 t5 t6 : AV) (H : Heap) (K : Kt) : Prop := ALoop Tryz.prog ref6_Subst_c5 (ref6_Subst_Q5 K) (ref6_Subst_fr5 t1 t2 t4 t5 t6) H
def ref6_Subst_b5 (t1 t2 t4 t5 t6 : AV) (H : Heap) (K : Kt) (Kb5 : Lt) : Prop :=
  aFld 2 t2 fun t34 =>
  aLoad false 1 t34 H fun t35 =>
  aLen 1 t35 fun t36 =>
  aBin .lss false t6 t36 fun t37 =>
  aTest t37
  (aPure H (fun K' => aFld 2 t5 (K' · H)) fun t40 =>
  aPure H (fun K' => aLoadC false 1 t40 H (K' · H)) fun t41 =>
  aPure H (fun K' => aFld 2 t2 (K' · H)) fun t42 =>
  aPure H (fun K' => aLoadC false 1 t42 H (K' · H)) fun t43 =>
  aPure H (fun K' => K' t6 H) fun t44 =>
  aPure H (fun K' => aIdxA 3 t43 t44 (K' · H)) fun t45 =>
  aPure H (fun K' => aLoadC true 3 t45 H (K' · H)) fun t46 =>
  aPure H (fun K' => K' t1 H) fun t47 =>
  aPureX H (fun H K' => ACalls Tryz.prog n_ref6_Subst [t46, t47] H K') fun t48 =>
  aPure H (fun K' => aBuildS 3 [(.int .i64 0), (.int .i64 0), .snil] 1 [(0, t48)] (K' · H)) fun t49 =>
  aAppend e_api_Type 3 40 t41 t49 H fun t50 H =>
  aPure H (fun K' => aFld 2 t5 (K' · H)) fun t51 =>
  aStore 1 t51 t50 H fun H =>
  aBin .add false t6 (.int .i64 1) fun t39 =>
  Kb5 (ref6_Subst_fr5 t1 t2 t4 t5 t39) H)
  (aLoad true 3 t5 H fun t52 =>
  aStore 3 t4 t52 H fun H =>
  aLoad true 3 t4 H fun r0 =>
  K r0 H)
def ref6_Subst (t0 t1 : AV) (H : Heap) (K : Kt) : Prop :=
  aBox t0 H fun t2 H =>
  aNew [(.int .i64 0), (.int .i64 0), .snil] H fun t4 H =>
  aFld 0 t2 fun t7 =>
  aLoad false 1 t7 H fun t8 =>
  aBin .eql false t8 (.int .i64 4) fun t9 =>
  aGuardJ t9 true H (fun K' => aFld 1 t2 (K' · H)) fun t11 H =>
  aGuardJ t9 true H (fun K' => aLoad false 1 t11 H (K' · H)) fun t12 H =>
  aGuardJ t9 true H (fun K' => aBin .geq false t12 (.int .i64 0) (K' · H)) fun t13 H =>
  aPick t9 t13 (.bool false) fun t14 =>
  aGuardJ t14 true H (fun K' => aFld 1 t2 (K' · H)) fun t16 H =>
  aGuardJ t14 true H (fun K' => aLoad false 1 t16 H (K' · H)) fun t17 H =>
  aGuardJ t14 true H (fun K' => K' t1 H) fun t18 H =>
  aGuardJ t14 true H (fun K' => aLen 1 t18 (K' · H)) fun t19 H =>
  aGuardJ t14 true H (fun K' => aBin .lss false t17 t19 (K' · H)) fun t20 H =>
  aPick t14 t20 (.bool false) fun t21 =>
  aTest t21
  (aFld 1 t2 fun t23 =>
  aLoad false 1 t23 H fun t24 =>
  aIdxA 3 t1 t24 fun t25 =>
  aLoad true 3 t25 H fun t26 =>
  ACalls Tryz.prog n_ref6_copied [t26] H fun t27 H =>
  aStore 3 t4 t27 H fun H =>
  aLoad true 3 t4 H fun r0 =>
  K r0 H)
  (aFld 0 t2 fun t28 =>
  aLoad false 1 t28 H fun t29 =>
  aFld 1 t2 fun t30 =>
  aLoad false 1 t30 H fun t31 =>
  aBuild [(.int .i64 0), (.int .i64 0), .snil] [(0, 1), (1, 1), (2, 1)] [(0, t29), (1, t31)] fun t32 =>
  aNew [(.int .i64 0), (.int .i64 0), .snil] H fun t5 H =>
  aStore 3 t5 t32 H fun H =>
  ref6_Subst_l5 t1 t2 t4 t5 (.int .i64 0) H K)
theorem ref6_Subst_b5_eq (t1 t2 t4 t5 t6 : AV) (H : Heap) (K : Kt) (Kb5 : Lt) : awp Tryz.prog ref6_Subst_M ref6_Subst_c5 (roundQ ref6_Subst_m5 Kb5 (ref6_Subst_Q5 K)) (ref6_Subst_fr5 t1 t2 t4 t5 t6) H = ref6_Subst_b5 t1 t2 t4 t5 t6 H K Kb5 := by kernel_rfl
theorem ref6_Subst_loop5 {t1 t2 t4 t5 t6 : AV} {H : Heap} {K : Kt} (Inv : Nat → AV → Heap → Prop) (n : Nat) (h0 : HSc H → Inv n t6 H)
    (round : ∀ n t6 H', Inv n t6 H' → HSc H' → H.length ≤ H'.length → (ref6_Subst_fr5 t1 t2 t4 t5 t6).all (AV.sc H'.length) = true → ∀ Kb5 : Lt, (∀ F'' H'', (∃ n', n' < n ∧ Back H.length (fun F2 H2 => ∃ t6, F2 = ref6_Subst_fr5 t1 t2 t4 t5 t6 ∧ Inv n' t6 H2) F'' H'') → Kb5 F'' H'') → ref6_Subst_b5 t1 t2 t4 t5 t6 H' K Kb5) : ref6_Subst_l5 t1 t2 t4 t5 t6 H K :=
  aloop (M := ref6_Subst_M) ref6_Subst_m5 (fun n F H => ∃ t6, F = ref6_Subst_fr5 t1 t2 t4 t5 t6 ∧ Inv n t6 H) n (fun hs _ => ⟨t6, rfl, h0 hs⟩) (fun n F H' ⟨t6, hF, hI⟩ h1 h2 h3 => by subst hF; rw [ref6_Subst_b5_eq]; exact round n t6 H' hI h1 h2 h3 _ (fun _ _ h => h))
theorem ref6_Subst_eq (t0 t1 : AV) (H : Heap) (K : Kt) : awp Tryz.prog ref6_Subst_M ref6_Subst_c (retQ Tryz.prog ref6_Subst_r K) (t0 :: t1 :: List.replicate 51 .unk) H = ref6_Subst t0 t1 H K := by kernel_rfl
theorem ref6_Subst_ok {t0 t1 : AV} {H : Heap} {K : Kt} (h : HSc H → ref6_Subst t0 t1 H K) : ACalls Tryz.prog n_ref6_Subst [t0, t1] H K :=
  acalls_body (M := ref6_Subst_M) Tryz.func163 (c := ref6_Subst_c) (by kernel_rfl) (fun hs => (ref6_Subst_eq t0 t1 H K).mpr (h hs))
/-! ### 205: amortcostref6.copied -/
def ref6_copied_M : Nat → List Bool
  | 3 => rl false [1,4,24]
  | _ => []
noncomputable def ref6_copied_c : Code := Tryz.f205.body.getD .skip
noncomputable def ref6_copied_r : List ResultVar := Tryz.f205.results.toList
def ref6_copied_fr3 (t1 t2 t3 t4 : AV) : List AV := ux 1 (t1 :: t2 :: t3 :: t4 :: ux 24 [])
def ref6_copied_m3 : List Bool := ref6_copied_M 3
noncomputable def ref6_copied_c3 : Code := codeAt [1, 1, 0, 1, 0, 0] ref6_copied_c
def ref6_copied_Q3 (K : Kt) : AExit → List AV → Heap → Prop := contAt Tryz.prog ref6_copied_M [1, 1, 0, 1, 0] ref6_copied_c (retQ Tryz.prog ref6_copied_r K)
def ref6_copied_l3 (t1 t2 t3 t4 : AV) (H : Heap) (K : Kt) : Prop := ALoop Tryz.prog ref6_copied_c3 (ref6_copied_Q3 K) (ref6_copied_fr3 t1 t2 t3 t4) H
def ref6_copied_b3 (t1 t2 t3 t4 : AV) (H : Heap) (K : Kt) (Kb3 : Lt) : Prop :=
  aFld 2 t1 fun t11 =>
  aLoad false 1 t11 H fun t12 =>
  aLen 1 t12 fun t13 =>
  aBin .lss false t4 t13 fun t14 =>
  aTest t14
  (aPure H (fun K' => aFld 2 t3 (K' · H)) fun t17 =>
  aPure H (fun K' => aLoadC false 1 t17 H (K' · H)) fun t18 =>
  aPure H (fun K' => aFld 2 t1 (K' · H)) fun t19 =>
  aPure H (fun K' => aLoadC false 1 t19 H (K' · H)) fun t20 =>
  aPure H (fun K' => K' t4 H) fun t21 =>
  aPure H (fun K' => aIdxA 3 t20 t21 (K' · H)) fun t22 =>
  aPure H (fun K' => aLoadC true 3 t22 H (K' · H)) fun t23 =>
  aPureX H (fun H K' => ACalls Tryz.prog n_ref6_copied [t23] H K') fun t24 =>
  aPure H (fun K' => aBuildS 3 [(.int .i64 0), (.int .i64 0), .snil] 1 [(0, t24)] (K' · H)) fun t25 =>
  aAppend e_api_Type 3 40 t18 t25 H fun t26 H =>
  aPure H (fun K' => aFld 2 t3 (K' · H)) fun t27 =>
  aStore 1 t27 t26 H fun H =>
  aBin .add false t4 (.int .i64 1) fun t16 =>
  Kb3 (ref6_copied_fr3 t1 t2 t3 t16) H)
  (aLoad true 3 t3 H fun t28 =>
  aStore 3 t2 t28 H fun H =>
  aLoad true 3 t2 H fun r0 =>
  K r0 H)
def ref6_copied (t0 : AV) (H : Heap) (K : Kt) : Prop :=
  aBox t0 H fun t1 H =>
  aNew [(.int .i64 0), (.int .i64 0), .snil] H fun t2 H =>
  aFld 0 t1 fun t5 =>
  aLoad false 1 t5 H fun t6 =>
  aFld 1 t1 fun t7 =>
  aLoad false 1 t7 H fun t8 =>
  aBuild [(.int .i64 0), (.int .i64 0), .snil] [(0, 1), (1, 1), (2, 1)] [(0, t6), (1, t8)] fun t9 =>
  aNew [(.int .i64 0), (.int .i64 0), .snil] H fun t3 H =>
  aStore 3 t3 t9 H fun H =>
  ref6_copied_l3 t1 t2 t3 (.int .i64 0) H K
theorem ref6_copied_b3_eq (t1 t2 t3 t4 : AV) (H : Heap) (K : Kt) (Kb3 : Lt) : awp Tryz.prog ref6_copied_M ref6_copied_c3 (roundQ ref6_copied_m3 Kb3 (ref6_copied_Q3 K)) (ref6_copied_fr3 t1 t2 t3 t4) H = ref6_copied_b3 t1 t2 t3 t4 H K Kb3 := by kernel_rfl
theorem ref6_copied_loop3 {t1 t2 t3 t4 : AV} {H : Heap} {K : Kt} (Inv : Nat → AV → Heap → Prop) (n : Nat) (h0 : HSc H → Inv n t4 H)
    (round : ∀ n t4 H', Inv n t4 H' → HSc H' → H.length ≤ H'.length → (ref6_copied_fr3 t1 t2 t3 t4).all (AV.sc H'.length) = true → ∀ Kb3 : Lt, (∀ F'' H'', (∃ n', n' < n ∧ Back H.length (fun F2 H2 => ∃ t4, F2 = ref6_copied_fr3 t1 t2 t3 t4 ∧ Inv n' t4 H2) F'' H'') → Kb3 F'' H'') → ref6_copied_b3 t1 t2 t3 t4 H' K Kb3) : ref6_copied_l3 t1 t2 t3 t4 H K :=
  aloop (M := ref6_copied_M) ref6_copied_m3 (fun n F H => ∃ t4, F = ref6_copied_fr3 t1 t2 t3 t4 ∧ Inv n t4 H) n (fun hs _ => ⟨t4, rfl, h0 hs⟩) (fun n F H' ⟨t4, hF, hI⟩ h1 h2 h3 => by subst hF; rw [ref6_copied_b3_eq]; exact round n t4 H' hI h1 h2 h3 _ (fun _ _ h => h))
theorem ref6_copied_eq (t0 : AV) (H : Heap) (K : Kt) : awp Tryz.prog ref6_copied_M ref6_copied_c (retQ Tryz.prog ref6_copied_r K) (t0 :: List.replicate 28 .unk) H = ref6_copied t0 H K := by kernel_rfl
theorem ref6_copied_ok {t0 : AV} {H : Heap} {K : Kt} (h : HSc H → ref6_copied t0 H K) : ACalls Tryz.prog n_ref6_copied [t0] H K :=
  acalls_body (M := ref6_copied_M) Tryz.func205 (c := ref6_copied_c) (by kernel_rfl) (fun hs => (ref6_copied_eq t0 H K).mpr (h hs))
end Go.Proofs.YtfpmdpldabopjaaGreatDoor
namespace Go.Proofs.YtfpmdpldabopjaaGreatDoor
open Go Go.Abs
set_option linter.unusedVariables false
set_option maxRecDepth 100000
/-! ### 67: scope.Recursive -/
def scope_Recursive_M : Nat → List Bool
  | 6 => rl false [0,2,6,1,38,3,56]
  | 10 => rl false [0,2,6,2,37,3,28,3,25]
  | _ => []
noncomputable def scope_Recursive_c : Code := Tryz.f67.body.getD .skip
noncomputable def scope_Recursive_r : List ResultVar := Tryz.f67.results.toList
def scope_Recursive_fr6 (t0 t1 t8 t47 t48 t49 : AV) : List AV := t0 :: t1 :: ux 6 (t8 :: ux 38 (t47 :: t48 :: t49 :: ux 56 []))
def scope_Recursive_m6 : List Bool := scope_Recursive_M 6
noncomputable def scope_Recursive_c6 : Code := codeAt [1, 1, 1, 1, 0, 1, 0, 0] scope_Recursive_c
def scope_Recursive_Q6 (K : Kt) : AExit → List AV → Heap → Prop := contAt Tryz.prog scope_Recursive_M [1, 1, 1, 1, 0, 1, 0] scope_Recursive_c (retQ Tryz.prog scope_Recursive_r K)
def scope_Recursive_l6 (t0 t1 t8 t47 t48 t49 : AV) (H : Heap) (K : Kt) : Prop := ALoop Tryz.prog scope_Recursive_c6 (scope_Recursive_Q6 K) (scope_Recursive_fr6 t0 t1 t8 t47 t48 t49) H
def scope_Recursive_fr10 (t0 t1 t8 t9 t47 t48 t49 t78 t79 t80 : AV) : List AV := t0 :: t1 :: ux 6 (t8 :: t9 :: ux 37 (t47 :: t48 :: t49 :: ux 28 (t78 :: t79 :: t80 :: ux 25 [])))
def scope_Recursive_m10 : List Bool := scope_Recursive_M 10
noncomputable def scope_Recursive_c10 : Code := codeAt [1, 1, 0, 0, 1, 1, 1, 0, 0] scope_Recursive_c6
def scope_Recursive_Q10 (K : Kt) (Kb6 : Lt) : AExit → List AV → Heap → Prop := contAt Tryz.prog scope_Recursive_M [1, 1, 0, 0, 1, 1, 1, 0] scope_Recursive_c6 (roundQ scope_Recursive_m6 Kb6 (scope_Recursive_Q6 K))
def scope_Recursive_l10 (t0 t1 t8 t9 t47 t48 t49 t78 t79 t80 : AV) (H : Heap) (K : Kt) (Kb6 : Lt) : Prop := ALoop Tryz.prog scope_Recursive_c10 (scope_Recursive_Q10 K Kb6) (scope_Recursive_fr10 t0 t1 t8 t9 t47 t48 t49 t78 t79 t80) H
def scope_Recursive_j2 (t0 t1 t8 t9 t47 t48 t49 t78 t79 t80 : AV) (H : Heap) (K : Kt) (Kb6 : Lt) (Kb10 : Lt) : Prop :=
  aBin .add false t80 (.int .i64 1) fun t103 =>
  Kb10 (scope_Recursive_fr10 t0 t1 t8 t9 t47 t48 t49 t78 t79 t103) H
def scope_Recursive_j1 (t0 t1 t8 t9 t47 t48 t49 t78 t79 t80 : AV) (H : Heap) (K : Kt) (Kb6 : Lt) (Kb10 : Lt) : Prop :=
  scope_Recursive_j2 t0 t1 t8 t9 t47 t48 t49 t78 t79 t80 H K Kb6 Kb10
def scope_Recursive_b10 (t0 t1 t8 t9 t47 t48 t49 t78 t79 t80 : AV) (H : Heap) (K : Kt) (Kb6 : Lt) (Kb10 : Lt) : Prop :=
  aBin .lss false t80 t79 fun t81 =>
  aTest t81
  (aIdxA 3 t78 t80 fun t83 =>
  aLoad true 3 t83 H fun t84 =>
  aNew [(.int .i64 0), (.int .i64 0), .snil] H fun t12 H =>
  aStore 3 t12 t84 H fun H =>
  aFld 0 t12 fun t85 =>
  aLoad false 1 t85 H fun t86 =>
  aBin .neq false t86 (.int .i64 4) fun t87 =>
  aGuardJ t87 false H (fun K' => aFld 1 t12 (K' · H)) fun t89 H =>
  aGuardJ t87 false H (fun K' => aLoad false 1 t89 H (K' · H)) fun t90 H =>
  aGuardJ t87 false H (fun K' => K' t80 H) fun t91 H =>
  aGuardJ t87 false H (fun K' => aBin .neq false t90 t91 (K' · H)) fun t92 H =>
  aPick t87 (.bool true) t92 fun t93 =>
  aGuardJ t93 false H (fun K' => aFld 2 t12 (K' · H)) fun t95 H =>
  aGuardJ t93 false H (fun K' => aLoad false 1 t95 H (K' · H)) fun t96 H =>
  aGuardJ t93 false H (fun K' => aLen 1 t96 (K' · H)) fun t97 H =>
  aGuardJ t93 false H (fun K' => aBin .gtr false t97 (.int .i64 0) (K' · H)) fun t98 H =>
  aPick t93 (.bool true) t98 fun t99 =>
  aTest t99
  (aIdxA 1 t8 t9 fun t102 =>
  aStore 1 t102 (.bool false) H fun H =>
  scope_Recursive_j1 t0 t1 t8 t9 t47 t48 t49 t78 t79 t80 H K Kb6 Kb10)
  (scope_Recursive_j1 t0 t1 t8 t9 t47 t48 t49 t78 t79 t80 H K Kb6 Kb10))
  (aBin .add false t49 (.int .i64 1) fun t104 =>
  Kb6 (scope_Recursive_fr6 t0 t1 t8 t47 t48 t104) H)
def scope_Recursive_b6 (t0 t1 t8 t47 t48 t49 : AV) (H : Heap) (K : Kt) (Kb6 : Lt) : Prop :=
  aBin .lss false t49 t48 fun t50 =>
  aTest t50
  (aIdxA 3 t47 t49 fun t52 =>
  aLoad true 3 t52 H fun t53 =>
  aNew [(.int .i64 0), (.int .i64 0), .snil] H fun t10 H =>
  aStore 3 t10 t53 H fun H =>
  aPure H (fun K' => K' t8 H) fun t54 =>
  aPure H (fun K' => K' t49 H) fun t55 =>
  aPure H (fun K' => aFld 0 t10 (K' · H)) fun t56 =>
  aPure H (fun K' => aLoadC false 1 t56 H (K' · H)) fun t57 =>
  aPure H (fun K' => aBin .eql false t57 (.int .i64 5) (K' · H)) fun t58 =>
  aPure H (fun K' => K' t58 H) fun t59 =>
  aGuardJ t59 true H (fun K' => aPure H (fun K'' => aFld 1 t10 (K'' · H)) (K' · H)) fun t60 H =>
  aGuardJ t59 true H (fun K' => aPure H (fun K'' => aLoadC false 1 t60 H (K'' · H)) (K' · H)) fun t61 H =>
  aGuardJ t59 true H (fun K' => aPure H (fun K'' => K'' t1 H) (K' · H)) fun t62 H =>
  aGuardJ t59 true H (fun K' => aPure H (fun K'' => aBin .eql false t61 t62 (K'' · H)) (K' · H)) fun t63 H =>
  aPure H (fun K' => aPick t59 t63 (.bool false) (K' · H)) fun t64 =>
  aPure H (fun K' => K' t64 H) fun t65 =>
  aGuardJ t65 true H (fun K' => aPure H (fun K'' => aFld 2 t10 (K'' · H)) (K' · H)) fun t66 H =>
  aGuardJ t65 true H (fun K' => aPure H (fun K'' => aLoadC false 1 t66 H (K'' · H)) (K' · H)) fun t67 H =>
  aGuardJ t65 true H (fun K' => aPure H (fun K'' => aLen 1 t67 (K'' · H)) (K' · H)) fun t68 H =>
  aGuardJ t65 true H (fun K' => aPure H (fun K'' => K'' t0 H) (K' · H)) fun t69 H =>
  aGuardJ t65 true H (fun K' => aPure H (fun K'' => K'' t1 H) (K' · H)) fun t70 H =>
  aGuardJ t65 true H (fun K' => aPure H (fun K'' => aIdxA 3 t69 t70 (K'' · H)) (K' · H)) fun t71 H =>
  aGuardJ t65 true H (fun K' => aPure H (fun K'' => aFld 1 t71 (K'' · H)) (K' · H)) fun t72 H =>
  aGuardJ t65 true H (fun K' => aPure H (fun K'' => aLoadC false 1 t72 H (K'' · H)) (K' · H)) fun t73 H =>
  aGuardJ t65 true H (fun K' => aPure H (fun K'' => aBin .eql false t68 t73 (K'' · H)) (K' · H)) fun t74 H =>
  aPure H (fun K' => aPick t65 t74 (.bool false) (K' · H)) fun t75 =>
  aPure H (fun K' => aIdxA 1 t54 t55 (K' · H)) fun t76 =>
  aStore 1 t76 t75 H fun H =>
  aFld 2 t10 fun t77 =>
  aLoad false 1 t77 H fun t78 =>
  aLen 1 t78 fun t79 =>
  scope_Recursive_l10 t0 t1 t8 t49 t47 t48 t49 t78 t79 (.int .i64 0) H K Kb6)
  (K t8 H)
def scope_Recursive (t0 t1 t2 : AV) (H : Heap) (K : Kt) : Prop :=
  aBin .lss false t1 (.int .i64 0) fun t14 =>
  aGuardJ t14 false H (fun K' => K' t1 H) fun t16 H =>
  aGuardJ t14 false H (fun K' => K' t0 H) fun t17 H =>
  aGuardJ t14 false H (fun K' => aLen 1 t17 (K' · H)) fun t18 H =>
  aGuardJ t14 false H (fun K' => aBin .geq false t16 t18 (K' · H)) fun t19 H =>
  aPick t14 (.bool true) t19 fun t20 =>
  aGuardJ t20 false H (fun K' => K' t2 H) fun t22 H =>
  aGuardJ t20 false H (fun K' => aBin .lss false t22 (.int .i64 0) (K' · H)) fun t23 H =>
  aPick t20 (.bool true) t23 fun t24 =>
  aGuardJ t24 false H (fun K' => K' t2 H) fun t26 H =>
  aGuardJ t24 false H (fun K' => K' t0 H) fun t27 H =>
  aGuardJ t24 false H (fun K' => K' t1 H) fun t28 H =>
  aGuardJ t24 false H (fun K' => aIdxA 3 t27 t28 (K' · H)) fun t29 H =>
  aGuardJ t24 false H (fun K' => aFld 2 t29 (K' · H)) fun t30 H =>
  aGuardJ t24 false H (fun K' => aLoad false 1 t30 H (K' · H)) fun t31 H =>
  aGuardJ t24 false H (fun K' => aLen 1 t31 (K' · H)) fun t32 H =>
  aGuardJ t24 false H (fun K' => aBin .geq false t26 t32 (K' · H)) fun t33 H =>
  aPick t24 (.bool true) t33 fun t34 =>
  aTest t34
  (K .snil H)
  (aIdxA 3 t0 t1 fun t37 =>
  aFld 2 t37 fun t38 =>
  aLoad false 1 t38 H fun t39 =>
  aIdxA 2 t39 t2 fun t41 =>
  aFld 1 t41 fun t42 =>
  aLoad false 1 t42 H fun t43 =>
  aLen 1 t43 fun t45 =>
  aMake 1 [(.bool false)] t45 t45 H fun t46 H =>
  aLen 1 t43 fun t48 =>
  scope_Recursive_l6 t0 t1 t46 t43 t48 (.int .i64 0) H K)
theorem scope_Recursive_b10_eq (t0 t1 t8 t9 t47 t48 t49 t78 t79 t80 : AV) (H : Heap) (K : Kt) (Kb6 : Lt) (Kb10 : Lt) : awp Tryz.prog scope_Recursive_M scope_Recursive_c10 (roundQ scope_Recursive_m10 Kb10 (scope_Recursive_Q10 K Kb6)) (scope_Recursive_fr10 t0 t1 t8 t9 t47 t48 t49 t78 t79 t80) H = scope_Recursive_b10 t0 t1 t8 t9 t47 t48 t49 t78 t79 t80 H K Kb6 Kb10 := by kernel_rfl
theorem scope_Recursive_loop10 {t0 t1 t8 t9 t47 t48 t49 t78 t79 t80 : AV} {H : Heap} {K : Kt} {Kb6 : Lt} (Inv : Nat → AV → Heap → Prop) (n : Nat) (h0 : HSc H → Inv n t80 H)
    (round : ∀ n t80 H', Inv n t80 H' → HSc H' → H.length ≤ H'.length → (scope_Recursive_fr10 t0 t1 t8 t9 t47 t48 t49 t78 t79 t80).all (AV.sc H'.length) = true → ∀ Kb10 : Lt, (∀ F'' H'', (∃ n', n' < n ∧ Back H.length (fun F2 H2 => ∃ t80, F2 = scope_Recursive_fr10 t0 t1 t8 t9 t47 t48 t49 t78 t79 t80 ∧ Inv n' t80 H2) F'' H'') → Kb10 F'' H'') → scope_Recursive_b10 t0 t1 t8 t9 t47 t48 t49 t78 t79 t80 H' K Kb6 Kb10) : scope_Recursive_l10 t0 t1 t8 t9 t47 t48 t49 t78 t79 t80 H K Kb6 :=
  aloop (M := scope_Recursive_M) scope_Recursive_m10 (fun n F H => ∃ t80, F = scope_Recursive_fr10 t0 t1 t8 t9 t47 t48 t49 t78 t79 t80 ∧ Inv n t80 H) n (fun hs _ => ⟨t80, rfl, h0 hs⟩) (fun n F H' ⟨t80, hF, hI⟩ h1 h2 h3 => by subst hF; rw [scope_Recursive_b10_eq]; exact round n t80 H' hI h1 h2 h3 _ (fun _ _ h => h))
theorem scope_Recursive_b6_eq (t0 t1 t8 t47 t48 t49 : AV) (H : Heap) (K : Kt) (Kb6 : Lt) : awp Tryz.prog scope_Recursive_M scope_Recursive_c6 (roundQ scope_Recursive_m6 Kb6 (scope_Recursive_Q6 K)) (scope_Recursive_fr6 t0 t1 t8 t47 t48 t49) H = scope_Recursive_b6 t0 t1 t8 t47 t48 t49 H K Kb6 := by kernel_rfl
theorem scope_Recursive_loop6 {t0 t1 t8 t47 t48 t49 : AV} {H : Heap} {K : Kt} (Inv : Nat → AV → Heap → Prop) (n : Nat) (h0 : HSc H → Inv n t49 H)
    (round : ∀ n t49 H', Inv n t49 H' → HSc H' → H.length ≤ H'.length → (scope_Recursive_fr6 t0 t1 t8 t47 t48 t49).all (AV.sc H'.length) = true → ∀ Kb6 : Lt, (∀ F'' H'', (∃ n', n' < n ∧ Back H.length (fun F2 H2 => ∃ t49, F2 = scope_Recursive_fr6 t0 t1 t8 t47 t48 t49 ∧ Inv n' t49 H2) F'' H'') → Kb6 F'' H'') → scope_Recursive_b6 t0 t1 t8 t47 t48 t49 H' K Kb6) : scope_Recursive_l6 t0 t1 t8 t47 t48 t49 H K :=
  aloop (M := scope_Recursive_M) scope_Recursive_m6 (fun n F H => ∃ t49, F = scope_Recursive_fr6 t0 t1 t8 t47 t48 t49 ∧ Inv n t49 H) n (fun hs _ => ⟨t49, rfl, h0 hs⟩) (fun n F H' ⟨t49, hF, hI⟩ h1 h2 h3 => by subst hF; rw [scope_Recursive_b6_eq]; exact round n t49 H' hI h1 h2 h3 _ (fun _ _ h => h))
theorem scope_Recursive_eq (t0 t1 t2 : AV) (H : Heap) (K : Kt) : awp Tryz.prog scope_Recursive_M scope_Recursive_c (retQ Tryz.prog scope_Recursive_r K) (t0 :: t1 :: t2 :: List.replicate 103 .unk) H = scope_Recursive t0 t1 t2 H K := by kernel_rfl
theorem scope_Recursive_ok {t0 t1 t2 : AV} {H : Heap} {K : Kt} (h : HSc H → scope_Recursive t0 t1 t2 H K) : ACalls Tryz.prog n_scope_Recursive [t0, t1, t2] H K :=
  acalls_body (M := scope_Recursive_M) Tryz.func67 (c := scope_Recursive_c) (by kernel_rfl) (fun hs => (scope_Recursive_eq t0 t1 t2 H K).mpr (h hs))
/-! ### 225: core.mentions -/
def core_mentions_M (_ : Nat) : List Bool := []
noncomputable def core_mentions_c : Code := Tryz.f225.body.getD .skip
noncomputable def core_mentions_r : List ResultVar := Tryz.f225.results.toList
def core_mentions (t0 t1 : AV) (H : Heap) (K : Kt) : Prop :=
  aBox t0 H fun t2 H =>
  aBox t1 H fun t3 H =>
  aFld 0 t2 fun t5 =>
  aLoad false 1 t5 H fun t6 =>
  aBin .eql false t6 (.int .i64 5) fun t7 =>
  aGuardJ t7 true H (fun K' => aFld 1 t2 (K' · H)) fun t9 H =>
  aGuardJ t7 true H (fun K' => aLoad false 1 t9 H (K' · H)) fun t10 H =>
  aGuardJ t7 true H (fun K' => aLoad false 1 t3 H (K' · H)) fun t11 H =>
  aGuardJ t7 true H (fun K' => aBin .eql false t10 t11 (K' · H)) fun t12 H =>
  aPick t7 t12 (.bool false) fun t13 =>
  aGuardJ t13 false H (fun K' => aFld 2 t2 (K' · H)) fun t15 H =>
  aGuardJ t13 false H (fun K' => aLoad false 1 t15 H (K' · H)) fun t16 H =>
  aGuardJ t13 false H (fun K' => aClos n_core_mentions_1 [t3] (K' · H)) fun t17 H =>
  aGuardJ t13 false H (fun K' => ACalls Tryz.prog n_slices_ContainsFunc_S_api_Type_api_Type [t16, t17] H K') fun t18 H =>
  aPick t13 (.bool true) t18 fun t19 =>
  K t19 H
theorem core_mentions_eq (t0 t1 : AV) (H : Heap) (K : Kt) : awp Tryz.prog core_mentions_M core_mentions_c (retQ Tryz.prog core_mentions_r K) (t0 :: t1 :: List.replicate 18 .unk) H = core_mentions t0 t1 H K := by kernel_rfl
theorem core_mentions_ok {t0 t1 : AV} {H : Heap} {K : Kt} (h : HSc H → core_mentions t0 t1 H K) : ACalls Tryz.prog n_core_mentions [t0, t1] H K :=
  acalls_body (M := core_mentions_M) Tryz.func225 (c := core_mentions_c) (by kernel_rfl) (fun hs => (core_mentions_eq t0 t1 H K).mpr (h hs))
/-! ### 251: core.mentions$1 -/
def core_mentions_1_M (_ : Nat) : List Bool := []
noncomputable def core_mentions_1_c : Code := Tryz.f251.body.getD .skip
noncomputable def core_mentions_1_r : List ResultVar := Tryz.f251.results.toList
def core_mentions_1 (t0 t1 : AV) (H : Heap) (K : Kt) : Prop :=
  aBox t0 H fun t2 H =>
  aLoad true 3 t2 H fun t4 =>
  aLoad false 1 t1 H fun t5 =>
  ACalls Tryz.prog n_core_mentions [t4, t5] H fun t6 H =>
  K t6 H
theorem core_mentions_1_eq (t0 t1 : AV) (H : Heap) (K : Kt) : awp Tryz.prog core_mentions_1_M core_mentions_1_c (retQ Tryz.prog core_mentions_1_r K) (t0 :: t1 :: List.replicate 5 .unk) H = core_mentions_1 t0 t1 H K := by kernel_rfl
theorem core_mentions_1_ok {t0 t1 : AV} {H : Heap} {K : Kt} (h : HSc H → core_mentions_1 t0 t1 H K) : ACalls Tryz.prog n_core_mentions_1 [t0, t1] H K :=
  acalls_body (M := core_mentions_1_M) Tryz.func251 (c := core_mentions_1_c) (by kernel_rfl) (fun hs => (core_mentions_1_eq t0 t1 H K).mpr (h hs))
/-! ### 70: amortcostref5.IsSelf -/
def ref5_IsSelf_M : Nat → List Bool
  | 4 => rl false [3,1,3,1,50]
  | _ => []
noncomputable def ref5_IsSelf_c : Code := Tryz.f70.body.getD .skip
noncomputable def ref5_IsSelf_r : List ResultVar := Tryz.f70.results.toList
def ref5_IsSelf_fr4 (t3 t7 : AV) : List AV := ux 3 (t3 :: ux 3 (t7 :: ux 50 []))
def ref5_IsSelf_m4 : List Bool := ref5_IsSelf_M 4
noncomputable def ref5_IsSelf_c4 : Code := codeAt [1, 1, 0, 1, 0, 0] ref5_IsSelf_c
def ref5_IsSelf_Q4 (K : Kt) : AExit → List AV → Heap → Prop := contAt Tryz.prog ref5_IsSelf_M [1, 1, 0, 1, 0] ref5_IsSelf_c (retQ Tryz.prog ref5_IsSelf_r K)
def ref5_IsSelf_l4 (t3 t7 : AV) (H : Heap) (K : Kt) : Prop := ALoop Tryz.prog ref5_IsSelf_c4 (ref5_IsSelf_Q4 K) (ref5_IsSelf_fr4 t3 t7) H
def ref5_IsSelf_b4 (t3 t7 : AV) (H : Heap) (K : Kt) (Kb4 : Lt) : Prop :=
  aFld 2 t3 fun t25 =>
  aLoad false 1 t25 H fun t26 =>
  aLen 1 t26 fun t27 =>
  aBin .lss false t7 t27 fun t28 =>
  aTest t28
  (aFld 2 t3 fun t31 =>
  aLoad false 1 t31 H fun t32 =>
  aIdxA 3 t32 t7 fun t34 =>
  aFld 0 t34 fun t35 =>
  aLoad false 1 t35 H fun t36 =>
  aBin .neq false t36 (.int .i64 4) fun t37 =>
  aGuardJ t37 false H (fun K' => aFld 2 t3 (K' · H)) fun t39 H =>
  aGuardJ t37 false H (fun K' => aLoad false 1 t39 H (K' · H)) fun t40 H =>
  aGuardJ t37 false H (fun K' => K' t7 H) fun t41 H =>
  aGuardJ t37 false H (fun K' => aIdxA 3 t40 t41 (K' · H)) fun t42 H =>
  aGuardJ t37 false H (fun K' => aFld 1 t42 (K' · H)) fun t43 H =>
  aGuardJ t37 false H (fun K' => aLoad false 1 t43 H (K' · H)) fun t44 H =>
  aGuardJ t37 false H (fun K' => K' t7 H) fun t45 H =>
  aGuardJ t37 false H (fun K' => aBin .neq false t44 t45 (K' · H)) fun t46 H =>
  aPick t37 (.bool true) t46 fun t47 =>
  aGuardJ t47 false H (fun K' => aFld 2 t3 (K' · H)) fun t49 H =>
  aGuardJ t47 false H (fun K' => aLoad false 1 t49 H (K' · H)) fun t50 H =>
  aGuardJ t47 false H (fun K' => K' t7 H) fun t51 H =>
  aGuardJ t47 false H (fun K' => aIdxA 3 t50 t51 (K' · H)) fun t52 H =>
  aGuardJ t47 false H (fun K' => aFld 2 t52 (K' · H)) fun t53 H =>
  aGuardJ t47 false H (fun K' => aLoad false 1 t53 H (K' · H)) fun t54 H =>
  aGuardJ t47 false H (fun K' => aLen 1 t54 (K' · H)) fun t55 H =>
  aGuardJ t47 false H (fun K' => aBin .gtr false t55 (.int .i64 0) (K' · H)) fun t56 H =>
  aPick t47 (.bool true) t56 fun t57 =>
  aTest t57
  (K (.bool false) H)
  (aBin .add false t7 (.int .i64 1) fun t30 =>
  Kb4 (ref5_IsSelf_fr4 t3 t30) H))
  (K (.bool true) H)
def ref5_IsSelf (t0 t1 t2 : AV) (H : Heap) (K : Kt) : Prop :=
  aBox t0 H fun t3 H =>
  aFld 0 t3 fun t8 =>
  aLoad false 1 t8 H fun t9 =>
  aBin .neq false t9 (.int .i64 5) fun t10 =>
  aGuardJ t10 false H (fun K' => aFld 1 t3 (K' · H)) fun t12 H =>
  aGuardJ t10 false H (fun K' => aLoad false 1 t12 H (K' · H)) fun t13 H =>
  aGuardJ t10 false H (fun K' => K' t1 H) fun t14 H =>
  aGuardJ t10 false H (fun K' => aBin .neq false t13 t14 (K' · H)) fun t15 H =>
  aPick t10 (.bool true) t15 fun t16 =>
  aGuardJ t16 false H (fun K' => aFld 2 t3 (K' · H)) fun t18 H =>
  aGuardJ t16 false H (fun K' => aLoad false 1 t18 H (K' · H)) fun t19 H =>
  aGuardJ t16 false H (fun K' => aLen 1 t19 (K' · H)) fun t20 H =>
  aGuardJ t16 false H (fun K' => K' t2 H) fun t21 H =>
  aGuardJ t16 false H (fun K' => aBin .neq false t20 t21 (K' · H)) fun t22 H =>
  aPick t16 (.bool true) t22 fun t23 =>
  aTest t23
  (K (.bool false) H)
  (ref5_IsSelf_l4 t3 (.int .i64 0) H K)
theorem ref5_IsSelf_b4_eq (t3 t7 : AV) (H : Heap) (K : Kt) (Kb4 : Lt) : awp Tryz.prog ref5_IsSelf_M ref5_IsSelf_c4 (roundQ ref5_IsSelf_m4 Kb4 (ref5_IsSelf_Q4 K)) (ref5_IsSelf_fr4 t3 t7) H = ref5_IsSelf_b4 t3 t7 H K Kb4 := by kernel_rfl
theorem ref5_IsSelf_loop4 {t3 t7 : AV} {H : Heap} {K : Kt} (Inv : Nat → AV → Heap → Prop) (n : Nat) (h0 : HSc H → Inv n t7 H)
    (round : ∀ n t7 H', Inv n t7 H' → HSc H' → H.length ≤ H'.length → (ref5_IsSelf_fr4 t3 t7).all (AV.sc H'.length) = true → ∀ Kb4 : Lt, (∀ F'' H'', (∃ n', n' < n ∧ Back H.length (fun F2 H2 => ∃ t7, F2 = ref5_IsSelf_fr4 t3 t7 ∧ Inv n' t7 H2) F'' H'') → Kb4 F'' H'') → ref5_IsSelf_b4 t3 t7 H' K Kb4) : ref5_IsSelf_l4 t3 t7 H K :=
  aloop (M := ref5_IsSelf_M) ref5_IsSelf_m4 (fun n F H => ∃ t7, F = ref5_IsSelf_fr4 t3 t7 ∧ Inv n t7 H) n (fun hs _ => ⟨t7, rfl, h0 hs⟩) (fun n F H' ⟨t7, hF, hI⟩ h1 h2 h3 => by subst hF; rw [ref5_IsSelf_b4_eq]; exact round n t7 H' hI h1 h2 h3 _ (fun _ _ h => h))
theorem ref5_IsSelf_eq (t0 t1 t2 : AV) (H : Heap) (K : Kt) : awp Tryz.prog ref5_IsSelf_M ref5_IsSelf_c (retQ Tryz.prog ref5_IsSelf_r K) (t0 :: t1 :: t2 :: List.replicate 55 .unk) H = ref5_IsSelf t0 t1 t2 H K := by kernel_rfl
theorem ref5_IsSelf_ok {t0 t1 t2 : AV} {H : Heap} {K : Kt} (h : HSc H → ref5_IsSelf t0 t1 t2 H K) : ACalls Tryz.prog n_ref5_IsSelf [t0, t1, t2] H K :=
  acalls_body (M := ref5_IsSelf_M) Tryz.func70 (c := ref5_IsSelf_c) (by kernel_rfl) (fun hs => (ref5_IsSelf_eq t0 t1 t2 H K).mpr (h hs))
end Go.Proofs.YtfpmdpldabopjaaGreatDoor
