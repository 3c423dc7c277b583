/- The shallow forms of functions of the program, printed by a program (absgen.py) off the translation, each tied to the model by the kernel. -/
import Derived.Test.YtkdmpbhbmmhijaaKNum
import Derived.Test.YtkdmpbhbmmhijaaProg
import Derived.KernelRfl
namespace Go.Proofs.Ytkdmpbhbmmhijaa
open Go Go.Abs
set_option linter.unusedVariables false
set_option maxRecDepth 100000
def zq63_M : Nat → List Bool
 | 5 => rl false [1,2,2,1,24]
 | _ => []
noncomputable def zq63_c : Code := Try.f65.body.getD .skip
noncomputable def zq63_r : List ResultVar := Try.f65.results.toList
def zq63_fr5 (t1 t2 t5 : AV) : List AV := ux 1 (t1 :: t2 :: ux 2 (t5 :: ux 24 []))
def zq63_m5 : List Bool := zq63_M 5
noncomputable def zq63_c5 : Code := codeAt [1, 1, 1, 0, 1, 0, 0] zq63_c
def zq63_Q5 (K : Kt) : AExit → List AV → Heap → Prop := contAt tP zq63_M [1, 1, 1, 0, 1, 0] zq63_c (retQ tP zq63_r K)
def zq63_l5 (t1 t2 t5 : AV) (H : Heap) (K : Kt) : Prop := ALoop tP zq63_c5 (zq63_Q5 K) (zq63_fr5 t1 t2 t5) H
def zq63_b5 (t1 t2 t5 : AV) (H : Heap) (K : Kt) (Kb5 : Lt) : Prop :=
 aFld 2 t2 fun t16 =>
 aLoad false 1 t16 H fun t17 =>
 aLen 1 t17 fun t18 =>
 aBin .lss false t5 t18 fun t19 =>
 aTest t19
 (aFld 2 t2 fun t22 =>
 aLoad false 1 t22 H fun t23 =>
 aIdxA 3 t23 t5 fun t25 =>
 aLoad true 3 t25 H fun t26 =>
 ACalls tP n_zq63 [t26, t1] H fun t28 H =>
 aUn .not t28 fun t29 =>
 aTest t29
 (K (.bool false) H)
 (aBin .add false t5 (.int .i64 1) fun t21 =>
 Kb5 (zq63_fr5 t1 t2 t21) H))
 (K (.bool true) H)
def zq63 (t0 t1 : AV) (H : Heap) (K : Kt) : Prop :=
 aBox t0 H fun t2 H =>
 aNil t1 fun t7 =>
 aLoad false 1 t7 H fun t8 =>
 aBin .sub false t8 (.int .i64 1) fun t9 =>
 aNil t1 fun t10 =>
 aStore 1 t10 t9 H fun H =>
 aNil t1 fun t12 =>
 aLoad false 1 t12 H fun t13 =>
 aBin .lss false t13 (.int .i64 0) fun t14 =>
 aTest t14
 (K (.bool false) H)
 (zq63_l5 t1 t2 (.int .i64 0) H K)
theorem zq63_b5_eq (t1 t2 t5 : AV) (H : Heap) (K : Kt) (Kb5 : Lt) : awp tP zq63_M zq63_c5 (roundQ zq63_m5 Kb5 (zq63_Q5 K)) (zq63_fr5 t1 t2 t5) H = zq63_b5 t1 t2 t5 H K Kb5 := by kernel_rfl
theorem zq63_loop5 {t1 t2 t5 : AV} {H : Heap} {K : Kt} (Inv : Nat → AV → Heap → Prop) (n : Nat) (h0 : HSc H → Inv n t5 H)
   (round : ∀ n t5 H', Inv n t5 H' → HSc H' → H.length ≤ H'.length → (zq63_fr5 t1 t2 t5).all (AV.sc H'.length) = true → ∀ Kb5 : Lt, (∀ F'' H'', (∃ n', n' < n ∧ Back H.length (fun F2 H2 => ∃ t5, F2 = zq63_fr5 t1 t2 t5 ∧ Inv n' t5 H2) F'' H'') → Kb5 F'' H'') → zq63_b5 t1 t2 t5 H' K Kb5) : zq63_l5 t1 t2 t5 H K :=
 aloop (M := zq63_M) zq63_m5 (fun n F H => ∃ t5, F = zq63_fr5 t1 t2 t5 ∧ Inv n t5 H) n (fun hs _ => ⟨t5, rfl, h0 hs⟩) (fun n F H' ⟨t5, hF, hI⟩ h1 h2 h3 => by subst hF; rw [zq63_b5_eq]; exact round n t5 H' hI h1 h2 h3 _ (fun _ _ h => h))
theorem zq63_eq (t0 t1 : AV) (H : Heap) (K : Kt) : awp tP zq63_M zq63_c (retQ tP zq63_r K) (t0 :: t1 :: List.replicate 28 .unk) H = zq63 t0 t1 H K := by kernel_rfl
theorem zq63_ok {t0 t1 : AV} {H : Heap} {K : Kt} (h : HSc H → zq63 t0 t1 H K) : ACalls tP n_zq63 [t0, t1] H K :=
 acalls_body (M := zq63_M) Try.func65 (c := zq63_c) (by kernel_rfl) (fun hs => (zq63_eq t0 t1 H K).mpr (h hs))
def zq38_M (_ : Nat) : List Bool := []
noncomputable def zq38_c : Code := Try.f40.body.getD .skip
noncomputable def zq38_r : List ResultVar := Try.f40.results.toList
def zq38 (t0 : AV) (H : Heap) (K : Kt) : Prop :=
 aBox t0 H fun t1 H =>
 aNew [(.int .i64 0)] H fun t3 H =>
 aStore 1 t3 (.int .i64 250) H fun H =>
 aLoad true 3 t1 H fun t4 =>
 ACalls tP n_zq63 [t4, t3] H fun t5 H =>
 K t5 H
theorem zq38_eq (t0 : AV) (H : Heap) (K : Kt) : awp tP zq38_M zq38_c (retQ tP zq38_r K) (t0 :: List.replicate 5 .unk) H = zq38 t0 H K := by kernel_rfl
theorem zq38_ok {t0 : AV} {H : Heap} {K : Kt} (h : HSc H → zq38 t0 H K) : ACalls tP n_zq38 [t0] H K :=
 acalls_body (M := zq38_M) Try.func40 (c := zq38_c) (by kernel_rfl) (fun hs => (zq38_eq t0 H K).mpr (h hs))
def zq37_M : Nat → List Bool
 | 2 => rl false [0,2,3,1,21]
 | _ => []
noncomputable def zq37_c : Code := Try.f39.body.getD .skip
noncomputable def zq37_r : List ResultVar := Try.f39.results.toList
def zq37_fr2 (t0 t1 t5 : AV) : List AV := t0 :: t1 :: ux 3 (t5 :: ux 21 [])
def zq37_m2 : List Bool := zq37_M 2
noncomputable def zq37_c2 : Code := codeAt [1, 0, 1, 0, 0] zq37_c
def zq37_Q2 (K : Kt) : AExit → List AV → Heap → Prop := contAt tP zq37_M [1, 0, 1, 0] zq37_c (retQ tP zq37_r K)
def zq37_l2 (t0 t1 t5 : AV) (H : Heap) (K : Kt) : Prop := ALoop tP zq37_c2 (zq37_Q2 K) (zq37_fr2 t0 t1 t5) H
def zq37_b2 (t0 t1 t5 : AV) (H : Heap) (K : Kt) (Kb2 : Lt) : Prop :=
 aLen 1 t0 fun t8 =>
 aBin .lss false t5 t8 fun t9 =>
 aGuardJ t9 true H (fun k => k t5 H) fun t11 H =>
 aGuardJ t9 true H (fun k => k t1 H) fun t12 H =>
 aGuardJ t9 true H (fun k => aBin .leq false t11 t12 (k · H)) fun t13 H =>
 aPick t9 t13 (.bool false) fun t14 =>
 aTest t14
 (aIdxA 3 t0 t5 fun t19 =>
 aLoad true 3 t19 H fun t20 =>
 ACalls tP n_zq38 [t20] H fun t21 H =>
 aUn .not t21 fun t22 =>
 aTest t22
 (K (.bool false) H)
 (aBin .add false t5 (.int .i64 1) fun t16 =>
 Kb2 (zq37_fr2 t0 t1 t16) H))
 (aLen 1 t0 fun t24 =>
 aBin .leq false t24 t1 fun t26 =>
 K t26 H)
def zq37 (t0 t1 : AV) (H : Heap) (K : Kt) : Prop :=
 zq37_l2 t0 t1 (.int .i64 0) H K
theorem zq37_b2_eq (t0 t1 t5 : AV) (H : Heap) (K : Kt) (Kb2 : Lt) : awp tP zq37_M zq37_c2 (roundQ zq37_m2 Kb2 (zq37_Q2 K)) (zq37_fr2 t0 t1 t5) H = zq37_b2 t0 t1 t5 H K Kb2 := by kernel_rfl
theorem zq37_loop2 {t0 t1 t5 : AV} {H : Heap} {K : Kt} (Inv : Nat → AV → Heap → Prop) (n : Nat) (h0 : HSc H → Inv n t5 H)
   (round : ∀ n t5 H', Inv n t5 H' → HSc H' → H.length ≤ H'.length → (zq37_fr2 t0 t1 t5).all (AV.sc H'.length) = true → ∀ Kb2 : Lt, (∀ F'' H'', (∃ n', n' < n ∧ Back H.length (fun F2 H2 => ∃ t5, F2 = zq37_fr2 t0 t1 t5 ∧ Inv n' t5 H2) F'' H'') → Kb2 F'' H'') → zq37_b2 t0 t1 t5 H' K Kb2) : zq37_l2 t0 t1 t5 H K :=
 aloop (M := zq37_M) zq37_m2 (fun n F H => ∃ t5, F = zq37_fr2 t0 t1 t5 ∧ Inv n t5 H) n (fun hs _ => ⟨t5, rfl, h0 hs⟩) (fun n F H' ⟨t5, hF, hI⟩ h1 h2 h3 => by subst hF; rw [zq37_b2_eq]; exact round n t5 H' hI h1 h2 h3 _ (fun _ _ h => h))
theorem zq37_eq (t0 t1 : AV) (H : Heap) (K : Kt) : awp tP zq37_M zq37_c (retQ tP zq37_r K) (t0 :: t1 :: List.replicate 25 .unk) H = zq37 t0 t1 H K := by kernel_rfl
theorem zq37_ok {t0 t1 : AV} {H : Heap} {K : Kt} (h : HSc H → zq37 t0 t1 H K) : ACalls tP n_zq37 [t0, t1] H K :=
 acalls_body (M := zq37_M) Try.func39 (c := zq37_c) (by kernel_rfl) (fun hs => (zq37_eq t0 t1 H K).mpr (h hs))
def zq36_M : Nat → List Bool
 | 4 => rl false [13,3,43]
 | 9 => rl false [13,3,14,3,26]
 | 15 => rl false [7,1,5,3,14,3,14,3,9]
 | _ => []
noncomputable def zq36_c : Code := Try.f38.body.getD .skip
noncomputable def zq36_r : List ResultVar := Try.f38.results.toList
def zq36_fr4 (t13 t14 t15 : AV) : List AV := ux 13 (t13 :: t14 :: t15 :: ux 43 [])
def zq36_m4 : List Bool := zq36_M 4
noncomputable def zq36_c4 : Code := codeAt [1, 1, 0, 1, 0, 0] zq36_c
def zq36_Q4 (K : Kt) : AExit → List AV → Heap → Prop := contAt tP zq36_M [1, 1, 0, 1, 0] zq36_c (retQ tP zq36_r K)
def zq36_l4 (t13 t14 t15 : AV) (H : Heap) (K : Kt) : Prop := ALoop tP zq36_c4 (zq36_Q4 K) (zq36_fr4 t13 t14 t15) H
def zq36_fr9 (t13 t14 t15 t30 t31 t32 : AV) : List AV := ux 13 (t13 :: t14 :: t15 :: ux 14 (t30 :: t31 :: t32 :: ux 26 []))
def zq36_m9 : List Bool := zq36_M 9
noncomputable def zq36_c9 : Code := codeAt [1, 1, 0, 0, 1, 1, 1, 0, 0] zq36_c4
def zq36_Q9 (K : Kt) (Kb4 : Lt) : AExit → List AV → Heap → Prop := contAt tP zq36_M [1, 1, 0, 0, 1, 1, 1, 0] zq36_c4 (roundQ zq36_m4 Kb4 (zq36_Q4 K))
def zq36_l9 (t13 t14 t15 t30 t31 t32 : AV) (H : Heap) (K : Kt) (Kb4 : Lt) : Prop := ALoop tP zq36_c9 (zq36_Q9 K Kb4) (zq36_fr9 t13 t14 t15 t30 t31 t32) H
def zq36_fr15 (t7 t13 t14 t15 t30 t31 t32 t47 t48 t49 : AV) : List AV := ux 7 (t7 :: ux 5 (t13 :: t14 :: t15 :: ux 14 (t30 :: t31 :: t32 :: ux 14 (t47 :: t48 :: t49 :: ux 9 []))))
def zq36_m15 : List Bool := zq36_M 15
noncomputable def zq36_c15 : Code := codeAt [1, 1, 0, 0, 1, 1, 1, 1, 0, 0] zq36_c9
def zq36_Q15 (K : Kt) (Kb4 : Lt) (Kb9 : Lt) : AExit → List AV → Heap → Prop := contAt tP zq36_M [1, 1, 0, 0, 1, 1, 1, 1, 0] zq36_c9 (roundQ zq36_m9 Kb9 (zq36_Q9 K Kb4))
def zq36_l15 (t7 t13 t14 t15 t30 t31 t32 t47 t48 t49 : AV) (H : Heap) (K : Kt) (Kb4 : Lt) (Kb9 : Lt) : Prop := ALoop tP zq36_c15 (zq36_Q15 K Kb4 Kb9) (zq36_fr15 t7 t13 t14 t15 t30 t31 t32 t47 t48 t49) H
def zq36_b15 (t7 t13 t14 t15 t30 t31 t32 t47 t48 t49 : AV) (H : Heap) (K : Kt) (Kb4 : Lt) (Kb9 : Lt) (Kb15 : Lt) : Prop :=
 aBin .lss false t49 t48 fun t50 =>
 aTest t50
 (aIdxA 3 t47 t49 fun t51 =>
 aLoad true 3 t51 H fun t52 =>
 aNew [(.int .i64 0), (.int .i64 0), .snil] H fun t9 H =>
 aStore 3 t9 t52 H fun H =>
 aLoad true 3 t9 H fun t53 =>
 ACalls tP n_zq63 [t53, t7] H fun t54 H =>
 aUn .not t54 fun t55 =>
 aTest t55
 (K (.bool false) H)
 (aBin .add false t49 (.int .i64 1) fun t56 =>
 Kb15 (zq36_fr15 t7 t13 t14 t15 t30 t31 t32 t47 t48 t56) H))
 (aBin .add false t32 (.int .i64 1) fun t57 =>
 Kb9 (zq36_fr9 t13 t14 t15 t30 t31 t57) H)
def zq36_b9 (t13 t14 t15 t30 t31 t32 : AV) (H : Heap) (K : Kt) (Kb4 : Lt) (Kb9 : Lt) : Prop :=
 aBin .lss false t32 t31 fun t33 =>
 aTest t33
 (aIdxA 2 t30 t32 fun t34 =>
 aLoad true 2 t34 H fun t35 =>
 aNew [(.str []), .snil] H fun t6 H =>
 aStore 2 t6 t35 H fun H =>
 aFld 0 t6 fun t36 =>
 aLoad false 1 t36 H fun t37 =>
 aLen 0 t37 fun t38 =>
 aBin .gtr false t38 (.int .i64 40) fun t39 =>
 aGuardJ t39 false H (fun k => aFld 1 t6 (k · H)) fun t41 H =>
 aGuardJ t39 false H (fun k => aLoad false 1 t41 H (k · H)) fun t42 H =>
 aGuardJ t39 false H (fun k => aLen 1 t42 (k · H)) fun t43 H =>
 aGuardJ t39 false H (fun k => aBin .gtr false t43 (.int .i64 8) (k · H)) fun t44 H =>
 aPick t39 (.bool true) t44 fun t45 =>
 aTest t45
 (K (.bool false) H)
 (aNew [(.int .i64 0)] H fun t7 H =>
 aStore 1 t7 (.int .i64 20) H fun H =>
 aFld 1 t6 fun t46 =>
 aLoad false 1 t46 H fun t47 =>
 aLen 1 t47 fun t48 =>
 zq36_l15 t7 t13 t14 t15 t30 t31 t32 t47 t48 (.int .i64 0) H K Kb4 Kb9))
 (aBin .add false t15 (.int .i64 1) fun t58 =>
 Kb4 (zq36_fr4 t13 t14 t58) H)
def zq36_b4 (t13 t14 t15 : AV) (H : Heap) (K : Kt) (Kb4 : Lt) : Prop :=
 aBin .lss false t15 t14 fun t16 =>
 aTest t16
 (aIdxA 3 t13 t15 fun t17 =>
 aLoad true 3 t17 H fun t18 =>
 aNew [(.str []), (.int .i64 0), .snil] H fun t4 H =>
 aStore 3 t4 t18 H fun H =>
 aFld 0 t4 fun t19 =>
 aLoad false 1 t19 H fun t20 =>
 aLen 0 t20 fun t21 =>
 aBin .gtr false t21 (.int .i64 40) fun t22 =>
 aGuardJ t22 false H (fun k => aFld 2 t4 (k · H)) fun t24 H =>
 aGuardJ t22 false H (fun k => aLoad false 1 t24 H (k · H)) fun t25 H =>
 aGuardJ t22 false H (fun k => aLen 1 t25 (k · H)) fun t26 H =>
 aGuardJ t22 false H (fun k => aBin .gtr false t26 (.int .i64 10) (k · H)) fun t27 H =>
 aPick t22 (.bool true) t27 fun t28 =>
 aTest t28
 (K (.bool false) H)
 (aFld 2 t4 fun t29 =>
 aLoad false 1 t29 H fun t30 =>
 aLen 1 t30 fun t31 =>
 zq36_l9 t13 t14 t15 t30 t31 (.int .i64 0) H K Kb4))
 (K (.bool true) H)
def zq36 (t0 : AV) (H : Heap) (K : Kt) : Prop :=
 aLen 1 t0 fun t11 =>
 aBin .gtr false t11 (.int .i64 14) fun t12 =>
 aTest t12
 (K (.bool false) H)
 (aLen 1 t0 fun t14 =>
 zq36_l4 t0 t14 (.int .i64 0) H K)
theorem zq36_b15_eq (t7 t13 t14 t15 t30 t31 t32 t47 t48 t49 : AV) (H : Heap) (K : Kt) (Kb4 : Lt) (Kb9 : Lt) (Kb15 : Lt) : awp tP zq36_M zq36_c15 (roundQ zq36_m15 Kb15 (zq36_Q15 K Kb4 Kb9)) (zq36_fr15 t7 t13 t14 t15 t30 t31 t32 t47 t48 t49) H = zq36_b15 t7 t13 t14 t15 t30 t31 t32 t47 t48 t49 H K Kb4 Kb9 Kb15 := by kernel_rfl
theorem zq36_loop15 {t7 t13 t14 t15 t30 t31 t32 t47 t48 t49 : AV} {H : Heap} {K : Kt} {Kb4 : Lt} {Kb9 : Lt} (Inv : Nat → AV → Heap → Prop) (n : Nat) (h0 : HSc H → Inv n t49 H)
   (round : ∀ n t49 H', Inv n t49 H' → HSc H' → H.length ≤ H'.length → (zq36_fr15 t7 t13 t14 t15 t30 t31 t32 t47 t48 t49).all (AV.sc H'.length) = true → ∀ Kb15 : Lt, (∀ F'' H'', (∃ n', n' < n ∧ Back H.length (fun F2 H2 => ∃ t49, F2 = zq36_fr15 t7 t13 t14 t15 t30 t31 t32 t47 t48 t49 ∧ Inv n' t49 H2) F'' H'') → Kb15 F'' H'') → zq36_b15 t7 t13 t14 t15 t30 t31 t32 t47 t48 t49 H' K Kb4 Kb9 Kb15) : zq36_l15 t7 t13 t14 t15 t30 t31 t32 t47 t48 t49 H K Kb4 Kb9 :=
 aloop (M := zq36_M) zq36_m15 (fun n F H => ∃ t49, F = zq36_fr15 t7 t13 t14 t15 t30 t31 t32 t47 t48 t49 ∧ Inv n t49 H) n (fun hs _ => ⟨t49, rfl, h0 hs⟩) (fun n F H' ⟨t49, hF, hI⟩ h1 h2 h3 => by subst hF; rw [zq36_b15_eq]; exact round n t49 H' hI h1 h2 h3 _ (fun _ _ h => h))
theorem zq36_b9_eq (t13 t14 t15 t30 t31 t32 : AV) (H : Heap) (K : Kt) (Kb4 : Lt) (Kb9 : Lt) : awp tP zq36_M zq36_c9 (roundQ zq36_m9 Kb9 (zq36_Q9 K Kb4)) (zq36_fr9 t13 t14 t15 t30 t31 t32) H = zq36_b9 t13 t14 t15 t30 t31 t32 H K Kb4 Kb9 := by kernel_rfl
theorem zq36_loop9 {t13 t14 t15 t30 t31 t32 : AV} {H : Heap} {K : Kt} {Kb4 : Lt} (Inv : Nat → AV → Heap → Prop) (n : Nat) (h0 : HSc H → Inv n t32 H)
   (round : ∀ n t32 H', Inv n t32 H' → HSc H' → H.length ≤ H'.length → (zq36_fr9 t13 t14 t15 t30 t31 t32).all (AV.sc H'.length) = true → ∀ Kb9 : Lt, (∀ F'' H'', (∃ n', n' < n ∧ Back H.length (fun F2 H2 => ∃ t32, F2 = zq36_fr9 t13 t14 t15 t30 t31 t32 ∧ Inv n' t32 H2) F'' H'') → Kb9 F'' H'') → zq36_b9 t13 t14 t15 t30 t31 t32 H' K Kb4 Kb9) : zq36_l9 t13 t14 t15 t30 t31 t32 H K Kb4 :=
 aloop (M := zq36_M) zq36_m9 (fun n F H => ∃ t32, F = zq36_fr9 t13 t14 t15 t30 t31 t32 ∧ Inv n t32 H) n (fun hs _ => ⟨t32, rfl, h0 hs⟩) (fun n F H' ⟨t32, hF, hI⟩ h1 h2 h3 => by subst hF; rw [zq36_b9_eq]; exact round n t32 H' hI h1 h2 h3 _ (fun _ _ h => h))
theorem zq36_b4_eq (t13 t14 t15 : AV) (H : Heap) (K : Kt) (Kb4 : Lt) : awp tP zq36_M zq36_c4 (roundQ zq36_m4 Kb4 (zq36_Q4 K)) (zq36_fr4 t13 t14 t15) H = zq36_b4 t13 t14 t15 H K Kb4 := by kernel_rfl
theorem zq36_loop4 {t13 t14 t15 : AV} {H : Heap} {K : Kt} (Inv : Nat → AV → Heap → Prop) (n : Nat) (h0 : HSc H → Inv n t15 H)
   (round : ∀ n t15 H', Inv n t15 H' → HSc H' → H.length ≤ H'.length → (zq36_fr4 t13 t14 t15).all (AV.sc H'.length) = true → ∀ Kb4 : Lt, (∀ F'' H'', (∃ n', n' < n ∧ Back H.length (fun F2 H2 => ∃ t15, F2 = zq36_fr4 t13 t14 t15 ∧ Inv n' t15 H2) F'' H'') → Kb4 F'' H'') → zq36_b4 t13 t14 t15 H' K Kb4) : zq36_l4 t13 t14 t15 H K :=
 aloop (M := zq36_M) zq36_m4 (fun n F H => ∃ t15, F = zq36_fr4 t13 t14 t15 ∧ Inv n t15 H) n (fun hs _ => ⟨t15, rfl, h0 hs⟩) (fun n F H' ⟨t15, hF, hI⟩ h1 h2 h3 => by subst hF; rw [zq36_b4_eq]; exact round n t15 H' hI h1 h2 h3 _ (fun _ _ h => h))
theorem zq36_eq (t0 : AV) (H : Heap) (K : Kt) : awp tP zq36_M zq36_c (retQ tP zq36_r K) (t0 :: List.replicate 58 .unk) H = zq36 t0 H K := by kernel_rfl
theorem zq36_ok {t0 : AV} {H : Heap} {K : Kt} (h : HSc H → zq36 t0 H K) : ACalls tP n_zq36 [t0] H K :=
 acalls_body (M := zq36_M) Try.func38 (c := zq36_c) (by kernel_rfl) (fun hs => (zq36_eq t0 H K).mpr (h hs))
def zq68_M (_ : Nat) : List Bool := []
noncomputable def zq68_c : Code := Try.f70.body.getD .skip
noncomputable def zq68_r : List ResultVar := Try.f70.results.toList
def zq68 (t0 t1 t2 : AV) (H : Heap) (K : Kt) : Prop :=
 aBox t1 H fun t4 H =>
 aBuild [.snil, (.int .i64 0), (.int .i64 0)] [(0, 1), (1, 1), (2, 1)] [(0, t0), (1, t2), (2, (.int .i64 200))] fun t10 =>
 aBox t10 H fun t11 H =>
 aLoad true 3 t4 H fun t13 =>
 ACalls tP n_zq86 [t11, t13] H fun t14 H =>
 K t14 H
theorem zq68_eq (t0 t1 t2 : AV) (H : Heap) (K : Kt) : awp tP zq68_M zq68_c (retQ tP zq68_r K) (t0 :: t1 :: t2 :: List.replicate 12 .unk) H = zq68 t0 t1 t2 H K := by kernel_rfl
theorem zq68_ok {t0 t1 t2 : AV} {H : Heap} {K : Kt} (h : HSc H → zq68 t0 t1 t2 H K) : ACalls tP n_zq68 [t0, t1, t2] H K :=
 acalls_body (M := zq68_M) Try.func70 (c := zq68_c) (by kernel_rfl) (fun hs => (zq68_eq t0 t1 t2 H K).mpr (h hs))
def zq86_M : Nat → List Bool
 | 171022 => rl false [2,2,16,1,53,1,34]
 | 150010 => rl false [2,2,1,2,13,2,87]
 | 100007 => rl false [2,2,1,2,13,1,88]
 | 100002 => rl false [2,2,105]
 | _ => []
noncomputable def zq86_c : Code := Try.f88.body.getD .skip
noncomputable def zq86_r : List ResultVar := Try.f88.results.toList
def zq86_j5 (t2 t3 t5 t6 : AV) (H : Heap) (K : Kt) : Prop :=
 aFld 0 t3 fun t79 =>
 aLoad false 1 t79 H fun t80 =>
 aBin .neq false t80 (.int .i64 4) fun t81 =>
 aGuardJ t81 true H (fun k => aFld 0 t3 (k · H)) fun t83 H =>
 aGuardJ t81 true H (fun k => aLoad false 1 t83 H (k · H)) fun t84 H =>
 aGuardJ t81 true H (fun k => aBin .neq false t84 (.int .i64 5) (k · H)) fun t85 H =>
 aPick t81 t85 (.bool false) fun t86 =>
 aGuardJ t86 true H (fun k => aFld 1 t3 (k · H)) fun t88 H =>
 aGuardJ t86 true H (fun k => aLoad false 1 t88 H (k · H)) fun t89 H =>
 aGuardJ t86 true H (fun k => aBin .neq false t89 (.int .i64 0) (k · H)) fun t90 H =>
 aPick t86 t90 (.bool false) fun t91 =>
 aTest t91
 (K (.bool false) H)
 (aFld 2 t3 fun t92 =>
 aLoad false 1 t92 H fun t93 =>
 aLen 1 t93 fun t94 =>
 aBin .lss false t94 t5 fun t96 =>
 aGuardJ t96 false H (fun k => aFld 2 t3 (k · H)) fun t98 H =>
 aGuardJ t96 false H (fun k => aLoad false 1 t98 H (k · H)) fun t99 H =>
 aGuardJ t96 false H (fun k => aLen 1 t99 (k · H)) fun t100 H =>
 aGuardJ t96 false H (fun k => k t6 H) fun t101 H =>
 aGuardJ t96 false H (fun k => aBin .gtr false t100 t101 (k · H)) fun t102 H =>
 aPick t96 (.bool true) t102 fun t103 =>
 aTest t103
 (K (.bool false) H)
 (aFld 2 t3 fun t104 =>
 aLoad false 1 t104 H fun t105 =>
 aClos n_zq102 [t2] fun t106 =>
 ACalls tP n_zq66 [t105, t106] H fun t107 H =>
 aUn .not t107 fun t108 =>
 K t108 H))
def zq86_j4 (t2 t3 t5 t6 : AV) (H : Heap) (K : Kt) : Prop :=
 zq86_j5 t2 t3 t5 t6 H K
noncomputable def zq86_j6_c : Code := codeAt [1, 1, 1, 1, 0, 1, 0, 1, 1, 1, 1, 1, 1, 1, 1, 1] zq86_c
def zq86_j6_Q (K : Kt) : AExit → List AV → Heap → Prop := contAt tP zq86_M [1, 1, 1, 1, 0, 1, 0, 1, 1, 1, 1, 1, 1, 1, 1, 1] zq86_c (retQ tP zq86_r K)
def zq86_j6 (t2 t3 t20 t74 : AV) (H : Heap) (K : Kt) : Prop := AWp tP zq86_j6_c (zq86_j6_Q K) (ux 2 (t2 :: t3 :: ux 16 (t20 :: ux 53 (t74 :: ux 34 [])))) H
def zq86_j6b (t2 t3 t20 t74 : AV) (H : Heap) (K : Kt) : Prop :=
 aTest t74
 (zq86_j4 t2 t3 (.int .i64 1) (.int .i64 1) H K)
 (aBin .eql false t20 (.int .i64 9) fun t78 =>
 aTest t78
 (zq86_j4 t2 t3 (.int .i64 1) (.int .i64 7) H K)
 (K (.bool false) H))
noncomputable def zq86_j3_c : Code := codeAt [1, 1, 1, 1, 0, 1, 0, 1] zq86_c
def zq86_j3_Q (K : Kt) : AExit → List AV → Heap → Prop := contAt tP zq86_M [1, 1, 1, 1, 0, 1, 0, 1] zq86_c (retQ tP zq86_r K)
def zq86_j3 (t2 t3 t5 t6 t20 t21 : AV) (H : Heap) (K : Kt) : Prop := AWp tP zq86_j3_c (zq86_j3_Q K) (ux 2 (t2 :: t3 :: ux 1 (t5 :: t6 :: ux 13 (t20 :: t21 :: ux 87 [])))) H
def zq86_j3b (t2 t3 t5 t6 t20 t21 : AV) (H : Heap) (K : Kt) : Prop :=
 aTest t21
 (zq86_j4 t2 t3 t5 t6 H K)
 (aBin .eql false t20 (.int .i64 4) fun t26 =>
 aTest t26
 (aPure H (fun k => aFld 1 t3 (k · H)) fun t27 =>
 aPure H (fun k => aLoad false 1 t27 H (k · H)) fun t28 =>
 aPure H (fun k => aBin .lss false t28 (.int .i64 0) (k · H)) fun t29 =>
 aPure H (fun k => k t29 H) fun t30 =>
 aGuardJ t30 false H (fun k => aPure H (fun l => aFld 1 t3 (l · H)) (k · H)) fun t31 H =>
 aGuardJ t30 false H (fun k => aPure H (fun l => aLoad false 1 t31 H (l · H)) (k · H)) fun t32 H =>
 aGuardJ t30 false H (fun k => aPure H (fun l => aLoad false 1 t2 H (l · H)) (k · H)) fun t33 H =>
 aGuardJ t30 false H (fun k => aPure H (fun l => aNil t33 (l · H)) (k · H)) fun t34 H =>
 aGuardJ t30 false H (fun k => aPure H (fun l => aFld 1 t34 (l · H)) (k · H)) fun t35 H =>
 aGuardJ t30 false H (fun k => aPure H (fun l => aLoad false 1 t35 H (l · H)) (k · H)) fun t36 H =>
 aGuardJ t30 false H (fun k => aPure H (fun l => aBin .geq false t32 t36 (l · H)) (k · H)) fun t37 H =>
 aPure H (fun k => aPick t30 (.bool true) t37 (k · H)) fun t38 =>
 aTest t38
 (K (.bool false) H)
 (zq86_j4 t2 t3 t5 t6 H K))
 (aBin .eql false t20 (.int .i64 5) fun t40 =>
 aTest t40
 (aPure H (fun k => aFld 1 t3 (k · H)) fun t41 =>
 aPure H (fun k => aLoad false 1 t41 H (k · H)) fun t42 =>
 aPure H (fun k => aBin .lss false t42 (.int .i64 0) (k · H)) fun t43 =>
 aPure H (fun k => k t43 H) fun t44 =>
 aGuardJ t44 false H (fun k => aPure H (fun l => aFld 1 t3 (l · H)) (k · H)) fun t45 H =>
 aGuardJ t44 false H (fun k => aPure H (fun l => aLoad false 1 t45 H (l · H)) (k · H)) fun t46 H =>
 aGuardJ t44 false H (fun k => aPure H (fun l => aLoad false 1 t2 H (l · H)) (k · H)) fun t47 H =>
 aGuardJ t44 false H (fun k => aPure H (fun l => aNil t47 (l · H)) (k · H)) fun t48 H =>
 aGuardJ t44 false H (fun k => aPure H (fun l => aFld 0 t48 (l · H)) (k · H)) fun t49 H =>
 aGuardJ t44 false H (fun k => aPure H (fun l => aLoad false 1 t49 H (l · H)) (k · H)) fun t50 H =>
 aGuardJ t44 false H (fun k => aPure H (fun l => aLen 1 t50 (l · H)) (k · H)) fun t51 H =>
 aGuardJ t44 false H (fun k => aPure H (fun l => aBin .geq false t46 t51 (l · H)) (k · H)) fun t52 H =>
 aPure H (fun k => aPick t44 (.bool true) t52 (k · H)) fun t53 =>
 aTest t53
 (K (.bool false) H)
 (aPure H (fun k => aLoad false 1 t2 H (k · H)) fun t54 =>
 aPure H (fun k => aNil t54 (k · H)) fun t55 =>
 aPure H (fun k => aFld 0 t55 (k · H)) fun t56 =>
 aPure H (fun k => aLoad false 1 t56 H (k · H)) fun t57 =>
 aPure H (fun k => aFld 1 t3 (k · H)) fun t58 =>
 aPure H (fun k => aLoad false 1 t58 H (k · H)) fun t59 =>
 aPure H (fun k => aIdxA 3 t57 t59 (k · H)) fun t60 =>
 aPure H (fun k => aFld 1 t60 (k · H)) fun t61 =>
 aPure H (fun k => aLoad false 1 t61 H (k · H)) fun t62 =>
 aPure H (fun k => aLoad false 1 t2 H (k · H)) fun t63 =>
 aPure H (fun k => aNil t63 (k · H)) fun t64 =>
 aPure H (fun k => aFld 0 t64 (k · H)) fun t65 =>
 aPure H (fun k => aLoad false 1 t65 H (k · H)) fun t66 =>
 aPure H (fun k => aFld 1 t3 (k · H)) fun t67 =>
 aPure H (fun k => aLoad false 1 t67 H (k · H)) fun t68 =>
 aPure H (fun k => aIdxA 3 t66 t68 (k · H)) fun t69 =>
 aPure H (fun k => aFld 1 t69 (k · H)) fun t70 =>
 aPure H (fun k => aLoad false 1 t70 H (k · H)) fun t71 =>
 aPure H (fun k => k t62 H) fun t5 =>
 aPure H (fun k => k t71 H) fun t6 =>
 zq86_j4 t2 t3 t5 t6 H K))
 (aBin .eql false t20 (.int .i64 6) fun t73 =>
 aTest t73
 (zq86_j4 t2 t3 (.int .i64 2) (.int .i64 6) H K)
 (aBin .eql false t20 (.int .i64 7) fun t75 =>
 aTest t75
 (zq86_j6 t2 t3 t20 t75 H K)
 (aBin .eql false t20 (.int .i64 8) fun t76 =>
 zq86_j6 t2 t3 t20 t76 H K)))))
noncomputable def zq86_j2_c : Code := codeAt [1, 1, 1, 1, 0, 1] zq86_c
def zq86_j2_Q (K : Kt) : AExit → List AV → Heap → Prop := contAt tP zq86_M [1, 1, 1, 1, 0, 1] zq86_c (retQ tP zq86_r K)
def zq86_j2 (t2 t3 t5 t6 t20 : AV) (H : Heap) (K : Kt) : Prop := AWp tP zq86_j2_c (zq86_j2_Q K) (ux 2 (t2 :: t3 :: ux 1 (t5 :: t6 :: ux 13 (t20 :: ux 88 [])))) H
def zq86_j2b (t2 t3 t5 t6 t20 : AV) (H : Heap) (K : Kt) : Prop :=
 aBin .eql false t20 (.int .i64 1) fun t22 =>
 aTest t22
 (zq86_j3 t2 t3 t5 t6 t20 t22 H K)
 (aBin .eql false t20 (.int .i64 2) fun t23 =>
 aTest t23
 (zq86_j3 t2 t3 t5 t6 t20 t23 H K)
 (aBin .eql false t20 (.int .i64 3) fun t24 =>
 zq86_j3 t2 t3 t5 t6 t20 t24 H K))
noncomputable def zq86_j1_c : Code := codeAt [1, 1] zq86_c
def zq86_j1_Q (K : Kt) : AExit → List AV → Heap → Prop := contAt tP zq86_M [1, 1] zq86_c (retQ tP zq86_r K)
def zq86_j1 (t2 t3 : AV) (H : Heap) (K : Kt) : Prop := AWp tP zq86_j1_c (zq86_j1_Q K) (ux 2 (t2 :: t3 :: ux 105 [])) H
def zq86_j1b (t2 t3 : AV) (H : Heap) (K : Kt) : Prop :=
 aLoad false 1 t2 H fun t14 =>
 aNil t14 fun t15 =>
 aFld 2 t15 fun t16 =>
 aLoad false 1 t16 H fun t17 =>
 aBin .lss false t17 (.int .i64 0) fun t18 =>
 aTest t18
 (K (.bool false) H)
 (aFld 0 t3 fun t19 =>
 aLoad false 1 t19 H fun t20 =>
 zq86_j2 t2 t3 (.int .i64 0) (.int .i64 0) t20 H K)
def zq86 (t0 t1 : AV) (H : Heap) (K : Kt) : Prop :=
 aBox t0 H fun t2 H =>
 aBox t1 H fun t3 H =>
 aLoad false 1 t2 H fun t7 =>
 aNil t7 fun t8 =>
 aFld 2 t8 fun t9 =>
 aLoad false 1 t9 H fun t10 =>
 aBin .sub false t10 (.int .i64 1) fun t11 =>
 aNil t7 fun t12 =>
 aFld 2 t12 fun t13 =>
 aStore 1 t13 t11 H fun H =>
 zq86_j1 t2 t3 H K
theorem zq86_j6_eq (t2 t3 t20 t74 : AV) (H : Heap) (K : Kt) : awp tP zq86_M zq86_j6_c (zq86_j6_Q K) (ux 2 (t2 :: t3 :: ux 16 (t20 :: ux 53 (t74 :: ux 34 [])))) H = zq86_j6b t2 t3 t20 t74 H K := by kernel_rfl
theorem zq86_j6_ok {t2 t3 t20 t74 : AV} {H : Heap} {K : Kt} (h : HSc H → zq86_j6b t2 t3 t20 t74 H K) : zq86_j6 t2 t3 t20 t74 H K :=
 fun B w G a hH hF hd => awp_sound (M := zq86_M) _ _ _ _ ((zq86_j6_eq t2 t3 t20 t74 H K).mpr (h hH.sc)) B w G a hH hF hd
theorem zq86_j3_eq (t2 t3 t5 t6 t20 t21 : AV) (H : Heap) (K : Kt) : awp tP zq86_M zq86_j3_c (zq86_j3_Q K) (ux 2 (t2 :: t3 :: ux 1 (t5 :: t6 :: ux 13 (t20 :: t21 :: ux 87 [])))) H = zq86_j3b t2 t3 t5 t6 t20 t21 H K := by kernel_rfl
theorem zq86_j3_ok {t2 t3 t5 t6 t20 t21 : AV} {H : Heap} {K : Kt} (h : HSc H → zq86_j3b t2 t3 t5 t6 t20 t21 H K) : zq86_j3 t2 t3 t5 t6 t20 t21 H K :=
 fun B w G a hH hF hd => awp_sound (M := zq86_M) _ _ _ _ ((zq86_j3_eq t2 t3 t5 t6 t20 t21 H K).mpr (h hH.sc)) B w G a hH hF hd
theorem zq86_j2_eq (t2 t3 t5 t6 t20 : AV) (H : Heap) (K : Kt) : awp tP zq86_M zq86_j2_c (zq86_j2_Q K) (ux 2 (t2 :: t3 :: ux 1 (t5 :: t6 :: ux 13 (t20 :: ux 88 [])))) H = zq86_j2b t2 t3 t5 t6 t20 H K := by kernel_rfl
theorem zq86_j2_ok {t2 t3 t5 t6 t20 : AV} {H : Heap} {K : Kt} (h : HSc H → zq86_j2b t2 t3 t5 t6 t20 H K) : zq86_j2 t2 t3 t5 t6 t20 H K :=
 fun B w G a hH hF hd => awp_sound (M := zq86_M) _ _ _ _ ((zq86_j2_eq t2 t3 t5 t6 t20 H K).mpr (h hH.sc)) B w G a hH hF hd
theorem zq86_j1_eq (t2 t3 : AV) (H : Heap) (K : Kt) : awp tP zq86_M zq86_j1_c (zq86_j1_Q K) (ux 2 (t2 :: t3 :: ux 105 [])) H = zq86_j1b t2 t3 H K := by kernel_rfl
theorem zq86_j1_ok {t2 t3 : AV} {H : Heap} {K : Kt} (h : HSc H → zq86_j1b t2 t3 H K) : zq86_j1 t2 t3 H K :=
 fun B w G a hH hF hd => awp_sound (M := zq86_M) _ _ _ _ ((zq86_j1_eq t2 t3 H K).mpr (h hH.sc)) B w G a hH hF hd
theorem zq86_eq (t0 t1 : AV) (H : Heap) (K : Kt) : awp tP zq86_M zq86_c (retQ tP zq86_r K) (t0 :: t1 :: List.replicate 107 .unk) H = zq86 t0 t1 H K := by kernel_rfl
theorem zq86_ok {t0 t1 : AV} {H : Heap} {K : Kt} (h : HSc H → zq86 t0 t1 H K) : ACalls tP n_zq86 [t0, t1] H K :=
 acalls_body (M := zq86_M) Try.func88 (c := zq86_c) (by kernel_rfl) (fun hs => (zq86_eq t0 t1 H K).mpr (h hs))
def zq102_M (_ : Nat) : List Bool := []
noncomputable def zq102_c : Code := Try.f104.body.getD .skip
noncomputable def zq102_r : List ResultVar := Try.f104.results.toList
def zq102 (t0 t1 : AV) (H : Heap) (K : Kt) : Prop :=
 aBox t0 H fun t2 H =>
 aLoad false 1 t1 H fun t4 =>
 aLoad true 3 t2 H fun t5 =>
 ACalls tP n_zq86 [t4, t5] H fun t6 H =>
 aUn .not t6 fun t7 =>
 K t7 H
theorem zq102_eq (t0 t1 : AV) (H : Heap) (K : Kt) : awp tP zq102_M zq102_c (retQ tP zq102_r K) (t0 :: t1 :: List.replicate 6 .unk) H = zq102 t0 t1 H K := by kernel_rfl
theorem zq102_ok {t0 t1 : AV} {H : Heap} {K : Kt} (h : HSc H → zq102 t0 t1 H K) : ACalls tP n_zq102 [t0, t1] H K :=
 acalls_body (M := zq102_M) Try.func104 (c := zq102_c) (by kernel_rfl) (fun hs => (zq102_eq t0 t1 H K).mpr (h hs))
def zq69_M (_ : Nat) : List Bool := []
noncomputable def zq69_c : Code := Try.f71.body.getD .skip
noncomputable def zq69_r : List ResultVar := Try.f71.results.toList
def zq69 (t0 t1 : AV) (H : Heap) (K : Kt) : Prop :=
 aBox t0 H fun t2 H =>
 aBox t1 H fun t3 H =>
 aFld 0 t2 fun t5 =>
 aLoad false 1 t5 H fun t6 =>
 aFld 0 t3 fun t7 =>
 aLoad false 1 t7 H fun t8 =>
 aBin .eql false t6 t8 fun t9 =>
 aGuardJ t9 true H (fun k => aFld 1 t2 (k · H)) fun t11 H =>
 aGuardJ t9 true H (fun k => aLoad false 1 t11 H (k · H)) fun t12 H =>
 aGuardJ t9 true H (fun k => aFld 1 t3 (k · H)) fun t13 H =>
 aGuardJ t9 true H (fun k => aLoad false 1 t13 H (k · H)) fun t14 H =>
 aGuardJ t9 true H (fun k => aBin .eql false t12 t14 (k · H)) fun t15 H =>
 aPick t9 t15 (.bool false) fun t16 =>
 aGuardJ t16 true H (fun k => aFld 2 t2 (k · H)) fun t18 H =>
 aGuardJ t16 true H (fun k => aLoad false 1 t18 H (k · H)) fun t19 H =>
 aGuardJ t16 true H (fun k => aFld 2 t3 (k · H)) fun t20 H =>
 aGuardJ t16 true H (fun k => aLoad false 1 t20 H (k · H)) fun t21 H =>
 aGuardJ t16 true H (fun k => ACalls tP n_zq87 [t19, t21, (.fn n_zq69 [])] H k) fun t22 H =>
 aPick t16 t22 (.bool false) fun t23 =>
 K t23 H
theorem zq69_eq (t0 t1 : AV) (H : Heap) (K : Kt) : awp tP zq69_M zq69_c (retQ tP zq69_r K) (t0 :: t1 :: List.replicate 22 .unk) H = zq69 t0 t1 H K := by kernel_rfl
theorem zq69_ok {t0 t1 : AV} {H : Heap} {K : Kt} (h : HSc H → zq69 t0 t1 H K) : ACalls tP n_zq69 [t0, t1] H K :=
 acalls_body (M := zq69_M) Try.func71 (c := zq69_c) (by kernel_rfl) (fun hs => (zq69_eq t0 t1 H K).mpr (h hs))
def zq87_M : Nat → List Bool
 | 4 => rl false [1,2,12,3,14]
 | _ => []
noncomputable def zq87_c : Code := Try.f89.body.getD .skip
noncomputable def zq87_r : List ResultVar := Try.f89.results.toList
def zq87_fr4 (t1 t2 t15 t16 t17 : AV) : List AV := ux 1 (t1 :: t2 :: ux 12 (t15 :: t16 :: t17 :: ux 14 []))
def zq87_m4 : List Bool := zq87_M 4
noncomputable def zq87_c4 : Code := codeAt [1, 1, 0, 1, 0, 0] zq87_c
def zq87_Q4 (K : Kt) : AExit → List AV → Heap → Prop := contAt tP zq87_M [1, 1, 0, 1, 0] zq87_c (retQ tP zq87_r K)
def zq87_l4 (t1 t2 t15 t16 t17 : AV) (H : Heap) (K : Kt) : Prop := ALoop tP zq87_c4 (zq87_Q4 K) (zq87_fr4 t1 t2 t15 t16 t17) H
def zq87_b4 (t1 t2 t15 t16 t17 : AV) (H : Heap) (K : Kt) (Kb4 : Lt) : Prop :=
 aBin .lss false t17 t16 fun t18 =>
 aTest t18
 (aIdxA 3 t15 t17 fun t20 =>
 aLoad true 3 t20 H fun t21 =>
 aNew [(.int .i64 0), (.int .i64 0), .snil] H fun t8 H =>
 aStore 3 t8 t21 H fun H =>
 aIdxA 3 t1 t17 fun t24 =>
 aLoad true 3 t24 H fun t25 =>
 aNew [(.int .i64 0), (.int .i64 0), .snil] H fun t9 H =>
 aStore 3 t9 t25 H fun H =>
 aLoad true 3 t8 H fun t27 =>
 aLoad true 3 t9 H fun t28 =>
 aCallV tP t2 [t27, t28] H fun t29 H =>
 aUn .not t29 fun t30 =>
 aTest t30
 (K (.bool false) H)
 (aBin .add false t17 (.int .i64 1) fun t31 =>
 Kb4 (zq87_fr4 t1 t2 t15 t16 t31) H))
 (K (.bool true) H)
def zq87 (t0 t1 t2 : AV) (H : Heap) (K : Kt) : Prop :=
 aLen 1 t0 fun t11 =>
 aLen 1 t1 fun t13 =>
 aBin .neq false t11 t13 fun t14 =>
 aTest t14
 (K (.bool false) H)
 (aLen 1 t0 fun t16 =>
 zq87_l4 t1 t2 t0 t16 (.int .i64 0) H K)
theorem zq87_b4_eq (t1 t2 t15 t16 t17 : AV) (H : Heap) (K : Kt) (Kb4 : Lt) : awp tP zq87_M zq87_c4 (roundQ zq87_m4 Kb4 (zq87_Q4 K)) (zq87_fr4 t1 t2 t15 t16 t17) H = zq87_b4 t1 t2 t15 t16 t17 H K Kb4 := by kernel_rfl
theorem zq87_loop4 {t1 t2 t15 t16 t17 : AV} {H : Heap} {K : Kt} (Inv : Nat → AV → Heap → Prop) (n : Nat) (h0 : HSc H → Inv n t17 H)
   (round : ∀ n t17 H', Inv n t17 H' → HSc H' → H.length ≤ H'.length → (zq87_fr4 t1 t2 t15 t16 t17).all (AV.sc H'.length) = true → ∀ Kb4 : Lt, (∀ F'' H'', (∃ n', n' < n ∧ Back H.length (fun F2 H2 => ∃ t17, F2 = zq87_fr4 t1 t2 t15 t16 t17 ∧ Inv n' t17 H2) F'' H'') → Kb4 F'' H'') → zq87_b4 t1 t2 t15 t16 t17 H' K Kb4) : zq87_l4 t1 t2 t15 t16 t17 H K :=
 aloop (M := zq87_M) zq87_m4 (fun n F H => ∃ t17, F = zq87_fr4 t1 t2 t15 t16 t17 ∧ Inv n t17 H) n (fun hs _ => ⟨t17, rfl, h0 hs⟩) (fun n F H' ⟨t17, hF, hI⟩ h1 h2 h3 => by subst hF; rw [zq87_b4_eq]; exact round n t17 H' hI h1 h2 h3 _ (fun _ _ h => h))
theorem zq87_eq (t0 t1 t2 : AV) (H : Heap) (K : Kt) : awp tP zq87_M zq87_c (retQ tP zq87_r K) (t0 :: t1 :: t2 :: List.replicate 29 .unk) H = zq87 t0 t1 t2 H K := by kernel_rfl
theorem zq87_ok {t0 t1 t2 : AV} {H : Heap} {K : Kt} (h : HSc H → zq87 t0 t1 t2 H K) : ACalls tP n_zq87 [t0, t1, t2] H K :=
 acalls_body (M := zq87_M) Try.func89 (c := zq87_c) (by kernel_rfl) (fun hs => (zq87_eq t0 t1 t2 H K).mpr (h hs))
def zq66_M (_ : Nat) : List Bool := []
noncomputable def zq66_c : Code := Try.f68.body.getD .skip
noncomputable def zq66_r : List ResultVar := Try.f68.results.toList
def zq66 (t0 t1 : AV) (H : Heap) (K : Kt) : Prop :=
 ACalls tP n_zq85 [t0, t1] H fun t7 H =>
 aBin .geq false t7 (.int .i64 0) fun t8 =>
 K t8 H
theorem zq66_eq (t0 t1 : AV) (H : Heap) (K : Kt) : awp tP zq66_M zq66_c (retQ tP zq66_r K) (t0 :: t1 :: List.replicate 7 .unk) H = zq66 t0 t1 H K := by kernel_rfl
theorem zq66_ok {t0 t1 : AV} {H : Heap} {K : Kt} (h : HSc H → zq66 t0 t1 H K) : ACalls tP n_zq66 [t0, t1] H K :=
 acalls_body (M := zq66_M) Try.func68 (c := zq66_c) (by kernel_rfl) (fun hs => (zq66_eq t0 t1 H K).mpr (h hs))
def zq85_M : Nat → List Bool
 | 2 => rl false [0,2,5,2,10]
 | _ => []
noncomputable def zq85_c : Code := Try.f87.body.getD .skip
noncomputable def zq85_r : List ResultVar := Try.f87.results.toList
def zq85_fr2 (t0 t1 t7 t8 : AV) : List AV := t0 :: t1 :: ux 5 (t7 :: t8 :: ux 10 [])
def zq85_m2 : List Bool := zq85_M 2
noncomputable def zq85_c2 : Code := codeAt [1, 0, 1, 0, 0] zq85_c
def zq85_Q2 (K : Kt) : AExit → List AV → Heap → Prop := contAt tP zq85_M [1, 0, 1, 0] zq85_c (retQ tP zq85_r K)
def zq85_l2 (t0 t1 t7 t8 : AV) (H : Heap) (K : Kt) : Prop := ALoop tP zq85_c2 (zq85_Q2 K) (zq85_fr2 t0 t1 t7 t8) H
def zq85_b2 (t0 t1 t7 t8 : AV) (H : Heap) (K : Kt) (Kb2 : Lt) : Prop :=
 aBin .lss false t8 t7 fun t9 =>
 aTest t9
 (aIdxA 3 t0 t8 fun t14 =>
 aLoad true 3 t14 H fun t15 =>
 aCallV tP t1 [t15] H fun t16 H =>
 aTest t16
 (K t8 H)
 (aBin .add false t8 (.int .i64 1) fun t18 =>
 Kb2 (zq85_fr2 t0 t1 t7 t18) H))
 (K (.int .i64 (-1)) H)
def zq85 (t0 t1 : AV) (H : Heap) (K : Kt) : Prop :=
 aLen 1 t0 fun t7 =>
 zq85_l2 t0 t1 t7 (.int .i64 0) H K
theorem zq85_b2_eq (t0 t1 t7 t8 : AV) (H : Heap) (K : Kt) (Kb2 : Lt) : awp tP zq85_M zq85_c2 (roundQ zq85_m2 Kb2 (zq85_Q2 K)) (zq85_fr2 t0 t1 t7 t8) H = zq85_b2 t0 t1 t7 t8 H K Kb2 := by kernel_rfl
theorem zq85_loop2 {t0 t1 t7 t8 : AV} {H : Heap} {K : Kt} (Inv : Nat → AV → Heap → Prop) (n : Nat) (h0 : HSc H → Inv n t8 H)
   (round : ∀ n t8 H', Inv n t8 H' → HSc H' → H.length ≤ H'.length → (zq85_fr2 t0 t1 t7 t8).all (AV.sc H'.length) = true → ∀ Kb2 : Lt, (∀ F'' H'', (∃ n', n' < n ∧ Back H.length (fun F2 H2 => ∃ t8, F2 = zq85_fr2 t0 t1 t7 t8 ∧ Inv n' t8 H2) F'' H'') → Kb2 F'' H'') → zq85_b2 t0 t1 t7 t8 H' K Kb2) : zq85_l2 t0 t1 t7 t8 H K :=
 aloop (M := zq85_M) zq85_m2 (fun n F H => ∃ t8, F = zq85_fr2 t0 t1 t7 t8 ∧ Inv n t8 H) n (fun hs _ => ⟨t8, rfl, h0 hs⟩) (fun n F H' ⟨t8, hF, hI⟩ h1 h2 h3 => by subst hF; rw [zq85_b2_eq]; exact round n t8 H' hI h1 h2 h3 _ (fun _ _ h => h))
theorem zq85_eq (t0 t1 : AV) (H : Heap) (K : Kt) : awp tP zq85_M zq85_c (retQ tP zq85_r K) (t0 :: t1 :: List.replicate 17 .unk) H = zq85 t0 t1 H K := by kernel_rfl
theorem zq85_ok {t0 t1 : AV} {H : Heap} {K : Kt} (h : HSc H → zq85 t0 t1 H K) : ACalls tP n_zq85 [t0, t1] H K :=
 acalls_body (M := zq85_M) Try.func87 (c := zq85_c) (by kernel_rfl) (fun hs => (zq85_eq t0 t1 H K).mpr (h hs))
def zq103_M : Nat → List Bool
 | 8 => rl false [2,1,1,1,3,2,49,3,46]
 | 13 => rl false [2,1,1,1,3,2,67,3,28]
 | 20 => rl false [4,1,9,1,78,3,12]
 | _ => []
noncomputable def zq103_c : Code := Try.f105.body.getD .skip
noncomputable def zq103_r : List ResultVar := Try.f105.results.toList
def zq103_fr8 (t2 t4 t8 t9 t59 t60 t61 : AV) : List AV := ux 2 (t2 :: ux 1 (t4 :: ux 3 (t8 :: t9 :: ux 49 (t59 :: t60 :: t61 :: ux 46 []))))
def zq103_m8 : List Bool := zq103_M 8
noncomputable def zq103_c8 : Code := codeAt [1, 1, 1, 1, 1, 0, 1, 0, 0] zq103_c
def zq103_Q8 (K : Kt) : AExit → List AV → Heap → Prop := contAt tP zq103_M [1, 1, 1, 1, 1, 0, 1, 0] zq103_c (retQ tP zq103_r K)
def zq103_l8 (t2 t4 t8 t9 t59 t60 t61 : AV) (H : Heap) (K : Kt) : Prop := ALoop tP zq103_c8 (zq103_Q8 K) (zq103_fr8 t2 t4 t8 t9 t59 t60 t61) H
def zq103_fr13 (t2 t4 t8 t9 t77 t78 t79 : AV) : List AV := ux 2 (t2 :: ux 1 (t4 :: ux 3 (t8 :: t9 :: ux 67 (t77 :: t78 :: t79 :: ux 28 []))))
def zq103_m13 : List Bool := zq103_M 13
noncomputable def zq103_c13 : Code := codeAt [1, 1, 1, 1, 1, 1, 0, 1, 0, 0] zq103_c
def zq103_Q13 (K : Kt) : AExit → List AV → Heap → Prop := contAt tP zq103_M [1, 1, 1, 1, 1, 1, 0, 1, 0] zq103_c (retQ tP zq103_r K)
def zq103_l13 (t2 t4 t8 t9 t77 t78 t79 : AV) (H : Heap) (K : Kt) : Prop := ALoop tP zq103_c13 (zq103_Q13 K) (zq103_fr13 t2 t4 t8 t9 t77 t78 t79) H
def zq103_fr20 (t4 t14 t93 t94 t95 : AV) : List AV := ux 4 (t4 :: ux 9 (t14 :: ux 78 (t93 :: t94 :: t95 :: ux 12 [])))
def zq103_m20 : List Bool := zq103_M 20
noncomputable def zq103_c20 : Code := codeAt [1, 1, 1, 1, 1, 1, 1, 1, 0, 1, 0, 0] zq103_c
def zq103_Q20 (K : Kt) : AExit → List AV → Heap → Prop := contAt tP zq103_M [1, 1, 1, 1, 1, 1, 1, 1, 0, 1, 0] zq103_c (retQ tP zq103_r K)
def zq103_l20 (t4 t14 t93 t94 t95 : AV) (H : Heap) (K : Kt) : Prop := ALoop tP zq103_c20 (zq103_Q20 K) (zq103_fr20 t4 t14 t93 t94 t95) H
def zq103_b20 (t4 t14 t93 t94 t95 : AV) (H : Heap) (K : Kt) (Kb20 : Lt) : Prop :=
 aBin .lss false t95 t94 fun t96 =>
 aTest t96
 (aIdxA 3 t93 t95 fun t97 =>
 aLoad true 3 t97 H fun t98 =>
 aNew [(.int .i64 0), (.int .i64 0), .snil] H fun t16 H =>
 aStore 3 t16 t98 H fun H =>
 aLoad true 3 t16 H fun t100 =>
 aFld 2 t4 fun t101 =>
 aLoad false 1 t101 H fun t102 =>
 ACalls tP n_zq124 [t100, t102] H fun t103 H =>
 aBuildS 3 [(.int .i64 0), (.int .i64 0), .snil] 1 [(0, t103)] fun t104 =>
 aAppend e_api_Type 3 40 t14 t104 H fun t105 H =>
 aBin .add false t95 (.int .i64 1) fun t106 =>
 Kb20 (zq103_fr20 t4 t105 t93 t94 t106) H)
 (aRet [t14, (.bool true)] (K · H))
def zq103_b13 (t2 t4 t8 t9 t77 t78 t79 : AV) (H : Heap) (K : Kt) (Kb13 : Lt) : Prop :=
 aBin .lss false t79 t78 fun t80 =>
 aTest t80
 (aIdxA 3 t77 t79 fun t81 =>
 aLoad true 3 t81 H fun t82 =>
 aNew [(.int .i64 0), (.int .i64 0), .snil] H fun t13 H =>
 aStore 3 t13 t82 H fun H =>
 aLoad true 3 t13 H fun t83 =>
 ACalls tP n_zq123 [t83, t9] H fun t85 H =>
 aBin .gtr false t85 (.int .i64 200) fun t86 =>
 aTest t86
 (aRet [.snil, (.bool false)] (K · H))
 (aBin .add false t79 (.int .i64 1) fun t87 =>
 Kb13 (zq103_fr13 t2 t4 t8 t9 t77 t78 t87) H))
 (aFld 2 t8 fun t88 =>
 aLoad false 1 t88 H fun t89 =>
 aIdxA 2 t89 t2 fun t91 =>
 aFld 1 t91 fun t92 =>
 aLoad false 1 t92 H fun t93 =>
 aLen 1 t93 fun t94 =>
 zq103_l20 t4 .snil t93 t94 (.int .i64 0) H K)
def zq103_b8 (t2 t4 t8 t9 t59 t60 t61 : AV) (H : Heap) (K : Kt) (Kb8 : Lt) : Prop :=
 aBin .lss false t61 t60 fun t62 =>
 aTest t62
 (aIdxA 3 t59 t61 fun t64 =>
 aLoad true 3 t64 H fun t65 =>
 aNew [(.int .i64 0), (.int .i64 0), .snil] H fun t11 H =>
 aStore 3 t11 t65 H fun H =>
 aLoad true 3 t11 H fun t68 =>
 ACalls tP n_zq122 [t68] H fun t69 H =>
 aIdxA 1 t9 t61 fun t70 =>
 aStore 1 t70 t69 H fun H =>
 aBin .add false t61 (.int .i64 1) fun t71 =>
 Kb8 (zq103_fr8 t2 t4 t8 t9 t59 t60 t71) H)
 (aFld 2 t8 fun t72 =>
 aLoad false 1 t72 H fun t73 =>
 aIdxA 2 t73 t2 fun t75 =>
 aFld 1 t75 fun t76 =>
 aLoad false 1 t76 H fun t77 =>
 aLen 1 t77 fun t78 =>
 zq103_l13 t2 t4 t8 t9 t77 t78 (.int .i64 0) H K)
def zq103 (t0 t1 t2 : AV) (H : Heap) (K : Kt) : Prop :=
 aBox t1 H fun t4 H =>
 aFld 0 t4 fun t17 =>
 aLoad false 1 t17 H fun t18 =>
 aBin .neq false t18 (.int .i64 5) fun t19 =>
 aGuardJ t19 false H (fun k => aFld 1 t4 (k · H)) fun t21 H =>
 aGuardJ t19 false H (fun k => aLoad false 1 t21 H (k · H)) fun t22 H =>
 aGuardJ t19 false H (fun k => aBin .lss false t22 (.int .i64 0) (k · H)) fun t23 H =>
 aPick t19 (.bool true) t23 fun t24 =>
 aGuardJ t24 false H (fun k => aFld 1 t4 (k · H)) fun t26 H =>
 aGuardJ t24 false H (fun k => aLoad false 1 t26 H (k · H)) fun t27 H =>
 aGuardJ t24 false H (fun k => k t0 H) fun t28 H =>
 aGuardJ t24 false H (fun k => aLen 1 t28 (k · H)) fun t29 H =>
 aGuardJ t24 false H (fun k => aBin .geq false t27 t29 (k · H)) fun t30 H =>
 aPick t24 (.bool true) t30 fun t31 =>
 aTest t31
 (aRet [.snil, (.bool false)] (K · H))
 (aFld 1 t4 fun t33 =>
 aLoad false 1 t33 H fun t34 =>
 aIdxA 3 t0 t34 fun t35 =>
 aLoad true 3 t35 H fun t36 =>
 aNew [(.str []), (.int .i64 0), .snil] H fun t8 H =>
 aStore 3 t8 t36 H fun H =>
 aFld 2 t4 fun t37 =>
 aLoad false 1 t37 H fun t38 =>
 aLen 1 t38 fun t39 =>
 aFld 1 t8 fun t40 =>
 aLoad false 1 t40 H fun t41 =>
 aBin .neq false t39 t41 fun t42 =>
 aGuardJ t42 false H (fun k => k t2 H) fun t44 H =>
 aGuardJ t42 false H (fun k => aBin .lss false t44 (.int .i64 0) (k · H)) fun t45 H =>
 aPick t42 (.bool true) t45 fun t46 =>
 aGuardJ t46 false H (fun k => k t2 H) fun t48 H =>
 aGuardJ t46 false H (fun k => aFld 2 t8 (k · H)) fun t49 H =>
 aGuardJ t46 false H (fun k => aLoad false 1 t49 H (k · H)) fun t50 H =>
 aGuardJ t46 false H (fun k => aLen 1 t50 (k · H)) fun t51 H =>
 aGuardJ t46 false H (fun k => aBin .geq false t48 t51 (k · H)) fun t52 H =>
 aPick t46 (.bool true) t52 fun t53 =>
 aTest t53
 (aRet [.snil, (.bool false)] (K · H))
 (aFld 2 t4 fun t54 =>
 aLoad false 1 t54 H fun t55 =>
 aLen 1 t55 fun t56 =>
 aMake 8 [(.int .i64 0)] t56 t56 H fun t57 H =>
 aFld 2 t4 fun t58 =>
 aLoad false 1 t58 H fun t59 =>
 aLen 1 t59 fun t60 =>
 zq103_l8 t2 t4 t8 t57 t59 t60 (.int .i64 0) H K))
theorem zq103_b20_eq (t4 t14 t93 t94 t95 : AV) (H : Heap) (K : Kt) (Kb20 : Lt) : awp tP zq103_M zq103_c20 (roundQ zq103_m20 Kb20 (zq103_Q20 K)) (zq103_fr20 t4 t14 t93 t94 t95) H = zq103_b20 t4 t14 t93 t94 t95 H K Kb20 := by kernel_rfl
theorem zq103_loop20 {t4 t14 t93 t94 t95 : AV} {H : Heap} {K : Kt} (Inv : Nat → AV → AV → Heap → Prop) (n : Nat) (h0 : HSc H → Inv n t14 t95 H)
   (round : ∀ n t14 t95 H', Inv n t14 t95 H' → HSc H' → H.length ≤ H'.length → (zq103_fr20 t4 t14 t93 t94 t95).all (AV.sc H'.length) = true → ∀ Kb20 : Lt, (∀ F'' H'', (∃ n', n' < n ∧ Back H.length (fun F2 H2 => ∃ t14 t95, F2 = zq103_fr20 t4 t14 t93 t94 t95 ∧ Inv n' t14 t95 H2) F'' H'') → Kb20 F'' H'') → zq103_b20 t4 t14 t93 t94 t95 H' K Kb20) : zq103_l20 t4 t14 t93 t94 t95 H K :=
 aloop (M := zq103_M) zq103_m20 (fun n F H => ∃ t14 t95, F = zq103_fr20 t4 t14 t93 t94 t95 ∧ Inv n t14 t95 H) n (fun hs _ => ⟨t14, t95, rfl, h0 hs⟩) (fun n F H' ⟨t14, t95, hF, hI⟩ h1 h2 h3 => by subst hF; rw [zq103_b20_eq]; exact round n t14 t95 H' hI h1 h2 h3 _ (fun _ _ h => h))
theorem zq103_b13_eq (t2 t4 t8 t9 t77 t78 t79 : AV) (H : Heap) (K : Kt) (Kb13 : Lt) : awp tP zq103_M zq103_c13 (roundQ zq103_m13 Kb13 (zq103_Q13 K)) (zq103_fr13 t2 t4 t8 t9 t77 t78 t79) H = zq103_b13 t2 t4 t8 t9 t77 t78 t79 H K Kb13 := by kernel_rfl
theorem zq103_loop13 {t2 t4 t8 t9 t77 t78 t79 : AV} {H : Heap} {K : Kt} (Inv : Nat → AV → Heap → Prop) (n : Nat) (h0 : HSc H → Inv n t79 H)
   (round : ∀ n t79 H', Inv n t79 H' → HSc H' → H.length ≤ H'.length → (zq103_fr13 t2 t4 t8 t9 t77 t78 t79).all (AV.sc H'.length) = true → ∀ Kb13 : Lt, (∀ F'' H'', (∃ n', n' < n ∧ Back H.length (fun F2 H2 => ∃ t79, F2 = zq103_fr13 t2 t4 t8 t9 t77 t78 t79 ∧ Inv n' t79 H2) F'' H'') → Kb13 F'' H'') → zq103_b13 t2 t4 t8 t9 t77 t78 t79 H' K Kb13) : zq103_l13 t2 t4 t8 t9 t77 t78 t79 H K :=
 aloop (M := zq103_M) zq103_m13 (fun n F H => ∃ t79, F = zq103_fr13 t2 t4 t8 t9 t77 t78 t79 ∧ Inv n t79 H) n (fun hs _ => ⟨t79, rfl, h0 hs⟩) (fun n F H' ⟨t79, hF, hI⟩ h1 h2 h3 => by subst hF; rw [zq103_b13_eq]; exact round n t79 H' hI h1 h2 h3 _ (fun _ _ h => h))
theorem zq103_b8_eq (t2 t4 t8 t9 t59 t60 t61 : AV) (H : Heap) (K : Kt) (Kb8 : Lt) : awp tP zq103_M zq103_c8 (roundQ zq103_m8 Kb8 (zq103_Q8 K)) (zq103_fr8 t2 t4 t8 t9 t59 t60 t61) H = zq103_b8 t2 t4 t8 t9 t59 t60 t61 H K Kb8 := by kernel_rfl
theorem zq103_loop8 {t2 t4 t8 t9 t59 t60 t61 : AV} {H : Heap} {K : Kt} (Inv : Nat → AV → Heap → Prop) (n : Nat) (h0 : HSc H → Inv n t61 H)
   (round : ∀ n t61 H', Inv n t61 H' → HSc H' → H.length ≤ H'.length → (zq103_fr8 t2 t4 t8 t9 t59 t60 t61).all (AV.sc H'.length) = true → ∀ Kb8 : Lt, (∀ F'' H'', (∃ n', n' < n ∧ Back H.length (fun F2 H2 => ∃ t61, F2 = zq103_fr8 t2 t4 t8 t9 t59 t60 t61 ∧ Inv n' t61 H2) F'' H'') → Kb8 F'' H'') → zq103_b8 t2 t4 t8 t9 t59 t60 t61 H' K Kb8) : zq103_l8 t2 t4 t8 t9 t59 t60 t61 H K :=
 aloop (M := zq103_M) zq103_m8 (fun n F H => ∃ t61, F = zq103_fr8 t2 t4 t8 t9 t59 t60 t61 ∧ Inv n t61 H) n (fun hs _ => ⟨t61, rfl, h0 hs⟩) (fun n F H' ⟨t61, hF, hI⟩ h1 h2 h3 => by subst hF; rw [zq103_b8_eq]; exact round n t61 H' hI h1 h2 h3 _ (fun _ _ h => h))
theorem zq103_eq (t0 t1 t2 : AV) (H : Heap) (K : Kt) : awp tP zq103_M zq103_c (retQ tP zq103_r K) (t0 :: t1 :: t2 :: List.replicate 105 .unk) H = zq103 t0 t1 t2 H K := by kernel_rfl
theorem zq103_ok {t0 t1 t2 : AV} {H : Heap} {K : Kt} (h : HSc H → zq103 t0 t1 t2 H K) : ACalls tP n_zq103 [t0, t1, t2] H K :=
 acalls_body (M := zq103_M) Try.func105 (c := zq103_c) (by kernel_rfl) (fun hs => (zq103_eq t0 t1 t2 H K).mpr (h hs))
def zq122_M : Nat → List Bool
 | 3 => rl false [3,1,3,3,9]
 | _ => []
noncomputable def zq122_c : Code := Try.f124.body.getD .skip
noncomputable def zq122_r : List ResultVar := Try.f124.results.toList
def zq122_fr3 (t3 t7 t8 t9 : AV) : List AV := ux 3 (t3 :: ux 3 (t7 :: t8 :: t9 :: ux 9 []))
def zq122_m3 : List Bool := zq122_M 3
noncomputable def zq122_c3 : Code := codeAt [1, 1, 0, 1, 0, 0] zq122_c
def zq122_Q3 (K : Kt) : AExit → List AV → Heap → Prop := contAt tP zq122_M [1, 1, 0, 1, 0] zq122_c (retQ tP zq122_r K)
def zq122_l3 (t3 t7 t8 t9 : AV) (H : Heap) (K : Kt) : Prop := ALoop tP zq122_c3 (zq122_Q3 K) (zq122_fr3 t3 t7 t8 t9) H
def zq122_b3 (t3 t7 t8 t9 : AV) (H : Heap) (K : Kt) (Kb3 : Lt) : Prop :=
 aBin .lss false t9 t8 fun t10 =>
 aTest t10
 (aIdxA 3 t7 t9 fun t11 =>
 aLoad true 3 t11 H fun t12 =>
 aNew [(.int .i64 0), (.int .i64 0), .snil] H fun t5 H =>
 aStore 3 t5 t12 H fun H =>
 aLoad true 3 t5 H fun t14 =>
 ACalls tP n_zq122 [t14] H fun t15 H =>
 aBin .add false t3 t15 fun t16 =>
 aBin .add false t9 (.int .i64 1) fun t17 =>
 Kb3 (zq122_fr3 t16 t7 t8 t17) H)
 (K t3 H)
def zq122 (t0 : AV) (H : Heap) (K : Kt) : Prop :=
 aBox t0 H fun t1 H =>
 aFld 2 t1 fun t6 =>
 aLoad false 1 t6 H fun t7 =>
 aLen 1 t7 fun t8 =>
 zq122_l3 (.int .i64 1) t7 t8 (.int .i64 0) H K
theorem zq122_b3_eq (t3 t7 t8 t9 : AV) (H : Heap) (K : Kt) (Kb3 : Lt) : awp tP zq122_M zq122_c3 (roundQ zq122_m3 Kb3 (zq122_Q3 K)) (zq122_fr3 t3 t7 t8 t9) H = zq122_b3 t3 t7 t8 t9 H K Kb3 := by kernel_rfl
theorem zq122_loop3 {t3 t7 t8 t9 : AV} {H : Heap} {K : Kt} (Inv : Nat → AV → AV → Heap → Prop) (n : Nat) (h0 : HSc H → Inv n t3 t9 H)
   (round : ∀ n t3 t9 H', Inv n t3 t9 H' → HSc H' → H.length ≤ H'.length → (zq122_fr3 t3 t7 t8 t9).all (AV.sc H'.length) = true → ∀ Kb3 : Lt, (∀ F'' H'', (∃ n', n' < n ∧ Back H.length (fun F2 H2 => ∃ t3 t9, F2 = zq122_fr3 t3 t7 t8 t9 ∧ Inv n' t3 t9 H2) F'' H'') → Kb3 F'' H'') → zq122_b3 t3 t7 t8 t9 H' K Kb3) : zq122_l3 t3 t7 t8 t9 H K :=
 aloop (M := zq122_M) zq122_m3 (fun n F H => ∃ t3 t9, F = zq122_fr3 t3 t7 t8 t9 ∧ Inv n t3 t9 H) n (fun hs _ => ⟨t3, t9, rfl, h0 hs⟩) (fun n F H' ⟨t3, t9, hF, hI⟩ h1 h2 h3 => by subst hF; rw [zq122_b3_eq]; exact round n t3 t9 H' hI h1 h2 h3 _ (fun _ _ h => h))
theorem zq122_eq (t0 : AV) (H : Heap) (K : Kt) : awp tP zq122_M zq122_c (retQ tP zq122_r K) (t0 :: List.replicate 18 .unk) H = zq122 t0 H K := by kernel_rfl
theorem zq122_ok {t0 : AV} {H : Heap} {K : Kt} (h : HSc H → zq122 t0 H K) : ACalls tP n_zq122 [t0] H K :=
 acalls_body (M := zq122_M) Try.func124 (c := zq122_c) (by kernel_rfl) (fun hs => (zq122_eq t0 H K).mpr (h hs))
def zq123_M : Nat → List Bool
 | 5 => rl false [1,1,3,1,23,3,12]
 | _ => []
noncomputable def zq123_c : Code := Try.f125.body.getD .skip
noncomputable def zq123_r : List ResultVar := Try.f125.results.toList
def zq123_fr5 (t1 t5 t29 t30 t31 : AV) : List AV := ux 1 (t1 :: ux 3 (t5 :: ux 23 (t29 :: t30 :: t31 :: ux 12 [])))
def zq123_m5 : List Bool := zq123_M 5
noncomputable def zq123_c5 : Code := codeAt [1, 1, 1, 0, 1, 0, 0] zq123_c
def zq123_Q5 (K : Kt) : AExit → List AV → Heap → Prop := contAt tP zq123_M [1, 1, 1, 0, 1, 0] zq123_c (retQ tP zq123_r K)
def zq123_l5 (t1 t5 t29 t30 t31 : AV) (H : Heap) (K : Kt) : Prop := ALoop tP zq123_c5 (zq123_Q5 K) (zq123_fr5 t1 t5 t29 t30 t31) H
def zq123_j2 (t5 : AV) (H : Heap) (K : Kt) : Prop :=
 K t5 H
def zq123_j1 (t5 : AV) (H : Heap) (K : Kt) : Prop :=
 zq123_j2 t5 H K
def zq123_b5 (t1 t5 t29 t30 t31 : AV) (H : Heap) (K : Kt) (Kb5 : Lt) : Prop :=
 aBin .lss false t31 t30 fun t32 =>
 aTest t32
 (aIdxA 3 t29 t31 fun t33 =>
 aLoad true 3 t33 H fun t34 =>
 aNew [(.int .i64 0), (.int .i64 0), .snil] H fun t7 H =>
 aStore 3 t7 t34 H fun H =>
 aLoad true 3 t7 H fun t36 =>
 ACalls tP n_zq123 [t36, t1] H fun t38 H =>
 aBin .add false t5 t38 fun t39 =>
 aBin .gtr false t39 (.int .i64 200) fun t41 =>
 aTest t41
 (zq123_j1 t39 H K)
 (aBin .add false t31 (.int .i64 1) fun t42 =>
 Kb5 (zq123_fr5 t1 t39 t29 t30 t42) H))
 (zq123_j1 t5 H K)
def zq123 (t0 t1 : AV) (H : Heap) (K : Kt) : Prop :=
 aBox t0 H fun t2 H =>
 aFld 0 t2 fun t8 =>
 aLoad false 1 t8 H fun t9 =>
 aBin .eql false t9 (.int .i64 4) fun t10 =>
 aGuardJ t10 true H (fun k => aFld 1 t2 (k · H)) fun t12 H =>
 aGuardJ t10 true H (fun k => aLoad false 1 t12 H (k · H)) fun t13 H =>
 aGuardJ t10 true H (fun k => aBin .geq false t13 (.int .i64 0) (k · H)) fun t14 H =>
 aPick t10 t14 (.bool false) fun t15 =>
 aGuardJ t15 true H (fun k => aFld 1 t2 (k · H)) fun t17 H =>
 aGuardJ t15 true H (fun k => aLoad false 1 t17 H (k · H)) fun t18 H =>
 aGuardJ t15 true H (fun k => k t1 H) fun t19 H =>
 aGuardJ t15 true H (fun k => aLen 1 t19 (k · H)) fun t20 H =>
 aGuardJ t15 true H (fun k => aBin .lss false t18 t20 (k · H)) fun t21 H =>
 aPick t15 t21 (.bool false) fun t22 =>
 aTest t22
 (aFld 1 t2 fun t24 =>
 aLoad false 1 t24 H fun t25 =>
 aIdxA 1 t1 t25 fun t26 =>
 aLoad false 1 t26 H fun t27 =>
 K t27 H)
 (aFld 2 t2 fun t28 =>
 aLoad false 1 t28 H fun t29 =>
 aLen 1 t29 fun t30 =>
 zq123_l5 t1 (.int .i64 1) t29 t30 (.int .i64 0) H K)
theorem zq123_b5_eq (t1 t5 t29 t30 t31 : AV) (H : Heap) (K : Kt) (Kb5 : Lt) : awp tP zq123_M zq123_c5 (roundQ zq123_m5 Kb5 (zq123_Q5 K)) (zq123_fr5 t1 t5 t29 t30 t31) H = zq123_b5 t1 t5 t29 t30 t31 H K Kb5 := by kernel_rfl
theorem zq123_loop5 {t1 t5 t29 t30 t31 : AV} {H : Heap} {K : Kt} (Inv : Nat → AV → AV → Heap → Prop) (n : Nat) (h0 : HSc H → Inv n t5 t31 H)
   (round : ∀ n t5 t31 H', Inv n t5 t31 H' → HSc H' → H.length ≤ H'.length → (zq123_fr5 t1 t5 t29 t30 t31).all (AV.sc H'.length) = true → ∀ Kb5 : Lt, (∀ F'' H'', (∃ n', n' < n ∧ Back H.length (fun F2 H2 => ∃ t5 t31, F2 = zq123_fr5 t1 t5 t29 t30 t31 ∧ Inv n' t5 t31 H2) F'' H'') → Kb5 F'' H'') → zq123_b5 t1 t5 t29 t30 t31 H' K Kb5) : zq123_l5 t1 t5 t29 t30 t31 H K :=
 aloop (M := zq123_M) zq123_m5 (fun n F H => ∃ t5 t31, F = zq123_fr5 t1 t5 t29 t30 t31 ∧ Inv n t5 t31 H) n (fun hs _ => ⟨t5, t31, rfl, h0 hs⟩) (fun n F H' ⟨t5, t31, hF, hI⟩ h1 h2 h3 => by subst hF; rw [zq123_b5_eq]; exact round n t5 t31 H' hI h1 h2 h3 _ (fun _ _ h => h))
theorem zq123_eq (t0 t1 : AV) (H : Heap) (K : Kt) : awp tP zq123_M zq123_c (retQ tP zq123_r K) (t0 :: t1 :: List.replicate 42 .unk) H = zq123 t0 t1 H K := by kernel_rfl
theorem zq123_ok {t0 t1 : AV} {H : Heap} {K : Kt} (h : HSc H → zq123 t0 t1 H K) : ACalls tP n_zq123 [t0, t1] H K :=
 acalls_body (M := zq123_M) Try.func125 (c := zq123_c) (by kernel_rfl) (fun hs => (zq123_eq t0 t1 H K).mpr (h hs))
def zq124_M : Nat → List Bool
 | 5 => rl false [1,1,2,2,29,3,13]
 | _ => []
noncomputable def zq124_c : Code := Try.f126.body.getD .skip
noncomputable def zq124_r : List ResultVar := Try.f126.results.toList
def zq124_fr5 (t1 t4 t5 t35 t36 t37 : AV) : List AV := ux 1 (t1 :: ux 2 (t4 :: t5 :: ux 29 (t35 :: t36 :: t37 :: ux 13 [])))
def zq124_m5 : List Bool := zq124_M 5
noncomputable def zq124_c5 : Code := codeAt [1, 1, 1, 0, 1, 0, 0] zq124_c
def zq124_Q5 (K : Kt) : AExit → List AV → Heap → Prop := contAt tP zq124_M [1, 1, 1, 0, 1, 0] zq124_c (retQ tP zq124_r K)
def zq124_l5 (t1 t4 t5 t35 t36 t37 : AV) (H : Heap) (K : Kt) : Prop := ALoop tP zq124_c5 (zq124_Q5 K) (zq124_fr5 t1 t4 t5 t35 t36 t37) H
def zq124_b5 (t1 t4 t5 t35 t36 t37 : AV) (H : Heap) (K : Kt) (Kb5 : Lt) : Prop :=
 aBin .lss false t37 t36 fun t38 =>
 aTest t38
 (aIdxA 3 t35 t37 fun t39 =>
 aLoad true 3 t39 H fun t40 =>
 aNew [(.int .i64 0), (.int .i64 0), .snil] H fun t7 H =>
 aStore 3 t7 t40 H fun H =>
 aPure H (fun k => aFld 2 t5 (k · H)) fun t41 =>
 aPure H (fun k => aLoad false 1 t41 H (k · H)) fun t42 =>
 aPure H (fun k => aLoad true 3 t7 H (k · H)) fun t43 =>
 aPure H (fun k => k t1 H) fun t44 =>
 aPureX H (fun H k => ACalls tP n_zq124 [t43, t44] H k) fun t45 =>
 aPure H (fun k => aBuildS 3 [(.int .i64 0), (.int .i64 0), .snil] 1 [(0, t45)] (k · H)) fun t46 =>
 aAppend e_api_Type 3 40 t42 t46 H fun t47 H =>
 aPure H (fun k => aFld 2 t5 (k · H)) fun t48 =>
 aStore 1 t48 t47 H fun H =>
 aBin .add false t37 (.int .i64 1) fun t49 =>
 Kb5 (zq124_fr5 t1 t4 t5 t35 t36 t49) H)
 (aLoad true 3 t5 H fun t50 =>
 aStore 3 t4 t50 H fun H =>
 aLoad true 3 t4 H fun r0 =>
 K r0 H)
def zq124 (t0 t1 : AV) (H : Heap) (K : Kt) : Prop :=
 aBox t0 H fun t2 H =>
 aNew [(.int .i64 0), (.int .i64 0), .snil] H fun t4 H =>
 aFld 0 t2 fun t8 =>
 aLoad false 1 t8 H fun t9 =>
 aBin .eql false t9 (.int .i64 4) fun t10 =>
 aGuardJ t10 true H (fun k => aFld 1 t2 (k · H)) fun t12 H =>
 aGuardJ t10 true H (fun k => aLoad false 1 t12 H (k · H)) fun t13 H =>
 aGuardJ t10 true H (fun k => aBin .geq false t13 (.int .i64 0) (k · H)) fun t14 H =>
 aPick t10 t14 (.bool false) fun t15 =>
 aGuardJ t15 true H (fun k => aFld 1 t2 (k · H)) fun t17 H =>
 aGuardJ t15 true H (fun k => aLoad false 1 t17 H (k · H)) fun t18 H =>
 aGuardJ t15 true H (fun k => k t1 H) fun t19 H =>
 aGuardJ t15 true H (fun k => aLen 1 t19 (k · H)) fun t20 H =>
 aGuardJ t15 true H (fun k => aBin .lss false t18 t20 (k · H)) fun t21 H =>
 aPick t15 t21 (.bool false) fun t22 =>
 aTest t22
 (aFld 1 t2 fun t24 =>
 aLoad false 1 t24 H fun t25 =>
 aIdxA 3 t1 t25 fun t26 =>
 aLoad true 3 t26 H fun t27 =>
 ACalls tP n_zq124 [t27, .snil] H fun t28 H =>
 aStore 3 t4 t28 H fun H =>
 aLoad true 3 t4 H fun r0 =>
 K r0 H)
 (aFld 0 t2 fun t29 =>
 aLoad false 1 t29 H fun t30 =>
 aFld 1 t2 fun t31 =>
 aLoad false 1 t31 H fun t32 =>
 aBuild [(.int .i64 0), (.int .i64 0), .snil] [(0, 1), (1, 1), (2, 1)] [(0, t30), (1, t32)] fun t33 =>
 aNew [(.int .i64 0), (.int .i64 0), .snil] H fun t5 H =>
 aStore 3 t5 t33 H fun H =>
 aFld 2 t2 fun t34 =>
 aLoad false 1 t34 H fun t35 =>
 aLen 1 t35 fun t36 =>
 zq124_l5 t1 t4 t5 t35 t36 (.int .i64 0) H K)
theorem zq124_b5_eq (t1 t4 t5 t35 t36 t37 : AV) (H : Heap) (K : Kt) (Kb5 : Lt) : awp tP zq124_M zq124_c5 (roundQ zq124_m5 Kb5 (zq124_Q5 K)) (zq124_fr5 t1 t4 t5 t35 t36 t37) H = zq124_b5 t1 t4 t5 t35 t36 t37 H K Kb5 := by kernel_rfl
theorem zq124_loop5 {t1 t4 t5 t35 t36 t37 : AV} {H : Heap} {K : Kt} (Inv : Nat → AV → Heap → Prop) (n : Nat) (h0 : HSc H → Inv n t37 H)
   (round : ∀ n t37 H', Inv n t37 H' → HSc H' → H.length ≤ H'.length → (zq124_fr5 t1 t4 t5 t35 t36 t37).all (AV.sc H'.length) = true → ∀ Kb5 : Lt, (∀ F'' H'', (∃ n', n' < n ∧ Back H.length (fun F2 H2 => ∃ t37, F2 = zq124_fr5 t1 t4 t5 t35 t36 t37 ∧ Inv n' t37 H2) F'' H'') → Kb5 F'' H'') → zq124_b5 t1 t4 t5 t35 t36 t37 H' K Kb5) : zq124_l5 t1 t4 t5 t35 t36 t37 H K :=
 aloop (M := zq124_M) zq124_m5 (fun n F H => ∃ t37, F = zq124_fr5 t1 t4 t5 t35 t36 t37 ∧ Inv n t37 H) n (fun hs _ => ⟨t37, rfl, h0 hs⟩) (fun n F H' ⟨t37, hF, hI⟩ h1 h2 h3 => by subst hF; rw [zq124_b5_eq]; exact round n t37 H' hI h1 h2 h3 _ (fun _ _ h => h))
theorem zq124_eq (t0 t1 : AV) (H : Heap) (K : Kt) : awp tP zq124_M zq124_c (retQ tP zq124_r K) (t0 :: t1 :: List.replicate 49 .unk) H = zq124 t0 t1 H K := by kernel_rfl
theorem zq124_ok {t0 t1 : AV} {H : Heap} {K : Kt} (h : HSc H → zq124 t0 t1 H K) : ACalls tP n_zq124 [t0, t1] H K :=
 acalls_body (M := zq124_M) Try.func126 (c := zq124_c) (by kernel_rfl) (fun hs => (zq124_eq t0 t1 H K).mpr (h hs))
def zq47_M (_ : Nat) : List Bool := []
noncomputable def zq47_c : Code := Try.f49.body.getD .skip
noncomputable def zq47_r : List ResultVar := Try.f49.results.toList
def zq47 (t0 t1 t2 : AV) (H : Heap) (K : Kt) : Prop :=
 aBox t1 H fun t4 H =>
 aLoad true 3 t4 H fun t7 =>
 ACalls tP n_zq77 [t7] H fun t8 H =>
 aBin .leq false t8 (.int .i64 200) fun t9 =>
 aGuardJ t9 true H (fun k => k t0 H) fun t11 H =>
 aGuardJ t9 true H (fun k => aLoad true 3 t4 H (k · H)) fun t12 H =>
 aGuardJ t9 true H (fun k => k t2 H) fun t13 H =>
 aGuardJ t9 true H (fun k => ACalls tP n_zq78 [t11, t12, t13] H k) fun t14 H =>
 aPick t9 t14 (.bool false) fun t15 =>
 K t15 H
theorem zq47_eq (t0 t1 t2 : AV) (H : Heap) (K : Kt) : awp tP zq47_M zq47_c (retQ tP zq47_r K) (t0 :: t1 :: t2 :: List.replicate 13 .unk) H = zq47 t0 t1 t2 H K := by kernel_rfl
theorem zq47_ok {t0 t1 t2 : AV} {H : Heap} {K : Kt} (h : HSc H → zq47 t0 t1 t2 H K) : ACalls tP n_zq47 [t0, t1, t2] H K :=
 acalls_body (M := zq47_M) Try.func49 (c := zq47_c) (by kernel_rfl) (fun hs => (zq47_eq t0 t1 t2 H K).mpr (h hs))
def zq49_M : Nat → List Bool
 | 4 => rl false [2,2,1,1,40]
 | _ => []
noncomputable def zq49_c : Code := Try.f51.body.getD .skip
noncomputable def zq49_r : List ResultVar := Try.f51.results.toList
def zq49_fr4 (t2 t3 t5 : AV) : List AV := ux 2 (t2 :: t3 :: ux 1 (t5 :: ux 40 []))
def zq49_m4 : List Bool := zq49_M 4
noncomputable def zq49_c4 : Code := codeAt [1, 1, 0, 1, 0, 0] zq49_c
def zq49_Q4 (K : Kt) : AExit → List AV → Heap → Prop := contAt tP zq49_M [1, 1, 0, 1, 0] zq49_c (retQ tP zq49_r K)
def zq49_l4 (t2 t3 t5 : AV) (H : Heap) (K : Kt) : Prop := ALoop tP zq49_c4 (zq49_Q4 K) (zq49_fr4 t2 t3 t5) H
def zq49_b4 (t2 t3 t5 : AV) (H : Heap) (K : Kt) (Kb4 : Lt) : Prop :=
 aFld 2 t2 fun t28 =>
 aLoad false 1 t28 H fun t29 =>
 aLen 1 t29 fun t30 =>
 aBin .lss false t5 t30 fun t31 =>
 aTest t31
 (aPure H (fun k => aFld 2 t2 (k · H)) fun t34 =>
 aPure H (fun k => aLoad false 1 t34 H (k · H)) fun t35 =>
 aPure H (fun k => k t5 H) fun t36 =>
 aPure H (fun k => aIdxA 3 t35 t36 (k · H)) fun t37 =>
 aPure H (fun k => aLoad true 3 t37 H (k · H)) fun t38 =>
 aPure H (fun k => aFld 2 t3 (k · H)) fun t39 =>
 aPure H (fun k => aLoad false 1 t39 H (k · H)) fun t40 =>
 aPure H (fun k => k t5 H) fun t41 =>
 aPure H (fun k => aIdxA 3 t40 t41 (k · H)) fun t42 =>
 aPure H (fun k => aLoad true 3 t42 H (k · H)) fun t43 =>
 aPureX H (fun H k => ACalls tP n_zq49 [t38, t43] H k) fun t44 =>
 aPure H (fun k => aUn .not t44 (k · H)) fun t45 =>
 aTest t45
 (K (.bool false) H)
 (aBin .add false t5 (.int .i64 1) fun t33 =>
 Kb4 (zq49_fr4 t2 t3 t33) H))
 (K (.bool true) H)
def zq49 (t0 t1 : AV) (H : Heap) (K : Kt) : Prop :=
 aBox t0 H fun t2 H =>
 aBox t1 H fun t3 H =>
 aFld 0 t2 fun t6 =>
 aLoad false 1 t6 H fun t7 =>
 aFld 0 t3 fun t8 =>
 aLoad false 1 t8 H fun t9 =>
 aBin .neq false t7 t9 fun t10 =>
 aGuardJ t10 false H (fun k => aFld 1 t2 (k · H)) fun t12 H =>
 aGuardJ t10 false H (fun k => aLoad false 1 t12 H (k · H)) fun t13 H =>
 aGuardJ t10 false H (fun k => aFld 1 t3 (k · H)) fun t14 H =>
 aGuardJ t10 false H (fun k => aLoad false 1 t14 H (k · H)) fun t15 H =>
 aGuardJ t10 false H (fun k => aBin .neq false t13 t15 (k · H)) fun t16 H =>
 aPick t10 (.bool true) t16 fun t17 =>
 aGuardJ t17 false H (fun k => aFld 2 t2 (k · H)) fun t19 H =>
 aGuardJ t17 false H (fun k => aLoad false 1 t19 H (k · H)) fun t20 H =>
 aGuardJ t17 false H (fun k => aLen 1 t20 (k · H)) fun t21 H =>
 aGuardJ t17 false H (fun k => aFld 2 t3 (k · H)) fun t22 H =>
 aGuardJ t17 false H (fun k => aLoad false 1 t22 H (k · H)) fun t23 H =>
 aGuardJ t17 false H (fun k => aLen 1 t23 (k · H)) fun t24 H =>
 aGuardJ t17 false H (fun k => aBin .neq false t21 t24 (k · H)) fun t25 H =>
 aPick t17 (.bool true) t25 fun t26 =>
 aTest t26
 (K (.bool false) H)
 (zq49_l4 t2 t3 (.int .i64 0) H K)
theorem zq49_b4_eq (t2 t3 t5 : AV) (H : Heap) (K : Kt) (Kb4 : Lt) : awp tP zq49_M zq49_c4 (roundQ zq49_m4 Kb4 (zq49_Q4 K)) (zq49_fr4 t2 t3 t5) H = zq49_b4 t2 t3 t5 H K Kb4 := by kernel_rfl
theorem zq49_loop4 {t2 t3 t5 : AV} {H : Heap} {K : Kt} (Inv : Nat → AV → Heap → Prop) (n : Nat) (h0 : HSc H → Inv n t5 H)
   (round : ∀ n t5 H', Inv n t5 H' → HSc H' → H.length ≤ H'.length → (zq49_fr4 t2 t3 t5).all (AV.sc H'.length) = true → ∀ Kb4 : Lt, (∀ F'' H'', (∃ n', n' < n ∧ Back H.length (fun F2 H2 => ∃ t5, F2 = zq49_fr4 t2 t3 t5 ∧ Inv n' t5 H2) F'' H'') → Kb4 F'' H'') → zq49_b4 t2 t3 t5 H' K Kb4) : zq49_l4 t2 t3 t5 H K :=
 aloop (M := zq49_M) zq49_m4 (fun n F H => ∃ t5, F = zq49_fr4 t2 t3 t5 ∧ Inv n t5 H) n (fun hs _ => ⟨t5, rfl, h0 hs⟩) (fun n F H' ⟨t5, hF, hI⟩ h1 h2 h3 => by subst hF; rw [zq49_b4_eq]; exact round n t5 H' hI h1 h2 h3 _ (fun _ _ h => h))
theorem zq49_eq (t0 t1 : AV) (H : Heap) (K : Kt) : awp tP zq49_M zq49_c (retQ tP zq49_r K) (t0 :: t1 :: List.replicate 44 .unk) H = zq49 t0 t1 H K := by kernel_rfl
theorem zq49_ok {t0 t1 : AV} {H : Heap} {K : Kt} (h : HSc H → zq49 t0 t1 H K) : ACalls tP n_zq49 [t0, t1] H K :=
 acalls_body (M := zq49_M) Try.func51 (c := zq49_c) (by kernel_rfl) (fun hs => (zq49_eq t0 t1 H K).mpr (h hs))
def zq77_M : Nat → List Bool
 | 3 => rl false [1,1,1,2,16]
 | _ => []
noncomputable def zq77_c : Code := Try.f79.body.getD .skip
noncomputable def zq77_r : List ResultVar := Try.f79.results.toList
def zq77_fr3 (t1 t3 t4 : AV) : List AV := ux 1 (t1 :: ux 1 (t3 :: t4 :: ux 16 []))
def zq77_m3 : List Bool := zq77_M 3
noncomputable def zq77_c3 : Code := codeAt [1, 1, 0, 1, 0, 0] zq77_c
def zq77_Q3 (K : Kt) : AExit → List AV → Heap → Prop := contAt tP zq77_M [1, 1, 0, 1, 0] zq77_c (retQ tP zq77_r K)
def zq77_l3 (t1 t3 t4 : AV) (H : Heap) (K : Kt) : Prop := ALoop tP zq77_c3 (zq77_Q3 K) (zq77_fr3 t1 t3 t4) H
def zq77_b3 (t1 t3 t4 : AV) (H : Heap) (K : Kt) (Kb3 : Lt) : Prop :=
 aFld 2 t1 fun t6 =>
 aLoad false 1 t6 H fun t7 =>
 aLen 1 t7 fun t8 =>
 aBin .lss false t4 t8 fun t9 =>
 aTest t9
 (aFld 2 t1 fun t13 =>
 aLoad false 1 t13 H fun t14 =>
 aIdxA 3 t14 t4 fun t16 =>
 aLoad true 3 t16 H fun t17 =>
 ACalls tP n_zq77 [t17] H fun t18 H =>
 aBin .add false t3 t18 fun t19 =>
 aBin .add false t4 (.int .i64 1) fun t11 =>
 Kb3 (zq77_fr3 t1 t19 t11) H)
 (K t3 H)
def zq77 (t0 : AV) (H : Heap) (K : Kt) : Prop :=
 aBox t0 H fun t1 H =>
 zq77_l3 t1 (.int .i64 1) (.int .i64 0) H K
theorem zq77_b3_eq (t1 t3 t4 : AV) (H : Heap) (K : Kt) (Kb3 : Lt) : awp tP zq77_M zq77_c3 (roundQ zq77_m3 Kb3 (zq77_Q3 K)) (zq77_fr3 t1 t3 t4) H = zq77_b3 t1 t3 t4 H K Kb3 := by kernel_rfl
theorem zq77_loop3 {t1 t3 t4 : AV} {H : Heap} {K : Kt} (Inv : Nat → AV → AV → Heap → Prop) (n : Nat) (h0 : HSc H → Inv n t3 t4 H)
   (round : ∀ n t3 t4 H', Inv n t3 t4 H' → HSc H' → H.length ≤ H'.length → (zq77_fr3 t1 t3 t4).all (AV.sc H'.length) = true → ∀ Kb3 : Lt, (∀ F'' H'', (∃ n', n' < n ∧ Back H.length (fun F2 H2 => ∃ t3 t4, F2 = zq77_fr3 t1 t3 t4 ∧ Inv n' t3 t4 H2) F'' H'') → Kb3 F'' H'') → zq77_b3 t1 t3 t4 H' K Kb3) : zq77_l3 t1 t3 t4 H K :=
 aloop (M := zq77_M) zq77_m3 (fun n F H => ∃ t3 t4, F = zq77_fr3 t1 t3 t4 ∧ Inv n t3 t4 H) n (fun hs _ => ⟨t3, t4, rfl, h0 hs⟩) (fun n F H' ⟨t3, t4, hF, hI⟩ h1 h2 h3 => by subst hF; rw [zq77_b3_eq]; exact round n t3 t4 H' hI h1 h2 h3 _ (fun _ _ h => h))
theorem zq77_eq (t0 : AV) (H : Heap) (K : Kt) : awp tP zq77_M zq77_c (retQ tP zq77_r K) (t0 :: List.replicate 20 .unk) H = zq77 t0 H K := by kernel_rfl
theorem zq77_ok {t0 : AV} {H : Heap} {K : Kt} (h : HSc H → zq77 t0 H K) : ACalls tP n_zq77 [t0] H K :=
 acalls_body (M := zq77_M) Try.func79 (c := zq77_c) (by kernel_rfl) (fun hs => (zq77_eq t0 H K).mpr (h hs))
def zq78_M : Nat → List Bool
 | 24 => rl false [0,1,1,1,1,1,2,2,103]
 | _ => []
noncomputable def zq78_c : Code := Try.f80.body.getD .skip
noncomputable def zq78_r : List ResultVar := Try.f80.results.toList
def zq78_fr24 (t0 t2 t4 t7 t8 : AV) : List AV := t0 :: ux 1 (t2 :: ux 1 (t4 :: ux 2 (t7 :: t8 :: ux 103 [])))
def zq78_m24 : List Bool := zq78_M 24
noncomputable def zq78_c24 : Code := codeAt [1, 1, 1, 0, 1, 0, 0] zq78_c
def zq78_Q24 (K : Kt) : AExit → List AV → Heap → Prop := contAt tP zq78_M [1, 1, 1, 0, 1, 0] zq78_c (retQ tP zq78_r K)
def zq78_l24 (t0 t2 t4 t7 t8 : AV) (H : Heap) (K : Kt) : Prop := ALoop tP zq78_c24 (zq78_Q24 K) (zq78_fr24 t0 t2 t4 t7 t8) H
def zq78_b24 (t0 t2 t4 t7 t8 : AV) (H : Heap) (K : Kt) (Kb24 : Lt) : Prop :=
 aBin .lss false t8 t7 fun t100 =>
 aTest t100
 (aFld 2 t4 fun t104 =>
 aLoad false 1 t104 H fun t105 =>
 aIdxA 3 t105 t8 fun t107 =>
 aLoad true 3 t107 H fun t108 =>
 ACalls tP n_zq78 [t0, t108, t2] H fun t110 H =>
 aUn .not t110 fun t111 =>
 aTest t111
 (K (.bool false) H)
 (aBin .add false t8 (.int .i64 1) fun t102 =>
 Kb24 (zq78_fr24 t0 t2 t4 t7 t102) H))
 (K (.bool true) H)
def zq78_j3 (t0 t2 t4 t7 : AV) (H : Heap) (K : Kt) : Prop :=
 zq78_l24 t0 t2 t4 t7 (.int .i64 0) H K
def zq78_j2 (t0 t2 t4 t7 : AV) (H : Heap) (K : Kt) : Prop :=
 zq78_j3 t0 t2 t4 t7 H K
def zq78_j4 (t0 t2 t4 t7 t13 t75 : AV) (H : Heap) (K : Kt) : Prop :=
 aTest t75
 (aFld 1 t4 fun t78 =>
 aLoad false 1 t78 H fun t79 =>
 aBin .neq false t79 (.int .i64 0) fun t80 =>
 aGuardJ t80 false H (fun k => k t7 H) fun t82 H =>
 aGuardJ t80 false H (fun k => aBin .neq false t82 (.int .i64 1) (k · H)) fun t83 H =>
 aPick t80 (.bool true) t83 fun t84 =>
 aTest t84
 (K (.bool false) H)
 (zq78_j2 t0 t2 t4 t7 H K))
 (aBin .eql false t13 (.int .i64 9) fun t86 =>
 aTest t86
 (aFld 1 t4 fun t87 =>
 aLoad false 1 t87 H fun t88 =>
 aBin .neq false t88 (.int .i64 0) fun t89 =>
 aGuardJ t89 false H (fun k => k t7 H) fun t91 H =>
 aGuardJ t89 false H (fun k => aBin .lss false t91 (.int .i64 1) (k · H)) fun t92 H =>
 aPick t89 (.bool true) t92 fun t93 =>
 aGuardJ t93 false H (fun k => k t7 H) fun t95 H =>
 aGuardJ t93 false H (fun k => aBin .gtr false t95 (.int .i64 7) (k · H)) fun t96 H =>
 aPick t93 (.bool true) t96 fun t97 =>
 aTest t97
 (K (.bool false) H)
 (zq78_j2 t0 t2 t4 t7 H K))
 (K (.bool false) H))
def zq78_j1 (t0 t2 t4 t7 t13 t14 : AV) (H : Heap) (K : Kt) : Prop :=
 aTest t14
 (aFld 1 t4 fun t18 =>
 aLoad false 1 t18 H fun t19 =>
 aBin .eql false t19 (.int .i64 0) fun t20 =>
 aGuardJ t20 true H (fun k => k t7 H) fun t22 H =>
 aGuardJ t20 true H (fun k => aBin .eql false t22 (.int .i64 0) (k · H)) fun t23 H =>
 aPick t20 t23 (.bool false) fun t24 =>
 K t24 H)
 (aBin .eql false t13 (.int .i64 4) fun t26 =>
 aTest t26
 (aFld 1 t4 fun t27 =>
 aLoad false 1 t27 H fun t28 =>
 aBin .geq false t28 (.int .i64 0) fun t29 =>
 aGuardJ t29 true H (fun k => aFld 1 t4 (k · H)) fun t31 H =>
 aGuardJ t29 true H (fun k => aLoad false 1 t31 H (k · H)) fun t32 H =>
 aGuardJ t29 true H (fun k => k t2 H) fun t33 H =>
 aGuardJ t29 true H (fun k => aBin .lss false t32 t33 (k · H)) fun t34 H =>
 aPick t29 t34 (.bool false) fun t35 =>
 aGuardJ t35 true H (fun k => k t7 H) fun t37 H =>
 aGuardJ t35 true H (fun k => aBin .eql false t37 (.int .i64 0) (k · H)) fun t38 H =>
 aPick t35 t38 (.bool false) fun t39 =>
 K t39 H)
 (aBin .eql false t13 (.int .i64 5) fun t41 =>
 aTest t41
 (aFld 1 t4 fun t42 =>
 aLoad false 1 t42 H fun t43 =>
 aBin .lss false t43 (.int .i64 0) fun t44 =>
 aGuardJ t44 false H (fun k => aFld 1 t4 (k · H)) fun t46 H =>
 aGuardJ t44 false H (fun k => aLoad false 1 t46 H (k · H)) fun t47 H =>
 aGuardJ t44 false H (fun k => k t0 H) fun t48 H =>
 aGuardJ t44 false H (fun k => aLen 1 t48 (k · H)) fun t49 H =>
 aGuardJ t44 false H (fun k => aBin .geq false t47 t49 (k · H)) fun t50 H =>
 aPick t44 (.bool true) t50 fun t51 =>
 aGuardJ t51 false H (fun k => k t7 H) fun t53 H =>
 aGuardJ t51 false H (fun k => k t0 H) fun t54 H =>
 aGuardJ t51 false H (fun k => aFld 1 t4 (k · H)) fun t55 H =>
 aGuardJ t51 false H (fun k => aLoad false 1 t55 H (k · H)) fun t56 H =>
 aGuardJ t51 false H (fun k => aIdxA 3 t54 t56 (k · H)) fun t57 H =>
 aGuardJ t51 false H (fun k => aFld 1 t57 (k · H)) fun t58 H =>
 aGuardJ t51 false H (fun k => aLoad false 1 t58 H (k · H)) fun t59 H =>
 aGuardJ t51 false H (fun k => aBin .neq false t53 t59 (k · H)) fun t60 H =>
 aPick t51 (.bool true) t60 fun t61 =>
 aTest t61
 (K (.bool false) H)
 (zq78_j2 t0 t2 t4 t7 H K))
 (aBin .eql false t13 (.int .i64 6) fun t63 =>
 aTest t63
 (aFld 1 t4 fun t64 =>
 aLoad false 1 t64 H fun t65 =>
 aBin .neq false t65 (.int .i64 0) fun t66 =>
 aGuardJ t66 false H (fun k => k t7 H) fun t68 H =>
 aGuardJ t66 false H (fun k => aBin .lss false t68 (.int .i64 2) (k · H)) fun t69 H =>
 aPick t66 (.bool true) t69 fun t70 =>
 aGuardJ t70 false H (fun k => k t7 H) fun t72 H =>
 aGuardJ t70 false H (fun k => aBin .gtr false t72 (.int .i64 6) (k · H)) fun t73 H =>
 aPick t70 (.bool true) t73 fun t74 =>
 aTest t74
 (K (.bool false) H)
 (zq78_j2 t0 t2 t4 t7 H K))
 (aBin .eql false t13 (.int .i64 7) fun t76 =>
 aTest t76
 (zq78_j4 t0 t2 t4 t7 t13 t76 H K)
 (aBin .eql false t13 (.int .i64 8) fun t77 =>
 zq78_j4 t0 t2 t4 t7 t13 t77 H K)))))
def zq78 (t0 t1 t2 : AV) (H : Heap) (K : Kt) : Prop :=
 aBox t1 H fun t4 H =>
 aFld 2 t4 fun t9 =>
 aLoad false 1 t9 H fun t10 =>
 aLen 1 t10 fun t11 =>
 aFld 0 t4 fun t12 =>
 aLoad false 1 t12 H fun t13 =>
 aBin .eql false t13 (.int .i64 1) fun t15 =>
 aTest t15
 (zq78_j1 t0 t2 t4 t11 t13 t15 H K)
 (aBin .eql false t13 (.int .i64 2) fun t16 =>
 aTest t16
 (zq78_j1 t0 t2 t4 t11 t13 t16 H K)
 (aBin .eql false t13 (.int .i64 3) fun t17 =>
 zq78_j1 t0 t2 t4 t11 t13 t17 H K))
theorem zq78_b24_eq (t0 t2 t4 t7 t8 : AV) (H : Heap) (K : Kt) (Kb24 : Lt) : awp tP zq78_M zq78_c24 (roundQ zq78_m24 Kb24 (zq78_Q24 K)) (zq78_fr24 t0 t2 t4 t7 t8) H = zq78_b24 t0 t2 t4 t7 t8 H K Kb24 := by kernel_rfl
theorem zq78_loop24 {t0 t2 t4 t7 t8 : AV} {H : Heap} {K : Kt} (Inv : Nat → AV → Heap → Prop) (n : Nat) (h0 : HSc H → Inv n t8 H)
   (round : ∀ n t8 H', Inv n t8 H' → HSc H' → H.length ≤ H'.length → (zq78_fr24 t0 t2 t4 t7 t8).all (AV.sc H'.length) = true → ∀ Kb24 : Lt, (∀ F'' H'', (∃ n', n' < n ∧ Back H.length (fun F2 H2 => ∃ t8, F2 = zq78_fr24 t0 t2 t4 t7 t8 ∧ Inv n' t8 H2) F'' H'') → Kb24 F'' H'') → zq78_b24 t0 t2 t4 t7 t8 H' K Kb24) : zq78_l24 t0 t2 t4 t7 t8 H K :=
 aloop (M := zq78_M) zq78_m24 (fun n F H => ∃ t8, F = zq78_fr24 t0 t2 t4 t7 t8 ∧ Inv n t8 H) n (fun hs _ => ⟨t8, rfl, h0 hs⟩) (fun n F H' ⟨t8, hF, hI⟩ h1 h2 h3 => by subst hF; rw [zq78_b24_eq]; exact round n t8 H' hI h1 h2 h3 _ (fun _ _ h => h))
theorem zq78_eq (t0 t1 t2 : AV) (H : Heap) (K : Kt) : awp tP zq78_M zq78_c (retQ tP zq78_r K) (t0 :: t1 :: t2 :: List.replicate 109 .unk) H = zq78 t0 t1 t2 H K := by kernel_rfl
theorem zq78_ok {t0 t1 t2 : AV} {H : Heap} {K : Kt} (h : HSc H → zq78 t0 t1 t2 H K) : ACalls tP n_zq78 [t0, t1, t2] H K :=
 acalls_body (M := zq78_M) Try.func80 (c := zq78_c) (by kernel_rfl) (fun hs => (zq78_eq t0 t1 t2 H K).mpr (h hs))
def zq80_M : Nat → List Bool
 | 4 => rl false [0,2,3,1,21]
 | _ => []
noncomputable def zq80_c : Code := Try.f82.body.getD .skip
noncomputable def zq80_r : List ResultVar := Try.f82.results.toList
def zq80_fr4 (t0 t1 t5 : AV) : List AV := t0 :: t1 :: ux 3 (t5 :: ux 21 [])
def zq80_m4 : List Bool := zq80_M 4
noncomputable def zq80_c4 : Code := codeAt [1, 1, 0, 1, 0, 0] zq80_c
def zq80_Q4 (K : Kt) : AExit → List AV → Heap → Prop := contAt tP zq80_M [1, 1, 0, 1, 0] zq80_c (retQ tP zq80_r K)
def zq80_l4 (t0 t1 t5 : AV) (H : Heap) (K : Kt) : Prop := ALoop tP zq80_c4 (zq80_Q4 K) (zq80_fr4 t0 t1 t5) H
def zq80_b4 (t0 t1 t5 : AV) (H : Heap) (K : Kt) (Kb4 : Lt) : Prop :=
 aLen 1 t0 fun t13 =>
 aBin .lss false t5 t13 fun t14 =>
 aTest t14
 (aPure H (fun k => k t0 H) fun t17 =>
 aPure H (fun k => k t5 H) fun t18 =>
 aPure H (fun k => aIdxA 3 t17 t18 (k · H)) fun t19 =>
 aPure H (fun k => aLoad true 3 t19 H (k · H)) fun t20 =>
 aPure H (fun k => k t1 H) fun t21 =>
 aPure H (fun k => k t5 H) fun t22 =>
 aPure H (fun k => aIdxA 3 t21 t22 (k · H)) fun t23 =>
 aPure H (fun k => aLoad true 3 t23 H (k · H)) fun t24 =>
 aPureX H (fun H k => ACalls tP n_zq49 [t20, t24] H k) fun t25 =>
 aPure H (fun k => aUn .not t25 (k · H)) fun t26 =>
 aTest t26
 (K (.bool false) H)
 (aBin .add false t5 (.int .i64 1) fun t16 =>
 Kb4 (zq80_fr4 t0 t1 t16) H))
 (K (.bool true) H)
def zq80 (t0 t1 : AV) (H : Heap) (K : Kt) : Prop :=
 aLen 1 t0 fun t7 =>
 aLen 1 t1 fun t9 =>
 aBin .neq false t7 t9 fun t10 =>
 aTest t10
 (K (.bool false) H)
 (zq80_l4 t0 t1 (.int .i64 0) H K)
theorem zq80_b4_eq (t0 t1 t5 : AV) (H : Heap) (K : Kt) (Kb4 : Lt) : awp tP zq80_M zq80_c4 (roundQ zq80_m4 Kb4 (zq80_Q4 K)) (zq80_fr4 t0 t1 t5) H = zq80_b4 t0 t1 t5 H K Kb4 := by kernel_rfl
theorem zq80_loop4 {t0 t1 t5 : AV} {H : Heap} {K : Kt} (Inv : Nat → AV → Heap → Prop) (n : Nat) (h0 : HSc H → Inv n t5 H)
   (round : ∀ n t5 H', Inv n t5 H' → HSc H' → H.length ≤ H'.length → (zq80_fr4 t0 t1 t5).all (AV.sc H'.length) = true → ∀ Kb4 : Lt, (∀ F'' H'', (∃ n', n' < n ∧ Back H.length (fun F2 H2 => ∃ t5, F2 = zq80_fr4 t0 t1 t5 ∧ Inv n' t5 H2) F'' H'') → Kb4 F'' H'') → zq80_b4 t0 t1 t5 H' K Kb4) : zq80_l4 t0 t1 t5 H K :=
 aloop (M := zq80_M) zq80_m4 (fun n F H => ∃ t5, F = zq80_fr4 t0 t1 t5 ∧ Inv n t5 H) n (fun hs _ => ⟨t5, rfl, h0 hs⟩) (fun n F H' ⟨t5, hF, hI⟩ h1 h2 h3 => by subst hF; rw [zq80_b4_eq]; exact round n t5 H' hI h1 h2 h3 _ (fun _ _ h => h))
theorem zq80_eq (t0 t1 : AV) (H : Heap) (K : Kt) : awp tP zq80_M zq80_c (retQ tP zq80_r K) (t0 :: t1 :: List.replicate 25 .unk) H = zq80 t0 t1 H K := by kernel_rfl
theorem zq80_ok {t0 t1 : AV} {H : Heap} {K : Kt} (h : HSc H → zq80 t0 t1 H K) : ACalls tP n_zq80 [t0, t1] H K :=
 acalls_body (M := zq80_M) Try.func82 (c := zq80_c) (by kernel_rfl) (fun hs => (zq80_eq t0 t1 H K).mpr (h hs))
def zq81_M : Nat → List Bool
 | 5 => rl false [4,1,3,1,54,3,16]
 | _ => []
noncomputable def zq81_c : Code := Try.f83.body.getD .skip
noncomputable def zq81_r : List ResultVar := Try.f83.results.toList
def zq81_fr5 (t4 t8 t63 t64 t65 : AV) : List AV := ux 4 (t4 :: ux 3 (t8 :: ux 54 (t63 :: t64 :: t65 :: ux 16 [])))
def zq81_m5 : List Bool := zq81_M 5
noncomputable def zq81_c5 : Code := codeAt [1, 1, 1, 0, 1, 0, 0] zq81_c
def zq81_Q5 (K : Kt) : AExit → List AV → Heap → Prop := contAt tP zq81_M [1, 1, 1, 0, 1, 0] zq81_c (retQ tP zq81_r K)
def zq81_l5 (t4 t8 t63 t64 t65 : AV) (H : Heap) (K : Kt) : Prop := ALoop tP zq81_c5 (zq81_Q5 K) (zq81_fr5 t4 t8 t63 t64 t65) H
def zq81_b5 (t4 t8 t63 t64 t65 : AV) (H : Heap) (K : Kt) (Kb5 : Lt) : Prop :=
 aBin .lss false t65 t64 fun t66 =>
 aTest t66
 (aIdxA 3 t63 t65 fun t67 =>
 aLoad true 3 t67 H fun t68 =>
 aNew [(.int .i64 0), (.int .i64 0), .snil] H fun t10 H =>
 aStore 3 t10 t68 H fun H =>
 aLoad true 3 t10 H fun t69 =>
 aFld 2 t4 fun t70 =>
 aLoad false 1 t70 H fun t71 =>
 ACalls tP n_zq98 [t69, t71] H fun t72 H =>
 aNew [(.int .i64 0), (.int .i64 0), .snil] H fun t11 H =>
 aStore 3 t11 t72 H fun H =>
 aLoad true 3 t11 H fun t73 =>
 ACalls tP n_zq77 [t73] H fun t74 H =>
 aBin .gtr false t74 (.int .i64 200) fun t75 =>
 aTest t75
 (aRet [.snil, (.bool false)] (K · H))
 (aLoad true 3 t11 H fun t77 =>
 aBuildS 3 [(.int .i64 0), (.int .i64 0), .snil] 1 [(0, t77)] fun t78 =>
 aAppend e_api_Type 3 40 t8 t78 H fun t79 H =>
 aBin .add false t65 (.int .i64 1) fun t80 =>
 Kb5 (zq81_fr5 t4 t79 t63 t64 t80) H))
 (aRet [t8, (.bool true)] (K · H))
def zq81 (t0 t1 t2 : AV) (H : Heap) (K : Kt) : Prop :=
 aBox t1 H fun t4 H =>
 aPure H (fun k => aFld 0 t4 (k · H)) fun t12 =>
 aPure H (fun k => aLoad false 1 t12 H (k · H)) fun t13 =>
 aPure H (fun k => aBin .neq false t13 (.int .i64 5) (k · H)) fun t14 =>
 aPure H (fun k => k t14 H) fun t15 =>
 aGuardJ t15 false H (fun k => aPure H (fun l => aFld 1 t4 (l · H)) (k · H)) fun t16 H =>
 aGuardJ t15 false H (fun k => aPure H (fun l => aLoad false 1 t16 H (l · H)) (k · H)) fun t17 H =>
 aGuardJ t15 false H (fun k => aPure H (fun l => aBin .lss false t17 (.int .i64 0) (l · H)) (k · H)) fun t18 H =>
 aPure H (fun k => aPick t15 (.bool true) t18 (k · H)) fun t19 =>
 aPure H (fun k => k t19 H) fun t20 =>
 aGuardJ t20 false H (fun k => aPure H (fun l => aFld 1 t4 (l · H)) (k · H)) fun t21 H =>
 aGuardJ t20 false H (fun k => aPure H (fun l => aLoad false 1 t21 H (l · H)) (k · H)) fun t22 H =>
 aGuardJ t20 false H (fun k => aPure H (fun l => l t0 H) (k · H)) fun t23 H =>
 aGuardJ t20 false H (fun k => aPure H (fun l => aLen 1 t23 (l · H)) (k · H)) fun t24 H =>
 aGuardJ t20 false H (fun k => aPure H (fun l => aBin .geq false t22 t24 (l · H)) (k · H)) fun t25 H =>
 aPure H (fun k => aPick t20 (.bool true) t25 (k · H)) fun t26 =>
 aPure H (fun k => k t26 H) fun t27 =>
 aGuardJ t27 false H (fun k => aPure H (fun l => aFld 2 t4 (l · H)) (k · H)) fun t28 H =>
 aGuardJ t27 false H (fun k => aPure H (fun l => aLoad false 1 t28 H (l · H)) (k · H)) fun t29 H =>
 aGuardJ t27 false H (fun k => aPure H (fun l => aLen 1 t29 (l · H)) (k · H)) fun t30 H =>
 aGuardJ t27 false H (fun k => aPure H (fun l => l t0 H) (k · H)) fun t31 H =>
 aGuardJ t27 false H (fun k => aPure H (fun l => aFld 1 t4 (l · H)) (k · H)) fun t32 H =>
 aGuardJ t27 false H (fun k => aPure H (fun l => aLoad false 1 t32 H (l · H)) (k · H)) fun t33 H =>
 aGuardJ t27 false H (fun k => aPure H (fun l => aIdxA 3 t31 t33 (l · H)) (k · H)) fun t34 H =>
 aGuardJ t27 false H (fun k => aPure H (fun l => aFld 1 t34 (l · H)) (k · H)) fun t35 H =>
 aGuardJ t27 false H (fun k => aPure H (fun l => aLoad false 1 t35 H (l · H)) (k · H)) fun t36 H =>
 aGuardJ t27 false H (fun k => aPure H (fun l => aBin .neq false t30 t36 (l · H)) (k · H)) fun t37 H =>
 aPure H (fun k => aPick t27 (.bool true) t37 (k · H)) fun t38 =>
 aPure H (fun k => k t38 H) fun t39 =>
 aGuardJ t39 false H (fun k => aPure H (fun l => l t2 H) (k · H)) fun t40 H =>
 aGuardJ t39 false H (fun k => aPure H (fun l => aBin .lss false t40 (.int .i64 0) (l · H)) (k · H)) fun t41 H =>
 aPure H (fun k => aPick t39 (.bool true) t41 (k · H)) fun t42 =>
 aPure H (fun k => k t42 H) fun t43 =>
 aGuardJ t43 false H (fun k => aPure H (fun l => l t2 H) (k · H)) fun t44 H =>
 aGuardJ t43 false H (fun k => aPure H (fun l => l t0 H) (k · H)) fun t45 H =>
 aGuardJ t43 false H (fun k => aPure H (fun l => aFld 1 t4 (l · H)) (k · H)) fun t46 H =>
 aGuardJ t43 false H (fun k => aPure H (fun l => aLoad false 1 t46 H (l · H)) (k · H)) fun t47 H =>
 aGuardJ t43 false H (fun k => aPure H (fun l => aIdxA 3 t45 t47 (l · H)) (k · H)) fun t48 H =>
 aGuardJ t43 false H (fun k => aPure H (fun l => aFld 2 t48 (l · H)) (k · H)) fun t49 H =>
 aGuardJ t43 false H (fun k => aPure H (fun l => aLoad false 1 t49 H (l · H)) (k · H)) fun t50 H =>
 aGuardJ t43 false H (fun k => aPure H (fun l => aLen 1 t50 (l · H)) (k · H)) fun t51 H =>
 aGuardJ t43 false H (fun k => aPure H (fun l => aBin .geq false t44 t51 (l · H)) (k · H)) fun t52 H =>
 aPure H (fun k => aPick t43 (.bool true) t52 (k · H)) fun t53 =>
 aTest t53
 (aRet [.snil, (.bool false)] (K · H))
 (aFld 1 t4 fun t55 =>
 aLoad false 1 t55 H fun t56 =>
 aIdxA 3 t0 t56 fun t57 =>
 aFld 2 t57 fun t58 =>
 aLoad false 1 t58 H fun t59 =>
 aIdxA 2 t59 t2 fun t61 =>
 aFld 1 t61 fun t62 =>
 aLoad false 1 t62 H fun t63 =>
 aLen 1 t63 fun t64 =>
 zq81_l5 t4 .snil t63 t64 (.int .i64 0) H K)
theorem zq81_b5_eq (t4 t8 t63 t64 t65 : AV) (H : Heap) (K : Kt) (Kb5 : Lt) : awp tP zq81_M zq81_c5 (roundQ zq81_m5 Kb5 (zq81_Q5 K)) (zq81_fr5 t4 t8 t63 t64 t65) H = zq81_b5 t4 t8 t63 t64 t65 H K Kb5 := by kernel_rfl
theorem zq81_loop5 {t4 t8 t63 t64 t65 : AV} {H : Heap} {K : Kt} (Inv : Nat → AV → AV → Heap → Prop) (n : Nat) (h0 : HSc H → Inv n t8 t65 H)
   (round : ∀ n t8 t65 H', Inv n t8 t65 H' → HSc H' → H.length ≤ H'.length → (zq81_fr5 t4 t8 t63 t64 t65).all (AV.sc H'.length) = true → ∀ Kb5 : Lt, (∀ F'' H'', (∃ n', n' < n ∧ Back H.length (fun F2 H2 => ∃ t8 t65, F2 = zq81_fr5 t4 t8 t63 t64 t65 ∧ Inv n' t8 t65 H2) F'' H'') → Kb5 F'' H'') → zq81_b5 t4 t8 t63 t64 t65 H' K Kb5) : zq81_l5 t4 t8 t63 t64 t65 H K :=
 aloop (M := zq81_M) zq81_m5 (fun n F H => ∃ t8 t65, F = zq81_fr5 t4 t8 t63 t64 t65 ∧ Inv n t8 t65 H) n (fun hs _ => ⟨t8, t65, rfl, h0 hs⟩) (fun n F H' ⟨t8, t65, hF, hI⟩ h1 h2 h3 => by subst hF; rw [zq81_b5_eq]; exact round n t8 t65 H' hI h1 h2 h3 _ (fun _ _ h => h))
theorem zq81_eq (t0 t1 t2 : AV) (H : Heap) (K : Kt) : awp tP zq81_M zq81_c (retQ tP zq81_r K) (t0 :: t1 :: t2 :: List.replicate 79 .unk) H = zq81 t0 t1 t2 H K := by kernel_rfl
theorem zq81_ok {t0 t1 t2 : AV} {H : Heap} {K : Kt} (h : HSc H → zq81 t0 t1 t2 H K) : ACalls tP n_zq81 [t0, t1, t2] H K :=
 acalls_body (M := zq81_M) Try.func83 (c := zq81_c) (by kernel_rfl) (fun hs => (zq81_eq t0 t1 t2 H K).mpr (h hs))
def zq98_M : Nat → List Bool
 | 5 => rl false [1,2,1,3,46]
 | _ => []
noncomputable def zq98_c : Code := Try.f100.body.getD .skip
noncomputable def zq98_r : List ResultVar := Try.f100.results.toList
def zq98_fr5 (t1 t2 t4 t5 t6 : AV) : List AV := ux 1 (t1 :: t2 :: ux 1 (t4 :: t5 :: t6 :: ux 46 []))
def zq98_m5 : List Bool := zq98_M 5
noncomputable def zq98_c5 : Code := codeAt [1, 1, 1, 0, 1, 0, 0] zq98_c
def zq98_Q5 (K : Kt) : AExit → List AV → Heap → Prop := contAt tP zq98_M [1, 1, 1, 0, 1, 0] zq98_c (retQ tP zq98_r K)
def zq98_l5 (t1 t2 t4 t5 t6 : AV) (H : Heap) (K : Kt) : Prop := ALoop tP zq98_c5 (zq98_Q5 K) (zq98_fr5 t1 t2 t4 t5 t6) H
def zq98_b5 (t1 t2 t4 t5 t6 : AV) (H : Heap) (K : Kt) (Kb5 : Lt) : Prop :=
 aFld 2 t2 fun t34 =>
 aLoad false 1 t34 H fun t35 =>
 aLen 1 t35 fun t36 =>
 aBin .lss false t6 t36 fun t37 =>
 aTest t37
 (aPure H (fun k => aFld 2 t5 (k · H)) fun t40 =>
 aPure H (fun k => aLoad false 1 t40 H (k · H)) fun t41 =>
 aPure H (fun k => aFld 2 t2 (k · H)) fun t42 =>
 aPure H (fun k => aLoad false 1 t42 H (k · H)) fun t43 =>
 aPure H (fun k => k t6 H) fun t44 =>
 aPure H (fun k => aIdxA 3 t43 t44 (k · H)) fun t45 =>
 aPure H (fun k => aLoad true 3 t45 H (k · H)) fun t46 =>
 aPure H (fun k => k t1 H) fun t47 =>
 aPureX H (fun H k => ACalls tP n_zq98 [t46, t47] H k) fun t48 =>
 aPure H (fun k => aBuildS 3 [(.int .i64 0), (.int .i64 0), .snil] 1 [(0, t48)] (k · H)) fun t49 =>
 aAppend e_api_Type 3 40 t41 t49 H fun t50 H =>
 aPure H (fun k => aFld 2 t5 (k · H)) fun t51 =>
 aStore 1 t51 t50 H fun H =>
 aBin .add false t6 (.int .i64 1) fun t39 =>
 Kb5 (zq98_fr5 t1 t2 t4 t5 t39) H)
 (aLoad true 3 t5 H fun t52 =>
 aStore 3 t4 t52 H fun H =>
 aLoad true 3 t4 H fun r0 =>
 K r0 H)
def zq98 (t0 t1 : AV) (H : Heap) (K : Kt) : Prop :=
 aBox t0 H fun t2 H =>
 aNew [(.int .i64 0), (.int .i64 0), .snil] H fun t4 H =>
 aFld 0 t2 fun t7 =>
 aLoad false 1 t7 H fun t8 =>
 aBin .eql false t8 (.int .i64 4) fun t9 =>
 aGuardJ t9 true H (fun k => aFld 1 t2 (k · H)) fun t11 H =>
 aGuardJ t9 true H (fun k => aLoad false 1 t11 H (k · H)) fun t12 H =>
 aGuardJ t9 true H (fun k => aBin .geq false t12 (.int .i64 0) (k · H)) fun t13 H =>
 aPick t9 t13 (.bool false) fun t14 =>
 aGuardJ t14 true H (fun k => aFld 1 t2 (k · H)) fun t16 H =>
 aGuardJ t14 true H (fun k => aLoad false 1 t16 H (k · H)) fun t17 H =>
 aGuardJ t14 true H (fun k => k t1 H) fun t18 H =>
 aGuardJ t14 true H (fun k => aLen 1 t18 (k · H)) fun t19 H =>
 aGuardJ t14 true H (fun k => aBin .lss false t17 t19 (k · H)) fun t20 H =>
 aPick t14 t20 (.bool false) fun t21 =>
 aTest t21
 (aFld 1 t2 fun t23 =>
 aLoad false 1 t23 H fun t24 =>
 aIdxA 3 t1 t24 fun t25 =>
 aLoad true 3 t25 H fun t26 =>
 ACalls tP n_zq113 [t26] H fun t27 H =>
 aStore 3 t4 t27 H fun H =>
 aLoad true 3 t4 H fun r0 =>
 K r0 H)
 (aFld 0 t2 fun t28 =>
 aLoad false 1 t28 H fun t29 =>
 aFld 1 t2 fun t30 =>
 aLoad false 1 t30 H fun t31 =>
 aBuild [(.int .i64 0), (.int .i64 0), .snil] [(0, 1), (1, 1), (2, 1)] [(0, t29), (1, t31)] fun t32 =>
 aNew [(.int .i64 0), (.int .i64 0), .snil] H fun t5 H =>
 aStore 3 t5 t32 H fun H =>
 zq98_l5 t1 t2 t4 t5 (.int .i64 0) H K)
theorem zq98_b5_eq (t1 t2 t4 t5 t6 : AV) (H : Heap) (K : Kt) (Kb5 : Lt) : awp tP zq98_M zq98_c5 (roundQ zq98_m5 Kb5 (zq98_Q5 K)) (zq98_fr5 t1 t2 t4 t5 t6) H = zq98_b5 t1 t2 t4 t5 t6 H K Kb5 := by kernel_rfl
theorem zq98_loop5 {t1 t2 t4 t5 t6 : AV} {H : Heap} {K : Kt} (Inv : Nat → AV → Heap → Prop) (n : Nat) (h0 : HSc H → Inv n t6 H)
   (round : ∀ n t6 H', Inv n t6 H' → HSc H' → H.length ≤ H'.length → (zq98_fr5 t1 t2 t4 t5 t6).all (AV.sc H'.length) = true → ∀ Kb5 : Lt, (∀ F'' H'', (∃ n', n' < n ∧ Back H.length (fun F2 H2 => ∃ t6, F2 = zq98_fr5 t1 t2 t4 t5 t6 ∧ Inv n' t6 H2) F'' H'') → Kb5 F'' H'') → zq98_b5 t1 t2 t4 t5 t6 H' K Kb5) : zq98_l5 t1 t2 t4 t5 t6 H K :=
 aloop (M := zq98_M) zq98_m5 (fun n F H => ∃ t6, F = zq98_fr5 t1 t2 t4 t5 t6 ∧ Inv n t6 H) n (fun hs _ => ⟨t6, rfl, h0 hs⟩) (fun n F H' ⟨t6, hF, hI⟩ h1 h2 h3 => by subst hF; rw [zq98_b5_eq]; exact round n t6 H' hI h1 h2 h3 _ (fun _ _ h => h))
theorem zq98_eq (t0 t1 : AV) (H : Heap) (K : Kt) : awp tP zq98_M zq98_c (retQ tP zq98_r K) (t0 :: t1 :: List.replicate 51 .unk) H = zq98 t0 t1 H K := by kernel_rfl
theorem zq98_ok {t0 t1 : AV} {H : Heap} {K : Kt} (h : HSc H → zq98 t0 t1 H K) : ACalls tP n_zq98 [t0, t1] H K :=
 acalls_body (M := zq98_M) Try.func100 (c := zq98_c) (by kernel_rfl) (fun hs => (zq98_eq t0 t1 H K).mpr (h hs))
def zq113_M : Nat → List Bool
 | 3 => rl false [1,4,24]
 | _ => []
noncomputable def zq113_c : Code := Try.f115.body.getD .skip
noncomputable def zq113_r : List ResultVar := Try.f115.results.toList
def zq113_fr3 (t1 t2 t3 t4 : AV) : List AV := ux 1 (t1 :: t2 :: t3 :: t4 :: ux 24 [])
def zq113_m3 : List Bool := zq113_M 3
noncomputable def zq113_c3 : Code := codeAt [1, 1, 0, 1, 0, 0] zq113_c
def zq113_Q3 (K : Kt) : AExit → List AV → Heap → Prop := contAt tP zq113_M [1, 1, 0, 1, 0] zq113_c (retQ tP zq113_r K)
def zq113_l3 (t1 t2 t3 t4 : AV) (H : Heap) (K : Kt) : Prop := ALoop tP zq113_c3 (zq113_Q3 K) (zq113_fr3 t1 t2 t3 t4) H
def zq113_b3 (t1 t2 t3 t4 : AV) (H : Heap) (K : Kt) (Kb3 : Lt) : Prop :=
 aFld 2 t1 fun t11 =>
 aLoad false 1 t11 H fun t12 =>
 aLen 1 t12 fun t13 =>
 aBin .lss false t4 t13 fun t14 =>
 aTest t14
 (aPure H (fun k => aFld 2 t3 (k · H)) fun t17 =>
 aPure H (fun k => aLoad false 1 t17 H (k · H)) fun t18 =>
 aPure H (fun k => aFld 2 t1 (k · H)) fun t19 =>
 aPure H (fun k => aLoad false 1 t19 H (k · H)) fun t20 =>
 aPure H (fun k => k t4 H) fun t21 =>
 aPure H (fun k => aIdxA 3 t20 t21 (k · H)) fun t22 =>
 aPure H (fun k => aLoad true 3 t22 H (k · H)) fun t23 =>
 aPureX H (fun H k => ACalls tP n_zq113 [t23] H k) fun t24 =>
 aPure H (fun k => aBuildS 3 [(.int .i64 0), (.int .i64 0), .snil] 1 [(0, t24)] (k · H)) fun t25 =>
 aAppend e_api_Type 3 40 t18 t25 H fun t26 H =>
 aPure H (fun k => aFld 2 t3 (k · H)) fun t27 =>
 aStore 1 t27 t26 H fun H =>
 aBin .add false t4 (.int .i64 1) fun t16 =>
 Kb3 (zq113_fr3 t1 t2 t3 t16) H)
 (aLoad true 3 t3 H fun t28 =>
 aStore 3 t2 t28 H fun H =>
 aLoad true 3 t2 H fun r0 =>
 K r0 H)
def zq113 (t0 : AV) (H : Heap) (K : Kt) : Prop :=
 aBox t0 H fun t1 H =>
 aNew [(.int .i64 0), (.int .i64 0), .snil] H fun t2 H =>
 aFld 0 t1 fun t5 =>
 aLoad false 1 t5 H fun t6 =>
 aFld 1 t1 fun t7 =>
 aLoad false 1 t7 H fun t8 =>
 aBuild [(.int .i64 0), (.int .i64 0), .snil] [(0, 1), (1, 1), (2, 1)] [(0, t6), (1, t8)] fun t9 =>
 aNew [(.int .i64 0), (.int .i64 0), .snil] H fun t3 H =>
 aStore 3 t3 t9 H fun H =>
 zq113_l3 t1 t2 t3 (.int .i64 0) H K
theorem zq113_b3_eq (t1 t2 t3 t4 : AV) (H : Heap) (K : Kt) (Kb3 : Lt) : awp tP zq113_M zq113_c3 (roundQ zq113_m3 Kb3 (zq113_Q3 K)) (zq113_fr3 t1 t2 t3 t4) H = zq113_b3 t1 t2 t3 t4 H K Kb3 := by kernel_rfl
theorem zq113_loop3 {t1 t2 t3 t4 : AV} {H : Heap} {K : Kt} (Inv : Nat → AV → Heap → Prop) (n : Nat) (h0 : HSc H → Inv n t4 H)
   (round : ∀ n t4 H', Inv n t4 H' → HSc H' → H.length ≤ H'.length → (zq113_fr3 t1 t2 t3 t4).all (AV.sc H'.length) = true → ∀ Kb3 : Lt, (∀ F'' H'', (∃ n', n' < n ∧ Back H.length (fun F2 H2 => ∃ t4, F2 = zq113_fr3 t1 t2 t3 t4 ∧ Inv n' t4 H2) F'' H'') → Kb3 F'' H'') → zq113_b3 t1 t2 t3 t4 H' K Kb3) : zq113_l3 t1 t2 t3 t4 H K :=
 aloop (M := zq113_M) zq113_m3 (fun n F H => ∃ t4, F = zq113_fr3 t1 t2 t3 t4 ∧ Inv n t4 H) n (fun hs _ => ⟨t4, rfl, h0 hs⟩) (fun n F H' ⟨t4, hF, hI⟩ h1 h2 h3 => by subst hF; rw [zq113_b3_eq]; exact round n t4 H' hI h1 h2 h3 _ (fun _ _ h => h))
theorem zq113_eq (t0 : AV) (H : Heap) (K : Kt) : awp tP zq113_M zq113_c (retQ tP zq113_r K) (t0 :: List.replicate 28 .unk) H = zq113 t0 H K := by kernel_rfl
theorem zq113_ok {t0 : AV} {H : Heap} {K : Kt} (h : HSc H → zq113 t0 H K) : ACalls tP n_zq113 [t0] H K :=
 acalls_body (M := zq113_M) Try.func115 (c := zq113_c) (by kernel_rfl) (fun hs => (zq113_eq t0 H K).mpr (h hs))
def zq83_M : Nat → List Bool
 | 6 => rl false [0,2,6,1,38,3,56]
 | 10 => rl false [0,2,6,2,37,3,28,3,25]
 | _ => []
noncomputable def zq83_c : Code := Try.f85.body.getD .skip
noncomputable def zq83_r : List ResultVar := Try.f85.results.toList
def zq83_fr6 (t0 t1 t8 t47 t48 t49 : AV) : List AV := t0 :: t1 :: ux 6 (t8 :: ux 38 (t47 :: t48 :: t49 :: ux 56 []))
def zq83_m6 : List Bool := zq83_M 6
noncomputable def zq83_c6 : Code := codeAt [1, 1, 1, 1, 0, 1, 0, 0] zq83_c
def zq83_Q6 (K : Kt) : AExit → List AV → Heap → Prop := contAt tP zq83_M [1, 1, 1, 1, 0, 1, 0] zq83_c (retQ tP zq83_r K)
def zq83_l6 (t0 t1 t8 t47 t48 t49 : AV) (H : Heap) (K : Kt) : Prop := ALoop tP zq83_c6 (zq83_Q6 K) (zq83_fr6 t0 t1 t8 t47 t48 t49) H
def zq83_fr10 (t0 t1 t8 t9 t47 t48 t49 t78 t79 t80 : AV) : List AV := t0 :: t1 :: ux 6 (t8 :: t9 :: ux 37 (t47 :: t48 :: t49 :: ux 28 (t78 :: t79 :: t80 :: ux 25 [])))
def zq83_m10 : List Bool := zq83_M 10
noncomputable def zq83_c10 : Code := codeAt [1, 1, 0, 0, 1, 1, 1, 0, 0] zq83_c6
def zq83_Q10 (K : Kt) (Kb6 : Lt) : AExit → List AV → Heap → Prop := contAt tP zq83_M [1, 1, 0, 0, 1, 1, 1, 0] zq83_c6 (roundQ zq83_m6 Kb6 (zq83_Q6 K))
def zq83_l10 (t0 t1 t8 t9 t47 t48 t49 t78 t79 t80 : AV) (H : Heap) (K : Kt) (Kb6 : Lt) : Prop := ALoop tP zq83_c10 (zq83_Q10 K Kb6) (zq83_fr10 t0 t1 t8 t9 t47 t48 t49 t78 t79 t80) H
def zq83_j2 (t0 t1 t8 t9 t47 t48 t49 t78 t79 t80 : AV) (H : Heap) (K : Kt) (Kb6 : Lt) (Kb10 : Lt) : Prop :=
 aBin .add false t80 (.int .i64 1) fun t103 =>
 Kb10 (zq83_fr10 t0 t1 t8 t9 t47 t48 t49 t78 t79 t103) H
def zq83_j1 (t0 t1 t8 t9 t47 t48 t49 t78 t79 t80 : AV) (H : Heap) (K : Kt) (Kb6 : Lt) (Kb10 : Lt) : Prop :=
 zq83_j2 t0 t1 t8 t9 t47 t48 t49 t78 t79 t80 H K Kb6 Kb10
def zq83_b10 (t0 t1 t8 t9 t47 t48 t49 t78 t79 t80 : AV) (H : Heap) (K : Kt) (Kb6 : Lt) (Kb10 : Lt) : Prop :=
 aBin .lss false t80 t79 fun t81 =>
 aTest t81
 (aIdxA 3 t78 t80 fun t83 =>
 aLoad true 3 t83 H fun t84 =>
 aNew [(.int .i64 0), (.int .i64 0), .snil] H fun t12 H =>
 aStore 3 t12 t84 H fun H =>
 aFld 0 t12 fun t85 =>
 aLoad false 1 t85 H fun t86 =>
 aBin .neq false t86 (.int .i64 4) fun t87 =>
 aGuardJ t87 false H (fun k => aFld 1 t12 (k · H)) fun t89 H =>
 aGuardJ t87 false H (fun k => aLoad false 1 t89 H (k · H)) fun t90 H =>
 aGuardJ t87 false H (fun k => k t80 H) fun t91 H =>
 aGuardJ t87 false H (fun k => aBin .neq false t90 t91 (k · H)) fun t92 H =>
 aPick t87 (.bool true) t92 fun t93 =>
 aGuardJ t93 false H (fun k => aFld 2 t12 (k · H)) fun t95 H =>
 aGuardJ t93 false H (fun k => aLoad false 1 t95 H (k · H)) fun t96 H =>
 aGuardJ t93 false H (fun k => aLen 1 t96 (k · H)) fun t97 H =>
 aGuardJ t93 false H (fun k => aBin .gtr false t97 (.int .i64 0) (k · H)) fun t98 H =>
 aPick t93 (.bool true) t98 fun t99 =>
 aTest t99
 (aIdxA 1 t8 t9 fun t102 =>
 aStore 1 t102 (.bool false) H fun H =>
 zq83_j1 t0 t1 t8 t9 t47 t48 t49 t78 t79 t80 H K Kb6 Kb10)
 (zq83_j1 t0 t1 t8 t9 t47 t48 t49 t78 t79 t80 H K Kb6 Kb10))
 (aBin .add false t49 (.int .i64 1) fun t104 =>
 Kb6 (zq83_fr6 t0 t1 t8 t47 t48 t104) H)
def zq83_b6 (t0 t1 t8 t47 t48 t49 : AV) (H : Heap) (K : Kt) (Kb6 : Lt) : Prop :=
 aBin .lss false t49 t48 fun t50 =>
 aTest t50
 (aIdxA 3 t47 t49 fun t52 =>
 aLoad true 3 t52 H fun t53 =>
 aNew [(.int .i64 0), (.int .i64 0), .snil] H fun t10 H =>
 aStore 3 t10 t53 H fun H =>
 aPure H (fun k => k t8 H) fun t54 =>
 aPure H (fun k => k t49 H) fun t55 =>
 aPure H (fun k => aFld 0 t10 (k · H)) fun t56 =>
 aPure H (fun k => aLoad false 1 t56 H (k · H)) fun t57 =>
 aPure H (fun k => aBin .eql false t57 (.int .i64 5) (k · H)) fun t58 =>
 aPure H (fun k => k t58 H) fun t59 =>
 aGuardJ t59 true H (fun k => aPure H (fun l => aFld 1 t10 (l · H)) (k · H)) fun t60 H =>
 aGuardJ t59 true H (fun k => aPure H (fun l => aLoad false 1 t60 H (l · H)) (k · H)) fun t61 H =>
 aGuardJ t59 true H (fun k => aPure H (fun l => l t1 H) (k · H)) fun t62 H =>
 aGuardJ t59 true H (fun k => aPure H (fun l => aBin .eql false t61 t62 (l · H)) (k · H)) fun t63 H =>
 aPure H (fun k => aPick t59 t63 (.bool false) (k · H)) fun t64 =>
 aPure H (fun k => k t64 H) fun t65 =>
 aGuardJ t65 true H (fun k => aPure H (fun l => aFld 2 t10 (l · H)) (k · H)) fun t66 H =>
 aGuardJ t65 true H (fun k => aPure H (fun l => aLoad false 1 t66 H (l · H)) (k · H)) fun t67 H =>
 aGuardJ t65 true H (fun k => aPure H (fun l => aLen 1 t67 (l · H)) (k · H)) fun t68 H =>
 aGuardJ t65 true H (fun k => aPure H (fun l => l t0 H) (k · H)) fun t69 H =>
 aGuardJ t65 true H (fun k => aPure H (fun l => l t1 H) (k · H)) fun t70 H =>
 aGuardJ t65 true H (fun k => aPure H (fun l => aIdxA 3 t69 t70 (l · H)) (k · H)) fun t71 H =>
 aGuardJ t65 true H (fun k => aPure H (fun l => aFld 1 t71 (l · H)) (k · H)) fun t72 H =>
 aGuardJ t65 true H (fun k => aPure H (fun l => aLoad false 1 t72 H (l · H)) (k · H)) fun t73 H =>
 aGuardJ t65 true H (fun k => aPure H (fun l => aBin .eql false t68 t73 (l · H)) (k · H)) fun t74 H =>
 aPure H (fun k => aPick t65 t74 (.bool false) (k · H)) fun t75 =>
 aPure H (fun k => aIdxA 1 t54 t55 (k · H)) fun t76 =>
 aStore 1 t76 t75 H fun H =>
 aFld 2 t10 fun t77 =>
 aLoad false 1 t77 H fun t78 =>
 aLen 1 t78 fun t79 =>
 zq83_l10 t0 t1 t8 t49 t47 t48 t49 t78 t79 (.int .i64 0) H K Kb6)
 (K t8 H)
def zq83 (t0 t1 t2 : AV) (H : Heap) (K : Kt) : Prop :=
 aBin .lss false t1 (.int .i64 0) fun t14 =>
 aGuardJ t14 false H (fun k => k t1 H) fun t16 H =>
 aGuardJ t14 false H (fun k => k t0 H) fun t17 H =>
 aGuardJ t14 false H (fun k => aLen 1 t17 (k · H)) fun t18 H =>
 aGuardJ t14 false H (fun k => aBin .geq false t16 t18 (k · H)) fun t19 H =>
 aPick t14 (.bool true) t19 fun t20 =>
 aGuardJ t20 false H (fun k => k t2 H) fun t22 H =>
 aGuardJ t20 false H (fun k => aBin .lss false t22 (.int .i64 0) (k · H)) fun t23 H =>
 aPick t20 (.bool true) t23 fun t24 =>
 aGuardJ t24 false H (fun k => k t2 H) fun t26 H =>
 aGuardJ t24 false H (fun k => k t0 H) fun t27 H =>
 aGuardJ t24 false H (fun k => k t1 H) fun t28 H =>
 aGuardJ t24 false H (fun k => aIdxA 3 t27 t28 (k · H)) fun t29 H =>
 aGuardJ t24 false H (fun k => aFld 2 t29 (k · H)) fun t30 H =>
 aGuardJ t24 false H (fun k => aLoad false 1 t30 H (k · H)) fun t31 H =>
 aGuardJ t24 false H (fun k => aLen 1 t31 (k · H)) fun t32 H =>
 aGuardJ t24 false H (fun k => aBin .geq false t26 t32 (k · H)) fun t33 H =>
 aPick t24 (.bool true) t33 fun t34 =>
 aTest t34
 (K .snil H)
 (aIdxA 3 t0 t1 fun t37 =>
 aFld 2 t37 fun t38 =>
 aLoad false 1 t38 H fun t39 =>
 aIdxA 2 t39 t2 fun t41 =>
 aFld 1 t41 fun t42 =>
 aLoad false 1 t42 H fun t43 =>
 aLen 1 t43 fun t45 =>
 aMake 1 [(.bool false)] t45 t45 H fun t46 H =>
 aLen 1 t43 fun t48 =>
 zq83_l6 t0 t1 t46 t43 t48 (.int .i64 0) H K)
theorem zq83_b10_eq (t0 t1 t8 t9 t47 t48 t49 t78 t79 t80 : AV) (H : Heap) (K : Kt) (Kb6 : Lt) (Kb10 : Lt) : awp tP zq83_M zq83_c10 (roundQ zq83_m10 Kb10 (zq83_Q10 K Kb6)) (zq83_fr10 t0 t1 t8 t9 t47 t48 t49 t78 t79 t80) H = zq83_b10 t0 t1 t8 t9 t47 t48 t49 t78 t79 t80 H K Kb6 Kb10 := by kernel_rfl
theorem zq83_loop10 {t0 t1 t8 t9 t47 t48 t49 t78 t79 t80 : AV} {H : Heap} {K : Kt} {Kb6 : Lt} (Inv : Nat → AV → Heap → Prop) (n : Nat) (h0 : HSc H → Inv n t80 H)
   (round : ∀ n t80 H', Inv n t80 H' → HSc H' → H.length ≤ H'.length → (zq83_fr10 t0 t1 t8 t9 t47 t48 t49 t78 t79 t80).all (AV.sc H'.length) = true → ∀ Kb10 : Lt, (∀ F'' H'', (∃ n', n' < n ∧ Back H.length (fun F2 H2 => ∃ t80, F2 = zq83_fr10 t0 t1 t8 t9 t47 t48 t49 t78 t79 t80 ∧ Inv n' t80 H2) F'' H'') → Kb10 F'' H'') → zq83_b10 t0 t1 t8 t9 t47 t48 t49 t78 t79 t80 H' K Kb6 Kb10) : zq83_l10 t0 t1 t8 t9 t47 t48 t49 t78 t79 t80 H K Kb6 :=
 aloop (M := zq83_M) zq83_m10 (fun n F H => ∃ t80, F = zq83_fr10 t0 t1 t8 t9 t47 t48 t49 t78 t79 t80 ∧ Inv n t80 H) n (fun hs _ => ⟨t80, rfl, h0 hs⟩) (fun n F H' ⟨t80, hF, hI⟩ h1 h2 h3 => by subst hF; rw [zq83_b10_eq]; exact round n t80 H' hI h1 h2 h3 _ (fun _ _ h => h))
theorem zq83_b6_eq (t0 t1 t8 t47 t48 t49 : AV) (H : Heap) (K : Kt) (Kb6 : Lt) : awp tP zq83_M zq83_c6 (roundQ zq83_m6 Kb6 (zq83_Q6 K)) (zq83_fr6 t0 t1 t8 t47 t48 t49) H = zq83_b6 t0 t1 t8 t47 t48 t49 H K Kb6 := by kernel_rfl
theorem zq83_loop6 {t0 t1 t8 t47 t48 t49 : AV} {H : Heap} {K : Kt} (Inv : Nat → AV → Heap → Prop) (n : Nat) (h0 : HSc H → Inv n t49 H)
   (round : ∀ n t49 H', Inv n t49 H' → HSc H' → H.length ≤ H'.length → (zq83_fr6 t0 t1 t8 t47 t48 t49).all (AV.sc H'.length) = true → ∀ Kb6 : Lt, (∀ F'' H'', (∃ n', n' < n ∧ Back H.length (fun F2 H2 => ∃ t49, F2 = zq83_fr6 t0 t1 t8 t47 t48 t49 ∧ Inv n' t49 H2) F'' H'') → Kb6 F'' H'') → zq83_b6 t0 t1 t8 t47 t48 t49 H' K Kb6) : zq83_l6 t0 t1 t8 t47 t48 t49 H K :=
 aloop (M := zq83_M) zq83_m6 (fun n F H => ∃ t49, F = zq83_fr6 t0 t1 t8 t47 t48 t49 ∧ Inv n t49 H) n (fun hs _ => ⟨t49, rfl, h0 hs⟩) (fun n F H' ⟨t49, hF, hI⟩ h1 h2 h3 => by subst hF; rw [zq83_b6_eq]; exact round n t49 H' hI h1 h2 h3 _ (fun _ _ h => h))
theorem zq83_eq (t0 t1 t2 : AV) (H : Heap) (K : Kt) : awp tP zq83_M zq83_c (retQ tP zq83_r K) (t0 :: t1 :: t2 :: List.replicate 103 .unk) H = zq83 t0 t1 t2 H K := by kernel_rfl
theorem zq83_ok {t0 t1 t2 : AV} {H : Heap} {K : Kt} (h : HSc H → zq83 t0 t1 t2 H K) : ACalls tP n_zq83 [t0, t1, t2] H K :=
 acalls_body (M := zq83_M) Try.func85 (c := zq83_c) (by kernel_rfl) (fun hs => (zq83_eq t0 t1 t2 H K).mpr (h hs))
def zq84_M (_ : Nat) : List Bool := []
noncomputable def zq84_c : Code := Try.f86.body.getD .skip
noncomputable def zq84_r : List ResultVar := Try.f86.results.toList
def zq84 (t0 t1 : AV) (H : Heap) (K : Kt) : Prop :=
 aBox t0 H fun t2 H =>
 aBox t1 H fun t3 H =>
 aFld 0 t2 fun t5 =>
 aLoad false 1 t5 H fun t6 =>
 aBin .eql false t6 (.int .i64 5) fun t7 =>
 aGuardJ t7 true H (fun k => aFld 1 t2 (k · H)) fun t9 H =>
 aGuardJ t7 true H (fun k => aLoad false 1 t9 H (k · H)) fun t10 H =>
 aGuardJ t7 true H (fun k => aLoad false 1 t3 H (k · H)) fun t11 H =>
 aGuardJ t7 true H (fun k => aBin .eql false t10 t11 (k · H)) fun t12 H =>
 aPick t7 t12 (.bool false) fun t13 =>
 aGuardJ t13 false H (fun k => aFld 2 t2 (k · H)) fun t15 H =>
 aGuardJ t13 false H (fun k => aLoad false 1 t15 H (k · H)) fun t16 H =>
 aGuardJ t13 false H (fun k => aClos n_zq101 [t3] (k · H)) fun t17 H =>
 aGuardJ t13 false H (fun k => ACalls tP n_zq66 [t16, t17] H k) fun t18 H =>
 aPick t13 (.bool true) t18 fun t19 =>
 K t19 H
theorem zq84_eq (t0 t1 : AV) (H : Heap) (K : Kt) : awp tP zq84_M zq84_c (retQ tP zq84_r K) (t0 :: t1 :: List.replicate 18 .unk) H = zq84 t0 t1 H K := by kernel_rfl
theorem zq84_ok {t0 t1 : AV} {H : Heap} {K : Kt} (h : HSc H → zq84 t0 t1 H K) : ACalls tP n_zq84 [t0, t1] H K :=
 acalls_body (M := zq84_M) Try.func86 (c := zq84_c) (by kernel_rfl) (fun hs => (zq84_eq t0 t1 H K).mpr (h hs))
def zq101_M (_ : Nat) : List Bool := []
noncomputable def zq101_c : Code := Try.f103.body.getD .skip
noncomputable def zq101_r : List ResultVar := Try.f103.results.toList
def zq101 (t0 t1 : AV) (H : Heap) (K : Kt) : Prop :=
 aBox t0 H fun t2 H =>
 aLoad true 3 t2 H fun t4 =>
 aLoad false 1 t1 H fun t5 =>
 ACalls tP n_zq84 [t4, t5] H fun t6 H =>
 K t6 H
theorem zq101_eq (t0 t1 : AV) (H : Heap) (K : Kt) : awp tP zq101_M zq101_c (retQ tP zq101_r K) (t0 :: t1 :: List.replicate 5 .unk) H = zq101 t0 t1 H K := by kernel_rfl
theorem zq101_ok {t0 t1 : AV} {H : Heap} {K : Kt} (h : HSc H → zq101 t0 t1 H K) : ACalls tP n_zq101 [t0, t1] H K :=
 acalls_body (M := zq101_M) Try.func103 (c := zq101_c) (by kernel_rfl) (fun hs => (zq101_eq t0 t1 H K).mpr (h hs))
def zq76_M : Nat → List Bool
 | 4 => rl false [3,1,3,1,50]
 | _ => []
noncomputable def zq76_c : Code := Try.f78.body.getD .skip
noncomputable def zq76_r : List ResultVar := Try.f78.results.toList
def zq76_fr4 (t3 t7 : AV) : List AV := ux 3 (t3 :: ux 3 (t7 :: ux 50 []))
def zq76_m4 : List Bool := zq76_M 4
noncomputable def zq76_c4 : Code := codeAt [1, 1, 0, 1, 0, 0] zq76_c
def zq76_Q4 (K : Kt) : AExit → List AV → Heap → Prop := contAt tP zq76_M [1, 1, 0, 1, 0] zq76_c (retQ tP zq76_r K)
def zq76_l4 (t3 t7 : AV) (H : Heap) (K : Kt) : Prop := ALoop tP zq76_c4 (zq76_Q4 K) (zq76_fr4 t3 t7) H
def zq76_b4 (t3 t7 : AV) (H : Heap) (K : Kt) (Kb4 : Lt) : Prop :=
 aFld 2 t3 fun t25 =>
 aLoad false 1 t25 H fun t26 =>
 aLen 1 t26 fun t27 =>
 aBin .lss false t7 t27 fun t28 =>
 aTest t28
 (aFld 2 t3 fun t31 =>
 aLoad false 1 t31 H fun t32 =>
 aIdxA 3 t32 t7 fun t34 =>
 aFld 0 t34 fun t35 =>
 aLoad false 1 t35 H fun t36 =>
 aBin .neq false t36 (.int .i64 4) fun t37 =>
 aGuardJ t37 false H (fun k => aFld 2 t3 (k · H)) fun t39 H =>
 aGuardJ t37 false H (fun k => aLoad false 1 t39 H (k · H)) fun t40 H =>
 aGuardJ t37 false H (fun k => k t7 H) fun t41 H =>
 aGuardJ t37 false H (fun k => aIdxA 3 t40 t41 (k · H)) fun t42 H =>
 aGuardJ t37 false H (fun k => aFld 1 t42 (k · H)) fun t43 H =>
 aGuardJ t37 false H (fun k => aLoad false 1 t43 H (k · H)) fun t44 H =>
 aGuardJ t37 false H (fun k => k t7 H) fun t45 H =>
 aGuardJ t37 false H (fun k => aBin .neq false t44 t45 (k · H)) fun t46 H =>
 aPick t37 (.bool true) t46 fun t47 =>
 aGuardJ t47 false H (fun k => aFld 2 t3 (k · H)) fun t49 H =>
 aGuardJ t47 false H (fun k => aLoad false 1 t49 H (k · H)) fun t50 H =>
 aGuardJ t47 false H (fun k => k t7 H) fun t51 H =>
 aGuardJ t47 false H (fun k => aIdxA 3 t50 t51 (k · H)) fun t52 H =>
 aGuardJ t47 false H (fun k => aFld 2 t52 (k · H)) fun t53 H =>
 aGuardJ t47 false H (fun k => aLoad false 1 t53 H (k · H)) fun t54 H =>
 aGuardJ t47 false H (fun k => aLen 1 t54 (k · H)) fun t55 H =>
 aGuardJ t47 false H (fun k => aBin .gtr false t55 (.int .i64 0) (k · H)) fun t56 H =>
 aPick t47 (.bool true) t56 fun t57 =>
 aTest t57
 (K (.bool false) H)
 (aBin .add false t7 (.int .i64 1) fun t30 =>
 Kb4 (zq76_fr4 t3 t30) H))
 (K (.bool true) H)
def zq76 (t0 t1 t2 : AV) (H : Heap) (K : Kt) : Prop :=
 aBox t0 H fun t3 H =>
 aFld 0 t3 fun t8 =>
 aLoad false 1 t8 H fun t9 =>
 aBin .neq false t9 (.int .i64 5) fun t10 =>
 aGuardJ t10 false H (fun k => aFld 1 t3 (k · H)) fun t12 H =>
 aGuardJ t10 false H (fun k => aLoad false 1 t12 H (k · H)) fun t13 H =>
 aGuardJ t10 false H (fun k => k t1 H) fun t14 H =>
 aGuardJ t10 false H (fun k => aBin .neq false t13 t14 (k · H)) fun t15 H =>
 aPick t10 (.bool true) t15 fun t16 =>
 aGuardJ t16 false H (fun k => aFld 2 t3 (k · H)) fun t18 H =>
 aGuardJ t16 false H (fun k => aLoad false 1 t18 H (k · H)) fun t19 H =>
 aGuardJ t16 false H (fun k => aLen 1 t19 (k · H)) fun t20 H =>
 aGuardJ t16 false H (fun k => k t2 H) fun t21 H =>
 aGuardJ t16 false H (fun k => aBin .neq false t20 t21 (k · H)) fun t22 H =>
 aPick t16 (.bool true) t22 fun t23 =>
 aTest t23
 (K (.bool false) H)
 (zq76_l4 t3 (.int .i64 0) H K)
theorem zq76_b4_eq (t3 t7 : AV) (H : Heap) (K : Kt) (Kb4 : Lt) : awp tP zq76_M zq76_c4 (roundQ zq76_m4 Kb4 (zq76_Q4 K)) (zq76_fr4 t3 t7) H = zq76_b4 t3 t7 H K Kb4 := by kernel_rfl
theorem zq76_loop4 {t3 t7 : AV} {H : Heap} {K : Kt} (Inv : Nat → AV → Heap → Prop) (n : Nat) (h0 : HSc H → Inv n t7 H)
   (round : ∀ n t7 H', Inv n t7 H' → HSc H' → H.length ≤ H'.length → (zq76_fr4 t3 t7).all (AV.sc H'.length) = true → ∀ Kb4 : Lt, (∀ F'' H'', (∃ n', n' < n ∧ Back H.length (fun F2 H2 => ∃ t7, F2 = zq76_fr4 t3 t7 ∧ Inv n' t7 H2) F'' H'') → Kb4 F'' H'') → zq76_b4 t3 t7 H' K Kb4) : zq76_l4 t3 t7 H K :=
 aloop (M := zq76_M) zq76_m4 (fun n F H => ∃ t7, F = zq76_fr4 t3 t7 ∧ Inv n t7 H) n (fun hs _ => ⟨t7, rfl, h0 hs⟩) (fun n F H' ⟨t7, hF, hI⟩ h1 h2 h3 => by subst hF; rw [zq76_b4_eq]; exact round n t7 H' hI h1 h2 h3 _ (fun _ _ h => h))
theorem zq76_eq (t0 t1 t2 : AV) (H : Heap) (K : Kt) : awp tP zq76_M zq76_c (retQ tP zq76_r K) (t0 :: t1 :: t2 :: List.replicate 55 .unk) H = zq76 t0 t1 t2 H K := by kernel_rfl
theorem zq76_ok {t0 t1 t2 : AV} {H : Heap} {K : Kt} (h : HSc H → zq76 t0 t1 t2 H K) : ACalls tP n_zq76 [t0, t1, t2] H K :=
 acalls_body (M := zq76_M) Try.func78 (c := zq76_c) (by kernel_rfl) (fun hs => (zq76_eq t0 t1 t2 H K).mpr (h hs))
end Go.Proofs.Ytkdmpbhbmmhijaa
