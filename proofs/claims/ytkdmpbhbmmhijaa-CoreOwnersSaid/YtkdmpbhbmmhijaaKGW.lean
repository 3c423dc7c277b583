/- The shallow forms of functions of the program, printed by a program (absgen.py) off the translation, each tied to the model by the kernel. -/
import Derived.Test.YtkdmpbhbmmhijaaKNum
import Derived.Test.YtkdmpbhbmmhijaaProg
import Derived.KernelRfl
namespace Go.Proofs.Ytkdmpbhbmmhijaa
open Go Go.Abs
set_option linter.unusedVariables false
set_option maxRecDepth 100000
def zq3_M (_ : Nat) : List Bool := []
noncomputable def zq3_c : Code := Try.f5.body.getD .skip
noncomputable def zq3_r : List ResultVar := Try.f5.results.toList
def zq3 (t0 : AV) (H : Heap) (K : Kt) : Prop :=
 aBox t0 H fun t1 H =>
 aLoad true 4 t1 H fun t3 =>
 ACalls tP n_zq10 [t3] H fun t4 H =>
 aUn .not t4 fun t5 =>
 aTest t5
 (K (.bool true) H)
 (aPure H (fun k => aLoad true 4 t1 H (k · H)) fun t6 =>
 aPureX H (fun H k => ACalls tP n_zq20 [t6] H k) fun t7 =>
 aPure H (fun k => aLoad true 4 t1 H (k · H)) fun t8 =>
 aPureX H (fun H k => ACalls tP n_zq21 [t8] H k) fun t9 =>
 aPureX H (fun H k => ACalls tP n_zq19 [t7, t9] H k) fun t10 =>
 aPure H (fun k => k t10 H) fun t11 =>
 aGuardJ t11 true H (fun k => aPure H (fun l => aLoad true 4 t1 H (l · H)) (k · H)) fun t12 H =>
 aGuardJ t11 true H (fun k => aPureX H (fun H l => ACalls tP n_zq22 [t12] H l) (k · H)) fun t13 H =>
 aGuardJ t11 true H (fun k => aPure H (fun l => aLoad true 4 t1 H (l · H)) (k · H)) fun t14 H =>
 aGuardJ t11 true H (fun k => aPureX H (fun H l => ACalls tP n_zq23 [t14] H l) (k · H)) fun t15 H =>
 aGuardJ t11 true H (fun k => aPureX H (fun H l => ACalls tP n_zq19 [t13, t15] H l) (k · H)) fun t16 H =>
 aPure H (fun k => aPick t11 t16 (.bool false) (k · H)) fun t17 =>
 aPure H (fun k => k t17 H) fun t18 =>
 aGuardJ t18 true H (fun k => aPureX H (fun H l => ACalls tP n_zq18 [] H l) (k · H)) fun t19 H =>
 aGuardJ t18 true H (fun k => aPureX H (fun H l => ACalls tP n_zq20 [t19] H l) (k · H)) fun t20 H =>
 aGuardJ t18 true H (fun k => aPure H (fun l => aLen 1 t20 (l · H)) (k · H)) fun t21 H =>
 aGuardJ t18 true H (fun k => aPure H (fun l => aBin .eql false t21 (.int .i64 1) (l · H)) (k · H)) fun t22 H =>
 aPure H (fun k => aPick t18 t22 (.bool false) (k · H)) fun t23 =>
 aPure H (fun k => k t23 H) fun t2 =>
 K t2 H)
theorem zq3_eq (t0 : AV) (H : Heap) (K : Kt) : awp tP zq3_M zq3_c (retQ tP zq3_r K) (t0 :: List.replicate 23 .unk) H = zq3 t0 H K := by kernel_rfl
theorem zq3_ok {t0 : AV} {H : Heap} {K : Kt} (h : HSc H → zq3 t0 H K) : ACalls tP n_zq3 [t0] H K :=
 acalls_body (M := zq3_M) Try.func5 (c := zq3_c) (by kernel_rfl) (fun hs => (zq3_eq t0 H K).mpr (h hs))
def zq19_M : Nat → List Bool
 | 4 => rl false [0,2,10,2,12]
 | _ => []
noncomputable def zq19_c : Code := Try.f21.body.getD .skip
noncomputable def zq19_r : List ResultVar := Try.f21.results.toList
def zq19_fr4 (t0 t1 t12 t13 : AV) : List AV := t0 :: t1 :: ux 10 (t12 :: t13 :: ux 12 [])
def zq19_m4 : List Bool := zq19_M 4
noncomputable def zq19_c4 : Code := codeAt [1, 1, 0, 1, 0, 0] zq19_c
def zq19_Q4 (K : Kt) : AExit → List AV → Heap → Prop := contAt tP zq19_M [1, 1, 0, 1, 0] zq19_c (retQ tP zq19_r K)
def zq19_l4 (t0 t1 t12 t13 : AV) (H : Heap) (K : Kt) : Prop := ALoop tP zq19_c4 (zq19_Q4 K) (zq19_fr4 t0 t1 t12 t13) H
def zq19_b4 (t0 t1 t12 t13 : AV) (H : Heap) (K : Kt) (Kb4 : Lt) : Prop :=
 aBin .lss false t13 t12 fun t14 =>
 aTest t14
 (aPure H (fun k => k t0 H) fun t16 =>
 aPure H (fun k => k t13 H) fun t17 =>
 aPure H (fun k => aIdxA 1 t16 t17 (k · H)) fun t18 =>
 aPure H (fun k => aLoad false 1 t18 H (k · H)) fun t19 =>
 aPure H (fun k => k t1 H) fun t20 =>
 aPure H (fun k => k t13 H) fun t21 =>
 aPure H (fun k => aIdxA 1 t20 t21 (k · H)) fun t22 =>
 aPure H (fun k => aLoad false 1 t22 H (k · H)) fun t23 =>
 aPure H (fun k => aBin .neq false t19 t23 (k · H)) fun t24 =>
 aTest t24
 (K (.bool false) H)
 (aBin .add false t13 (.int .i64 1) fun t25 =>
 Kb4 (zq19_fr4 t0 t1 t12 t25) H))
 (K (.bool true) H)
def zq19 (t0 t1 : AV) (H : Heap) (K : Kt) : Prop :=
 aLen 1 t0 fun t7 =>
 aLen 1 t1 fun t9 =>
 aBin .neq false t7 t9 fun t10 =>
 aTest t10
 (K (.bool false) H)
 (aLen 1 t0 fun t12 =>
 zq19_l4 t0 t1 t12 (.int .i64 0) H K)
theorem zq19_b4_eq (t0 t1 t12 t13 : AV) (H : Heap) (K : Kt) (Kb4 : Lt) : awp tP zq19_M zq19_c4 (roundQ zq19_m4 Kb4 (zq19_Q4 K)) (zq19_fr4 t0 t1 t12 t13) H = zq19_b4 t0 t1 t12 t13 H K Kb4 := by kernel_rfl
theorem zq19_loop4 {t0 t1 t12 t13 : AV} {H : Heap} {K : Kt} (Inv : Nat → AV → Heap → Prop) (n : Nat) (h0 : HSc H → Inv n t13 H)
   (round : ∀ n t13 H', Inv n t13 H' → HSc H' → H.length ≤ H'.length → (zq19_fr4 t0 t1 t12 t13).all (AV.sc H'.length) = true → ∀ Kb4 : Lt, (∀ F'' H'', (∃ n', n' < n ∧ Back H.length (fun F2 H2 => ∃ t13, F2 = zq19_fr4 t0 t1 t12 t13 ∧ Inv n' t13 H2) F'' H'') → Kb4 F'' H'') → zq19_b4 t0 t1 t12 t13 H' K Kb4) : zq19_l4 t0 t1 t12 t13 H K :=
 aloop (M := zq19_M) zq19_m4 (fun n F H => ∃ t13, F = zq19_fr4 t0 t1 t12 t13 ∧ Inv n t13 H) n (fun hs _ => ⟨t13, rfl, h0 hs⟩) (fun n F H' ⟨t13, hF, hI⟩ h1 h2 h3 => by subst hF; rw [zq19_b4_eq]; exact round n t13 H' hI h1 h2 h3 _ (fun _ _ h => h))
theorem zq19_eq (t0 t1 : AV) (H : Heap) (K : Kt) : awp tP zq19_M zq19_c (retQ tP zq19_r K) (t0 :: t1 :: List.replicate 24 .unk) H = zq19 t0 t1 H K := by kernel_rfl
theorem zq19_ok {t0 t1 : AV} {H : Heap} {K : Kt} (h : HSc H → zq19 t0 t1 H K) : ACalls tP n_zq19 [t0, t1] H K :=
 acalls_body (M := zq19_M) Try.func21 (c := zq19_c) (by kernel_rfl) (fun hs => (zq19_eq t0 t1 H K).mpr (h hs))
def zq20_M (_ : Nat) : List Bool := []
noncomputable def zq20_c : Code := Try.f22.body.getD .skip
noncomputable def zq20_r : List ResultVar := Try.f22.results.toList
def zq20 (t0 : AV) (H : Heap) (K : Kt) : Prop :=
 aBox t0 H fun t1 H =>
 aLoad true 4 t1 H fun t3 =>
 ACalls tP n_zq11 [t3] H fun t4 H =>
 aUn .not t4 fun t5 =>
 aTest t5
 (K .snil H)
 (aLoad true 4 t1 H fun t6 =>
 ACalls tP n_zq54 [t6] H fun t7 H =>
 K t7 H)
theorem zq20_eq (t0 : AV) (H : Heap) (K : Kt) : awp tP zq20_M zq20_c (retQ tP zq20_r K) (t0 :: List.replicate 7 .unk) H = zq20 t0 H K := by kernel_rfl
theorem zq20_ok {t0 : AV} {H : Heap} {K : Kt} (h : HSc H → zq20 t0 H K) : ACalls tP n_zq20 [t0] H K :=
 acalls_body (M := zq20_M) Try.func22 (c := zq20_c) (by kernel_rfl) (fun hs => (zq20_eq t0 H K).mpr (h hs))
def zq21_M : Nat → List Bool
 | 5 => rl false [1,1,1,1,14,3,38]
 | 10 => rl false [3,1,28,3,24]
 | 13 => rl false [3,1,2,1,25,3,5,3,16]
 | _ => []
noncomputable def zq21_c : Code := Try.f23.body.getD .skip
noncomputable def zq21_r : List ResultVar := Try.f23.results.toList
def zq21_fr5 (t1 t3 t18 t19 t20 : AV) : List AV := ux 1 (t1 :: ux 1 (t3 :: ux 14 (t18 :: t19 :: t20 :: ux 38 [])))
def zq21_m5 : List Bool := zq21_M 5
noncomputable def zq21_c5 : Code := codeAt [1, 1, 1, 0, 1, 0, 0] zq21_c
def zq21_Q5 (K : Kt) : AExit → List AV → Heap → Prop := contAt tP zq21_M [1, 1, 1, 0, 1, 0] zq21_c (retQ tP zq21_r K)
def zq21_l5 (t1 t3 t18 t19 t20 : AV) (H : Heap) (K : Kt) : Prop := ALoop tP zq21_c5 (zq21_Q5 K) (zq21_fr5 t1 t3 t18 t19 t20) H
def zq21_fr10 (t3 t32 t33 t34 : AV) : List AV := ux 3 (t3 :: ux 28 (t32 :: t33 :: t34 :: ux 24 []))
def zq21_m10 : List Bool := zq21_M 10
noncomputable def zq21_c10 : Code := codeAt [1, 1, 1, 1, 0, 1, 0, 0] zq21_c
def zq21_Q10 (K : Kt) : AExit → List AV → Heap → Prop := contAt tP zq21_M [1, 1, 1, 1, 0, 1, 0] zq21_c (retQ tP zq21_r K)
def zq21_l10 (t3 t32 t33 t34 : AV) (H : Heap) (K : Kt) : Prop := ALoop tP zq21_c10 (zq21_Q10 K) (zq21_fr10 t3 t32 t33 t34) H
def zq21_fr13 (t3 t6 t32 t33 t34 t40 t41 t42 : AV) : List AV := ux 3 (t3 :: ux 2 (t6 :: ux 25 (t32 :: t33 :: t34 :: ux 5 (t40 :: t41 :: t42 :: ux 16 []))))
def zq21_m13 : List Bool := zq21_M 13
noncomputable def zq21_c13 : Code := codeAt [1, 1, 0, 0, 1, 1, 0, 0] zq21_c10
def zq21_Q13 (K : Kt) (Kb10 : Lt) : AExit → List AV → Heap → Prop := contAt tP zq21_M [1, 1, 0, 0, 1, 1, 0] zq21_c10 (roundQ zq21_m10 Kb10 (zq21_Q10 K))
def zq21_l13 (t3 t6 t32 t33 t34 t40 t41 t42 : AV) (H : Heap) (K : Kt) (Kb10 : Lt) : Prop := ALoop tP zq21_c13 (zq21_Q13 K Kb10) (zq21_fr13 t3 t6 t32 t33 t34 t40 t41 t42) H
def zq21_j2 (t3 t6 t32 t33 t34 t40 t41 t42 : AV) (H : Heap) (K : Kt) (Kb10 : Lt) (Kb13 : Lt) : Prop :=
 aBin .add false t42 (.int .i64 1) fun t56 =>
 Kb13 (zq21_fr13 t3 t6 t32 t33 t34 t40 t41 t56) H
def zq21_j1 (t3 t6 t32 t33 t34 t40 t41 t42 : AV) (H : Heap) (K : Kt) (Kb10 : Lt) (Kb13 : Lt) : Prop :=
 zq21_j2 t3 t6 t32 t33 t34 t40 t41 t42 H K Kb10 Kb13
def zq21_b13 (t3 t6 t32 t33 t34 t40 t41 t42 : AV) (H : Heap) (K : Kt) (Kb10 : Lt) (Kb13 : Lt) : Prop :=
 aBin .lss false t42 t41 fun t43 =>
 aTest t43
 (aIdxA 1 t40 t42 fun t44 =>
 aLoad false 1 t44 H fun t45 =>
 aBin .gtr false t45 t6 fun t48 =>
 aTest t48
 (aIdxA 1 t3 t6 fun t53 =>
 aLoad false 1 t53 H fun t54 =>
 aIdxA 1 t3 t45 fun t55 =>
 aStore 1 t55 t54 H fun H =>
 zq21_j1 t3 t6 t32 t33 t34 t40 t41 t42 H K Kb10 Kb13)
 (zq21_j1 t3 t6 t32 t33 t34 t40 t41 t42 H K Kb10 Kb13))
 (aBin .add false t34 (.int .i64 1) fun t57 =>
 Kb10 (zq21_fr10 t3 t32 t33 t57) H)
def zq21_b10 (t3 t32 t33 t34 : AV) (H : Heap) (K : Kt) (Kb10 : Lt) : Prop :=
 aBin .lss false t34 t33 fun t35 =>
 aTest t35
 (aIdxA 8 t32 t34 fun t37 =>
 aLoad true 8 t37 H fun t38 =>
 aNew [(.int .i64 0), (.int .i64 0), .snil, .snil, .snil, (.int .i64 0), (.int .i64 0), .snil] H fun t7 H =>
 aStore 8 t7 t38 H fun H =>
 aFld 4 t7 fun t39 =>
 aLoad false 1 t39 H fun t40 =>
 aLen 1 t40 fun t41 =>
 zq21_l13 t3 t34 t32 t33 t34 t40 t41 (.int .i64 0) H K Kb10)
 (K t3 H)
def zq21_b5 (t1 t3 t18 t19 t20 : AV) (H : Heap) (K : Kt) (Kb5 : Lt) : Prop :=
 aBin .lss false t20 t19 fun t21 =>
 aTest t21
 (aIdxA 7 t18 t20 fun t23 =>
 aLoad true 7 t23 H fun t24 =>
 aNew [(.str []), .snil, .snil, (.int .i64 0), (.int .i64 0), .snil, (.int .i64 0)] H fun t5 H =>
 aStore 7 t5 t24 H fun H =>
 aFld 6 t5 fun t26 =>
 aLoad false 1 t26 H fun t27 =>
 aIdxA 1 t3 t27 fun t29 =>
 aStore 1 t29 t20 H fun H =>
 aBin .add false t20 (.int .i64 1) fun t30 =>
 Kb5 (zq21_fr5 t1 t3 t18 t19 t30) H)
 (aFld 3 t1 fun t31 =>
 aLoad false 1 t31 H fun t32 =>
 aLen 1 t32 fun t33 =>
 zq21_l10 t3 t32 t33 (.int .i64 0) H K)
def zq21 (t0 : AV) (H : Heap) (K : Kt) : Prop :=
 aBox t0 H fun t1 H =>
 aLoad true 4 t1 H fun t10 =>
 ACalls tP n_zq12 [t10] H fun t11 H =>
 aUn .not t11 fun t12 =>
 aTest t12
 (K .snil H)
 (aFld 3 t1 fun t13 =>
 aLoad false 1 t13 H fun t14 =>
 aLen 1 t14 fun t15 =>
 aMake 8 [(.int .i64 0)] t15 t15 H fun t16 H =>
 aFld 1 t1 fun t17 =>
 aLoad false 1 t17 H fun t18 =>
 aLen 1 t18 fun t19 =>
 zq21_l5 t1 t16 t18 t19 (.int .i64 0) H K)
theorem zq21_b13_eq (t3 t6 t32 t33 t34 t40 t41 t42 : AV) (H : Heap) (K : Kt) (Kb10 : Lt) (Kb13 : Lt) : awp tP zq21_M zq21_c13 (roundQ zq21_m13 Kb13 (zq21_Q13 K Kb10)) (zq21_fr13 t3 t6 t32 t33 t34 t40 t41 t42) H = zq21_b13 t3 t6 t32 t33 t34 t40 t41 t42 H K Kb10 Kb13 := by kernel_rfl
theorem zq21_loop13 {t3 t6 t32 t33 t34 t40 t41 t42 : AV} {H : Heap} {K : Kt} {Kb10 : Lt} (Inv : Nat → AV → Heap → Prop) (n : Nat) (h0 : HSc H → Inv n t42 H)
   (round : ∀ n t42 H', Inv n t42 H' → HSc H' → H.length ≤ H'.length → (zq21_fr13 t3 t6 t32 t33 t34 t40 t41 t42).all (AV.sc H'.length) = true → ∀ Kb13 : Lt, (∀ F'' H'', (∃ n', n' < n ∧ Back H.length (fun F2 H2 => ∃ t42, F2 = zq21_fr13 t3 t6 t32 t33 t34 t40 t41 t42 ∧ Inv n' t42 H2) F'' H'') → Kb13 F'' H'') → zq21_b13 t3 t6 t32 t33 t34 t40 t41 t42 H' K Kb10 Kb13) : zq21_l13 t3 t6 t32 t33 t34 t40 t41 t42 H K Kb10 :=
 aloop (M := zq21_M) zq21_m13 (fun n F H => ∃ t42, F = zq21_fr13 t3 t6 t32 t33 t34 t40 t41 t42 ∧ Inv n t42 H) n (fun hs _ => ⟨t42, rfl, h0 hs⟩) (fun n F H' ⟨t42, hF, hI⟩ h1 h2 h3 => by subst hF; rw [zq21_b13_eq]; exact round n t42 H' hI h1 h2 h3 _ (fun _ _ h => h))
theorem zq21_b10_eq (t3 t32 t33 t34 : AV) (H : Heap) (K : Kt) (Kb10 : Lt) : awp tP zq21_M zq21_c10 (roundQ zq21_m10 Kb10 (zq21_Q10 K)) (zq21_fr10 t3 t32 t33 t34) H = zq21_b10 t3 t32 t33 t34 H K Kb10 := by kernel_rfl
theorem zq21_loop10 {t3 t32 t33 t34 : AV} {H : Heap} {K : Kt} (Inv : Nat → AV → Heap → Prop) (n : Nat) (h0 : HSc H → Inv n t34 H)
   (round : ∀ n t34 H', Inv n t34 H' → HSc H' → H.length ≤ H'.length → (zq21_fr10 t3 t32 t33 t34).all (AV.sc H'.length) = true → ∀ Kb10 : Lt, (∀ F'' H'', (∃ n', n' < n ∧ Back H.length (fun F2 H2 => ∃ t34, F2 = zq21_fr10 t3 t32 t33 t34 ∧ Inv n' t34 H2) F'' H'') → Kb10 F'' H'') → zq21_b10 t3 t32 t33 t34 H' K Kb10) : zq21_l10 t3 t32 t33 t34 H K :=
 aloop (M := zq21_M) zq21_m10 (fun n F H => ∃ t34, F = zq21_fr10 t3 t32 t33 t34 ∧ Inv n t34 H) n (fun hs _ => ⟨t34, rfl, h0 hs⟩) (fun n F H' ⟨t34, hF, hI⟩ h1 h2 h3 => by subst hF; rw [zq21_b10_eq]; exact round n t34 H' hI h1 h2 h3 _ (fun _ _ h => h))
theorem zq21_b5_eq (t1 t3 t18 t19 t20 : AV) (H : Heap) (K : Kt) (Kb5 : Lt) : awp tP zq21_M zq21_c5 (roundQ zq21_m5 Kb5 (zq21_Q5 K)) (zq21_fr5 t1 t3 t18 t19 t20) H = zq21_b5 t1 t3 t18 t19 t20 H K Kb5 := by kernel_rfl
theorem zq21_loop5 {t1 t3 t18 t19 t20 : AV} {H : Heap} {K : Kt} (Inv : Nat → AV → Heap → Prop) (n : Nat) (h0 : HSc H → Inv n t20 H)
   (round : ∀ n t20 H', Inv n t20 H' → HSc H' → H.length ≤ H'.length → (zq21_fr5 t1 t3 t18 t19 t20).all (AV.sc H'.length) = true → ∀ Kb5 : Lt, (∀ F'' H'', (∃ n', n' < n ∧ Back H.length (fun F2 H2 => ∃ t20, F2 = zq21_fr5 t1 t3 t18 t19 t20 ∧ Inv n' t20 H2) F'' H'') → Kb5 F'' H'') → zq21_b5 t1 t3 t18 t19 t20 H' K Kb5) : zq21_l5 t1 t3 t18 t19 t20 H K :=
 aloop (M := zq21_M) zq21_m5 (fun n F H => ∃ t20, F = zq21_fr5 t1 t3 t18 t19 t20 ∧ Inv n t20 H) n (fun hs _ => ⟨t20, rfl, h0 hs⟩) (fun n F H' ⟨t20, hF, hI⟩ h1 h2 h3 => by subst hF; rw [zq21_b5_eq]; exact round n t20 H' hI h1 h2 h3 _ (fun _ _ h => h))
theorem zq21_eq (t0 : AV) (H : Heap) (K : Kt) : awp tP zq21_M zq21_c (retQ tP zq21_r K) (t0 :: List.replicate 58 .unk) H = zq21 t0 H K := by kernel_rfl
theorem zq21_ok {t0 : AV} {H : Heap} {K : Kt} (h : HSc H → zq21 t0 H K) : ACalls tP n_zq21 [t0] H K :=
 acalls_body (M := zq21_M) Try.func23 (c := zq21_c) (by kernel_rfl) (fun hs => (zq21_eq t0 H K).mpr (h hs))
def zq22_M : Nat → List Bool
 | 5 => rl false [1,1,1,1,13,2,28]
 | 10 => rl false [3,1,22,3,18]
 | 13 => rl false [3,1,1,1,20,3,5,3,10]
 | _ => []
noncomputable def zq22_c : Code := Try.f24.body.getD .skip
noncomputable def zq22_r : List ResultVar := Try.f24.results.toList
def zq22_fr5 (t1 t3 t17 t18 : AV) : List AV := ux 1 (t1 :: ux 1 (t3 :: ux 13 (t17 :: t18 :: ux 28 [])))
def zq22_m5 : List Bool := zq22_M 5
noncomputable def zq22_c5 : Code := codeAt [1, 1, 1, 0, 1, 0, 0] zq22_c
def zq22_Q5 (K : Kt) : AExit → List AV → Heap → Prop := contAt tP zq22_M [1, 1, 1, 0, 1, 0] zq22_c (retQ tP zq22_r K)
def zq22_l5 (t1 t3 t17 t18 : AV) (H : Heap) (K : Kt) : Prop := ALoop tP zq22_c5 (zq22_Q5 K) (zq22_fr5 t1 t3 t17 t18) H
def zq22_fr10 (t3 t26 t27 t28 : AV) : List AV := ux 3 (t3 :: ux 22 (t26 :: t27 :: t28 :: ux 18 []))
def zq22_m10 : List Bool := zq22_M 10
noncomputable def zq22_c10 : Code := codeAt [1, 1, 1, 1, 0, 1, 0, 0] zq22_c
def zq22_Q10 (K : Kt) : AExit → List AV → Heap → Prop := contAt tP zq22_M [1, 1, 1, 1, 0, 1, 0] zq22_c (retQ tP zq22_r K)
def zq22_l10 (t3 t26 t27 t28 : AV) (H : Heap) (K : Kt) : Prop := ALoop tP zq22_c10 (zq22_Q10 K) (zq22_fr10 t3 t26 t27 t28) H
def zq22_fr13 (t3 t5 t26 t27 t28 t34 t35 t36 : AV) : List AV := ux 3 (t3 :: ux 1 (t5 :: ux 20 (t26 :: t27 :: t28 :: ux 5 (t34 :: t35 :: t36 :: ux 10 []))))
def zq22_m13 : List Bool := zq22_M 13
noncomputable def zq22_c13 : Code := codeAt [1, 1, 0, 0, 1, 1, 0, 0] zq22_c10
def zq22_Q13 (K : Kt) (Kb10 : Lt) : AExit → List AV → Heap → Prop := contAt tP zq22_M [1, 1, 0, 0, 1, 1, 0] zq22_c10 (roundQ zq22_m10 Kb10 (zq22_Q10 K))
def zq22_l13 (t3 t5 t26 t27 t28 t34 t35 t36 : AV) (H : Heap) (K : Kt) (Kb10 : Lt) : Prop := ALoop tP zq22_c13 (zq22_Q13 K Kb10) (zq22_fr13 t3 t5 t26 t27 t28 t34 t35 t36) H
def zq22_b13 (t3 t5 t26 t27 t28 t34 t35 t36 : AV) (H : Heap) (K : Kt) (Kb10 : Lt) (Kb13 : Lt) : Prop :=
 aBin .lss false t36 t35 fun t37 =>
 aTest t37
 (aIdxA 1 t34 t36 fun t38 =>
 aLoad false 1 t38 H fun t39 =>
 aIdxA 1 t3 t39 fun t43 =>
 aStore 1 t43 t5 H fun H =>
 aBin .add false t36 (.int .i64 1) fun t44 =>
 Kb13 (zq22_fr13 t3 t5 t26 t27 t28 t34 t35 t44) H)
 (aBin .add false t28 (.int .i64 1) fun t45 =>
 Kb10 (zq22_fr10 t3 t26 t27 t45) H)
def zq22_b10 (t3 t26 t27 t28 : AV) (H : Heap) (K : Kt) (Kb10 : Lt) : Prop :=
 aBin .lss false t28 t27 fun t29 =>
 aTest t29
 (aIdxA 8 t26 t28 fun t31 =>
 aLoad true 8 t31 H fun t32 =>
 aNew [(.int .i64 0), (.int .i64 0), .snil, .snil, .snil, (.int .i64 0), (.int .i64 0), .snil] H fun t6 H =>
 aStore 8 t6 t32 H fun H =>
 aFld 4 t6 fun t33 =>
 aLoad false 1 t33 H fun t34 =>
 aLen 1 t34 fun t35 =>
 zq22_l13 t3 t28 t26 t27 t28 t34 t35 (.int .i64 0) H K Kb10)
 (K t3 H)
def zq22_b5 (t1 t3 t17 t18 : AV) (H : Heap) (K : Kt) (Kb5 : Lt) : Prop :=
 aBin .lss false t18 t17 fun t19 =>
 aTest t19
 (aIdxA 1 t3 t18 fun t23 =>
 aStore 1 t23 (.int .i64 (-1)) H fun H =>
 aBin .add false t18 (.int .i64 1) fun t24 =>
 Kb5 (zq22_fr5 t1 t3 t17 t24) H)
 (aFld 3 t1 fun t25 =>
 aLoad false 1 t25 H fun t26 =>
 aLen 1 t26 fun t27 =>
 zq22_l10 t3 t26 t27 (.int .i64 0) H K)
def zq22 (t0 : AV) (H : Heap) (K : Kt) : Prop :=
 aBox t0 H fun t1 H =>
 aLoad true 4 t1 H fun t9 =>
 ACalls tP n_zq11 [t9] H fun t10 H =>
 aUn .not t10 fun t11 =>
 aTest t11
 (K .snil H)
 (aFld 3 t1 fun t12 =>
 aLoad false 1 t12 H fun t13 =>
 aLen 1 t13 fun t14 =>
 aMake 8 [(.int .i64 0)] t14 t14 H fun t15 H =>
 aLen 1 t15 fun t17 =>
 zq22_l5 t1 t15 t17 (.int .i64 0) H K)
theorem zq22_b13_eq (t3 t5 t26 t27 t28 t34 t35 t36 : AV) (H : Heap) (K : Kt) (Kb10 : Lt) (Kb13 : Lt) : awp tP zq22_M zq22_c13 (roundQ zq22_m13 Kb13 (zq22_Q13 K Kb10)) (zq22_fr13 t3 t5 t26 t27 t28 t34 t35 t36) H = zq22_b13 t3 t5 t26 t27 t28 t34 t35 t36 H K Kb10 Kb13 := by kernel_rfl
theorem zq22_loop13 {t3 t5 t26 t27 t28 t34 t35 t36 : AV} {H : Heap} {K : Kt} {Kb10 : Lt} (Inv : Nat → AV → Heap → Prop) (n : Nat) (h0 : HSc H → Inv n t36 H)
   (round : ∀ n t36 H', Inv n t36 H' → HSc H' → H.length ≤ H'.length → (zq22_fr13 t3 t5 t26 t27 t28 t34 t35 t36).all (AV.sc H'.length) = true → ∀ Kb13 : Lt, (∀ F'' H'', (∃ n', n' < n ∧ Back H.length (fun F2 H2 => ∃ t36, F2 = zq22_fr13 t3 t5 t26 t27 t28 t34 t35 t36 ∧ Inv n' t36 H2) F'' H'') → Kb13 F'' H'') → zq22_b13 t3 t5 t26 t27 t28 t34 t35 t36 H' K Kb10 Kb13) : zq22_l13 t3 t5 t26 t27 t28 t34 t35 t36 H K Kb10 :=
 aloop (M := zq22_M) zq22_m13 (fun n F H => ∃ t36, F = zq22_fr13 t3 t5 t26 t27 t28 t34 t35 t36 ∧ Inv n t36 H) n (fun hs _ => ⟨t36, rfl, h0 hs⟩) (fun n F H' ⟨t36, hF, hI⟩ h1 h2 h3 => by subst hF; rw [zq22_b13_eq]; exact round n t36 H' hI h1 h2 h3 _ (fun _ _ h => h))
theorem zq22_b10_eq (t3 t26 t27 t28 : AV) (H : Heap) (K : Kt) (Kb10 : Lt) : awp tP zq22_M zq22_c10 (roundQ zq22_m10 Kb10 (zq22_Q10 K)) (zq22_fr10 t3 t26 t27 t28) H = zq22_b10 t3 t26 t27 t28 H K Kb10 := by kernel_rfl
theorem zq22_loop10 {t3 t26 t27 t28 : AV} {H : Heap} {K : Kt} (Inv : Nat → AV → Heap → Prop) (n : Nat) (h0 : HSc H → Inv n t28 H)
   (round : ∀ n t28 H', Inv n t28 H' → HSc H' → H.length ≤ H'.length → (zq22_fr10 t3 t26 t27 t28).all (AV.sc H'.length) = true → ∀ Kb10 : Lt, (∀ F'' H'', (∃ n', n' < n ∧ Back H.length (fun F2 H2 => ∃ t28, F2 = zq22_fr10 t3 t26 t27 t28 ∧ Inv n' t28 H2) F'' H'') → Kb10 F'' H'') → zq22_b10 t3 t26 t27 t28 H' K Kb10) : zq22_l10 t3 t26 t27 t28 H K :=
 aloop (M := zq22_M) zq22_m10 (fun n F H => ∃ t28, F = zq22_fr10 t3 t26 t27 t28 ∧ Inv n t28 H) n (fun hs _ => ⟨t28, rfl, h0 hs⟩) (fun n F H' ⟨t28, hF, hI⟩ h1 h2 h3 => by subst hF; rw [zq22_b10_eq]; exact round n t28 H' hI h1 h2 h3 _ (fun _ _ h => h))
theorem zq22_b5_eq (t1 t3 t17 t18 : AV) (H : Heap) (K : Kt) (Kb5 : Lt) : awp tP zq22_M zq22_c5 (roundQ zq22_m5 Kb5 (zq22_Q5 K)) (zq22_fr5 t1 t3 t17 t18) H = zq22_b5 t1 t3 t17 t18 H K Kb5 := by kernel_rfl
theorem zq22_loop5 {t1 t3 t17 t18 : AV} {H : Heap} {K : Kt} (Inv : Nat → AV → Heap → Prop) (n : Nat) (h0 : HSc H → Inv n t18 H)
   (round : ∀ n t18 H', Inv n t18 H' → HSc H' → H.length ≤ H'.length → (zq22_fr5 t1 t3 t17 t18).all (AV.sc H'.length) = true → ∀ Kb5 : Lt, (∀ F'' H'', (∃ n', n' < n ∧ Back H.length (fun F2 H2 => ∃ t18, F2 = zq22_fr5 t1 t3 t17 t18 ∧ Inv n' t18 H2) F'' H'') → Kb5 F'' H'') → zq22_b5 t1 t3 t17 t18 H' K Kb5) : zq22_l5 t1 t3 t17 t18 H K :=
 aloop (M := zq22_M) zq22_m5 (fun n F H => ∃ t18, F = zq22_fr5 t1 t3 t17 t18 ∧ Inv n t18 H) n (fun hs _ => ⟨t18, rfl, h0 hs⟩) (fun n F H' ⟨t18, hF, hI⟩ h1 h2 h3 => by subst hF; rw [zq22_b5_eq]; exact round n t18 H' hI h1 h2 h3 _ (fun _ _ h => h))
theorem zq22_eq (t0 : AV) (H : Heap) (K : Kt) : awp tP zq22_M zq22_c (retQ tP zq22_r K) (t0 :: List.replicate 46 .unk) H = zq22 t0 H K := by kernel_rfl
theorem zq22_ok {t0 : AV} {H : Heap} {K : Kt} (h : HSc H → zq22 t0 H K) : ACalls tP n_zq22 [t0] H K :=
 acalls_body (M := zq22_M) Try.func24 (c := zq22_c) (by kernel_rfl) (fun hs => (zq22_eq t0 H K).mpr (h hs))
def zq23_M : Nat → List Bool
 | 5 => rl false [1,1,1,1,13,2,28]
 | 10 => rl false [3,1,22,3,18]
 | 13 => rl false [3,1,1,1,20,3,5,3,10]
 | _ => []
noncomputable def zq23_c : Code := Try.f25.body.getD .skip
noncomputable def zq23_r : List ResultVar := Try.f25.results.toList
def zq23_fr5 (t1 t3 t17 t18 : AV) : List AV := ux 1 (t1 :: ux 1 (t3 :: ux 13 (t17 :: t18 :: ux 28 [])))
def zq23_m5 : List Bool := zq23_M 5
noncomputable def zq23_c5 : Code := codeAt [1, 1, 1, 0, 1, 0, 0] zq23_c
def zq23_Q5 (K : Kt) : AExit → List AV → Heap → Prop := contAt tP zq23_M [1, 1, 1, 0, 1, 0] zq23_c (retQ tP zq23_r K)
def zq23_l5 (t1 t3 t17 t18 : AV) (H : Heap) (K : Kt) : Prop := ALoop tP zq23_c5 (zq23_Q5 K) (zq23_fr5 t1 t3 t17 t18) H
def zq23_fr10 (t3 t26 t27 t28 : AV) : List AV := ux 3 (t3 :: ux 22 (t26 :: t27 :: t28 :: ux 18 []))
def zq23_m10 : List Bool := zq23_M 10
noncomputable def zq23_c10 : Code := codeAt [1, 1, 1, 1, 0, 1, 0, 0] zq23_c
def zq23_Q10 (K : Kt) : AExit → List AV → Heap → Prop := contAt tP zq23_M [1, 1, 1, 1, 0, 1, 0] zq23_c (retQ tP zq23_r K)
def zq23_l10 (t3 t26 t27 t28 : AV) (H : Heap) (K : Kt) : Prop := ALoop tP zq23_c10 (zq23_Q10 K) (zq23_fr10 t3 t26 t27 t28) H
def zq23_fr13 (t3 t5 t26 t27 t28 t34 t35 t36 : AV) : List AV := ux 3 (t3 :: ux 1 (t5 :: ux 20 (t26 :: t27 :: t28 :: ux 5 (t34 :: t35 :: t36 :: ux 10 []))))
def zq23_m13 : List Bool := zq23_M 13
noncomputable def zq23_c13 : Code := codeAt [1, 1, 0, 0, 1, 1, 0, 0] zq23_c10
def zq23_Q13 (K : Kt) (Kb10 : Lt) : AExit → List AV → Heap → Prop := contAt tP zq23_M [1, 1, 0, 0, 1, 1, 0] zq23_c10 (roundQ zq23_m10 Kb10 (zq23_Q10 K))
def zq23_l13 (t3 t5 t26 t27 t28 t34 t35 t36 : AV) (H : Heap) (K : Kt) (Kb10 : Lt) : Prop := ALoop tP zq23_c13 (zq23_Q13 K Kb10) (zq23_fr13 t3 t5 t26 t27 t28 t34 t35 t36) H
def zq23_b13 (t3 t5 t26 t27 t28 t34 t35 t36 : AV) (H : Heap) (K : Kt) (Kb10 : Lt) (Kb13 : Lt) : Prop :=
 aBin .lss false t36 t35 fun t37 =>
 aTest t37
 (aIdxA 1 t34 t36 fun t38 =>
 aLoad false 1 t38 H fun t39 =>
 aIdxA 1 t3 t39 fun t43 =>
 aStore 1 t43 t5 H fun H =>
 aBin .add false t36 (.int .i64 1) fun t44 =>
 Kb13 (zq23_fr13 t3 t5 t26 t27 t28 t34 t35 t44) H)
 (aBin .add false t28 (.int .i64 1) fun t45 =>
 Kb10 (zq23_fr10 t3 t26 t27 t45) H)
def zq23_b10 (t3 t26 t27 t28 : AV) (H : Heap) (K : Kt) (Kb10 : Lt) : Prop :=
 aBin .lss false t28 t27 fun t29 =>
 aTest t29
 (aIdxA 8 t26 t28 fun t31 =>
 aLoad true 8 t31 H fun t32 =>
 aNew [(.int .i64 0), (.int .i64 0), .snil, .snil, .snil, (.int .i64 0), (.int .i64 0), .snil] H fun t6 H =>
 aStore 8 t6 t32 H fun H =>
 aFld 4 t6 fun t33 =>
 aLoad false 1 t33 H fun t34 =>
 aLen 1 t34 fun t35 =>
 zq23_l13 t3 t28 t26 t27 t28 t34 t35 (.int .i64 0) H K Kb10)
 (K t3 H)
def zq23_b5 (t1 t3 t17 t18 : AV) (H : Heap) (K : Kt) (Kb5 : Lt) : Prop :=
 aBin .lss false t18 t17 fun t19 =>
 aTest t19
 (aIdxA 1 t3 t18 fun t23 =>
 aStore 1 t23 (.int .i64 (-1)) H fun H =>
 aBin .add false t18 (.int .i64 1) fun t24 =>
 Kb5 (zq23_fr5 t1 t3 t17 t24) H)
 (aFld 3 t1 fun t25 =>
 aLoad false 1 t25 H fun t26 =>
 aLen 1 t26 fun t27 =>
 zq23_l10 t3 t26 t27 (.int .i64 0) H K)
def zq23 (t0 : AV) (H : Heap) (K : Kt) : Prop :=
 aBox t0 H fun t1 H =>
 aLoad true 4 t1 H fun t9 =>
 ACalls tP n_zq12 [t9] H fun t10 H =>
 aUn .not t10 fun t11 =>
 aTest t11
 (K .snil H)
 (aFld 3 t1 fun t12 =>
 aLoad false 1 t12 H fun t13 =>
 aLen 1 t13 fun t14 =>
 aMake 8 [(.int .i64 0)] t14 t14 H fun t15 H =>
 aLen 1 t15 fun t17 =>
 zq23_l5 t1 t15 t17 (.int .i64 0) H K)
theorem zq23_b13_eq (t3 t5 t26 t27 t28 t34 t35 t36 : AV) (H : Heap) (K : Kt) (Kb10 : Lt) (Kb13 : Lt) : awp tP zq23_M zq23_c13 (roundQ zq23_m13 Kb13 (zq23_Q13 K Kb10)) (zq23_fr13 t3 t5 t26 t27 t28 t34 t35 t36) H = zq23_b13 t3 t5 t26 t27 t28 t34 t35 t36 H K Kb10 Kb13 := by kernel_rfl
theorem zq23_loop13 {t3 t5 t26 t27 t28 t34 t35 t36 : AV} {H : Heap} {K : Kt} {Kb10 : Lt} (Inv : Nat → AV → Heap → Prop) (n : Nat) (h0 : HSc H → Inv n t36 H)
   (round : ∀ n t36 H', Inv n t36 H' → HSc H' → H.length ≤ H'.length → (zq23_fr13 t3 t5 t26 t27 t28 t34 t35 t36).all (AV.sc H'.length) = true → ∀ Kb13 : Lt, (∀ F'' H'', (∃ n', n' < n ∧ Back H.length (fun F2 H2 => ∃ t36, F2 = zq23_fr13 t3 t5 t26 t27 t28 t34 t35 t36 ∧ Inv n' t36 H2) F'' H'') → Kb13 F'' H'') → zq23_b13 t3 t5 t26 t27 t28 t34 t35 t36 H' K Kb10 Kb13) : zq23_l13 t3 t5 t26 t27 t28 t34 t35 t36 H K Kb10 :=
 aloop (M := zq23_M) zq23_m13 (fun n F H => ∃ t36, F = zq23_fr13 t3 t5 t26 t27 t28 t34 t35 t36 ∧ Inv n t36 H) n (fun hs _ => ⟨t36, rfl, h0 hs⟩) (fun n F H' ⟨t36, hF, hI⟩ h1 h2 h3 => by subst hF; rw [zq23_b13_eq]; exact round n t36 H' hI h1 h2 h3 _ (fun _ _ h => h))
theorem zq23_b10_eq (t3 t26 t27 t28 : AV) (H : Heap) (K : Kt) (Kb10 : Lt) : awp tP zq23_M zq23_c10 (roundQ zq23_m10 Kb10 (zq23_Q10 K)) (zq23_fr10 t3 t26 t27 t28) H = zq23_b10 t3 t26 t27 t28 H K Kb10 := by kernel_rfl
theorem zq23_loop10 {t3 t26 t27 t28 : AV} {H : Heap} {K : Kt} (Inv : Nat → AV → Heap → Prop) (n : Nat) (h0 : HSc H → Inv n t28 H)
   (round : ∀ n t28 H', Inv n t28 H' → HSc H' → H.length ≤ H'.length → (zq23_fr10 t3 t26 t27 t28).all (AV.sc H'.length) = true → ∀ Kb10 : Lt, (∀ F'' H'', (∃ n', n' < n ∧ Back H.length (fun F2 H2 => ∃ t28, F2 = zq23_fr10 t3 t26 t27 t28 ∧ Inv n' t28 H2) F'' H'') → Kb10 F'' H'') → zq23_b10 t3 t26 t27 t28 H' K Kb10) : zq23_l10 t3 t26 t27 t28 H K :=
 aloop (M := zq23_M) zq23_m10 (fun n F H => ∃ t28, F = zq23_fr10 t3 t26 t27 t28 ∧ Inv n t28 H) n (fun hs _ => ⟨t28, rfl, h0 hs⟩) (fun n F H' ⟨t28, hF, hI⟩ h1 h2 h3 => by subst hF; rw [zq23_b10_eq]; exact round n t28 H' hI h1 h2 h3 _ (fun _ _ h => h))
theorem zq23_b5_eq (t1 t3 t17 t18 : AV) (H : Heap) (K : Kt) (Kb5 : Lt) : awp tP zq23_M zq23_c5 (roundQ zq23_m5 Kb5 (zq23_Q5 K)) (zq23_fr5 t1 t3 t17 t18) H = zq23_b5 t1 t3 t17 t18 H K Kb5 := by kernel_rfl
theorem zq23_loop5 {t1 t3 t17 t18 : AV} {H : Heap} {K : Kt} (Inv : Nat → AV → Heap → Prop) (n : Nat) (h0 : HSc H → Inv n t18 H)
   (round : ∀ n t18 H', Inv n t18 H' → HSc H' → H.length ≤ H'.length → (zq23_fr5 t1 t3 t17 t18).all (AV.sc H'.length) = true → ∀ Kb5 : Lt, (∀ F'' H'', (∃ n', n' < n ∧ Back H.length (fun F2 H2 => ∃ t18, F2 = zq23_fr5 t1 t3 t17 t18 ∧ Inv n' t18 H2) F'' H'') → Kb5 F'' H'') → zq23_b5 t1 t3 t17 t18 H' K Kb5) : zq23_l5 t1 t3 t17 t18 H K :=
 aloop (M := zq23_M) zq23_m5 (fun n F H => ∃ t18, F = zq23_fr5 t1 t3 t17 t18 ∧ Inv n t18 H) n (fun hs _ => ⟨t18, rfl, h0 hs⟩) (fun n F H' ⟨t18, hF, hI⟩ h1 h2 h3 => by subst hF; rw [zq23_b5_eq]; exact round n t18 H' hI h1 h2 h3 _ (fun _ _ h => h))
theorem zq23_eq (t0 : AV) (H : Heap) (K : Kt) : awp tP zq23_M zq23_c (retQ tP zq23_r K) (t0 :: List.replicate 46 .unk) H = zq23 t0 H K := by kernel_rfl
theorem zq23_ok {t0 : AV} {H : Heap} {K : Kt} (h : HSc H → zq23 t0 H K) : ACalls tP n_zq23 [t0] H K :=
 acalls_body (M := zq23_M) Try.func25 (c := zq23_c) (by kernel_rfl) (fun hs => (zq23_eq t0 H K).mpr (h hs))
def zq54_M : Nat → List Bool
 | 3 => rl false [1,1,1,1,11,3,35]
 | 8 => rl false [3,1,25,3,21]
 | 11 => rl false [3,1,2,1,22,3,5,3,13]
 | _ => []
noncomputable def zq54_c : Code := Try.f56.body.getD .skip
noncomputable def zq54_r : List ResultVar := Try.f56.results.toList
def zq54_fr3 (t1 t3 t15 t16 t17 : AV) : List AV := ux 1 (t1 :: ux 1 (t3 :: ux 11 (t15 :: t16 :: t17 :: ux 35 [])))
def zq54_m3 : List Bool := zq54_M 3
noncomputable def zq54_c3 : Code := codeAt [1, 1, 0, 1, 0, 0] zq54_c
def zq54_Q3 (K : Kt) : AExit → List AV → Heap → Prop := contAt tP zq54_M [1, 1, 0, 1, 0] zq54_c (retQ tP zq54_r K)
def zq54_l3 (t1 t3 t15 t16 t17 : AV) (H : Heap) (K : Kt) : Prop := ALoop tP zq54_c3 (zq54_Q3 K) (zq54_fr3 t1 t3 t15 t16 t17) H
def zq54_fr8 (t3 t29 t30 t31 : AV) : List AV := ux 3 (t3 :: ux 25 (t29 :: t30 :: t31 :: ux 21 []))
def zq54_m8 : List Bool := zq54_M 8
noncomputable def zq54_c8 : Code := codeAt [1, 1, 1, 0, 1, 0, 0] zq54_c
def zq54_Q8 (K : Kt) : AExit → List AV → Heap → Prop := contAt tP zq54_M [1, 1, 1, 0, 1, 0] zq54_c (retQ tP zq54_r K)
def zq54_l8 (t3 t29 t30 t31 : AV) (H : Heap) (K : Kt) : Prop := ALoop tP zq54_c8 (zq54_Q8 K) (zq54_fr8 t3 t29 t30 t31) H
def zq54_fr11 (t3 t6 t29 t30 t31 t37 t38 t39 : AV) : List AV := ux 3 (t3 :: ux 2 (t6 :: ux 22 (t29 :: t30 :: t31 :: ux 5 (t37 :: t38 :: t39 :: ux 13 []))))
def zq54_m11 : List Bool := zq54_M 11
noncomputable def zq54_c11 : Code := codeAt [1, 1, 0, 0, 1, 1, 0, 0] zq54_c8
def zq54_Q11 (K : Kt) (Kb8 : Lt) : AExit → List AV → Heap → Prop := contAt tP zq54_M [1, 1, 0, 0, 1, 1, 0] zq54_c8 (roundQ zq54_m8 Kb8 (zq54_Q8 K))
def zq54_l11 (t3 t6 t29 t30 t31 t37 t38 t39 : AV) (H : Heap) (K : Kt) (Kb8 : Lt) : Prop := ALoop tP zq54_c11 (zq54_Q11 K Kb8) (zq54_fr11 t3 t6 t29 t30 t31 t37 t38 t39) H
def zq54_b11 (t3 t6 t29 t30 t31 t37 t38 t39 : AV) (H : Heap) (K : Kt) (Kb8 : Lt) (Kb11 : Lt) : Prop :=
 aBin .lss false t39 t38 fun t40 =>
 aTest t40
 (aIdxA 1 t37 t39 fun t41 =>
 aLoad false 1 t41 H fun t42 =>
 aIdxA 1 t3 t6 fun t47 =>
 aLoad false 1 t47 H fun t48 =>
 aIdxA 1 t3 t42 fun t49 =>
 aStore 1 t49 t48 H fun H =>
 aBin .add false t39 (.int .i64 1) fun t50 =>
 Kb11 (zq54_fr11 t3 t6 t29 t30 t31 t37 t38 t50) H)
 (aBin .add false t31 (.int .i64 1) fun t51 =>
 Kb8 (zq54_fr8 t3 t29 t30 t51) H)
def zq54_b8 (t3 t29 t30 t31 : AV) (H : Heap) (K : Kt) (Kb8 : Lt) : Prop :=
 aBin .lss false t31 t30 fun t32 =>
 aTest t32
 (aIdxA 8 t29 t31 fun t34 =>
 aLoad true 8 t34 H fun t35 =>
 aNew [(.int .i64 0), (.int .i64 0), .snil, .snil, .snil, (.int .i64 0), (.int .i64 0), .snil] H fun t7 H =>
 aStore 8 t7 t35 H fun H =>
 aFld 4 t7 fun t36 =>
 aLoad false 1 t36 H fun t37 =>
 aLen 1 t37 fun t38 =>
 zq54_l11 t3 t31 t29 t30 t31 t37 t38 (.int .i64 0) H K Kb8)
 (K t3 H)
def zq54_b3 (t1 t3 t15 t16 t17 : AV) (H : Heap) (K : Kt) (Kb3 : Lt) : Prop :=
 aBin .lss false t17 t16 fun t18 =>
 aTest t18
 (aIdxA 7 t15 t17 fun t20 =>
 aLoad true 7 t20 H fun t21 =>
 aNew [(.str []), .snil, .snil, (.int .i64 0), (.int .i64 0), .snil, (.int .i64 0)] H fun t5 H =>
 aStore 7 t5 t21 H fun H =>
 aFld 6 t5 fun t23 =>
 aLoad false 1 t23 H fun t24 =>
 aIdxA 1 t3 t24 fun t26 =>
 aStore 1 t26 t17 H fun H =>
 aBin .add false t17 (.int .i64 1) fun t27 =>
 Kb3 (zq54_fr3 t1 t3 t15 t16 t27) H)
 (aFld 3 t1 fun t28 =>
 aLoad false 1 t28 H fun t29 =>
 aLen 1 t29 fun t30 =>
 zq54_l8 t3 t29 t30 (.int .i64 0) H K)
def zq54 (t0 : AV) (H : Heap) (K : Kt) : Prop :=
 aBox t0 H fun t1 H =>
 aFld 3 t1 fun t10 =>
 aLoad false 1 t10 H fun t11 =>
 aLen 1 t11 fun t12 =>
 aMake 8 [(.int .i64 0)] t12 t12 H fun t13 H =>
 aFld 1 t1 fun t14 =>
 aLoad false 1 t14 H fun t15 =>
 aLen 1 t15 fun t16 =>
 zq54_l3 t1 t13 t15 t16 (.int .i64 0) H K
theorem zq54_b11_eq (t3 t6 t29 t30 t31 t37 t38 t39 : AV) (H : Heap) (K : Kt) (Kb8 : Lt) (Kb11 : Lt) : awp tP zq54_M zq54_c11 (roundQ zq54_m11 Kb11 (zq54_Q11 K Kb8)) (zq54_fr11 t3 t6 t29 t30 t31 t37 t38 t39) H = zq54_b11 t3 t6 t29 t30 t31 t37 t38 t39 H K Kb8 Kb11 := by kernel_rfl
theorem zq54_loop11 {t3 t6 t29 t30 t31 t37 t38 t39 : AV} {H : Heap} {K : Kt} {Kb8 : Lt} (Inv : Nat → AV → Heap → Prop) (n : Nat) (h0 : HSc H → Inv n t39 H)
   (round : ∀ n t39 H', Inv n t39 H' → HSc H' → H.length ≤ H'.length → (zq54_fr11 t3 t6 t29 t30 t31 t37 t38 t39).all (AV.sc H'.length) = true → ∀ Kb11 : Lt, (∀ F'' H'', (∃ n', n' < n ∧ Back H.length (fun F2 H2 => ∃ t39, F2 = zq54_fr11 t3 t6 t29 t30 t31 t37 t38 t39 ∧ Inv n' t39 H2) F'' H'') → Kb11 F'' H'') → zq54_b11 t3 t6 t29 t30 t31 t37 t38 t39 H' K Kb8 Kb11) : zq54_l11 t3 t6 t29 t30 t31 t37 t38 t39 H K Kb8 :=
 aloop (M := zq54_M) zq54_m11 (fun n F H => ∃ t39, F = zq54_fr11 t3 t6 t29 t30 t31 t37 t38 t39 ∧ Inv n t39 H) n (fun hs _ => ⟨t39, rfl, h0 hs⟩) (fun n F H' ⟨t39, hF, hI⟩ h1 h2 h3 => by subst hF; rw [zq54_b11_eq]; exact round n t39 H' hI h1 h2 h3 _ (fun _ _ h => h))
theorem zq54_b8_eq (t3 t29 t30 t31 : AV) (H : Heap) (K : Kt) (Kb8 : Lt) : awp tP zq54_M zq54_c8 (roundQ zq54_m8 Kb8 (zq54_Q8 K)) (zq54_fr8 t3 t29 t30 t31) H = zq54_b8 t3 t29 t30 t31 H K Kb8 := by kernel_rfl
theorem zq54_loop8 {t3 t29 t30 t31 : AV} {H : Heap} {K : Kt} (Inv : Nat → AV → Heap → Prop) (n : Nat) (h0 : HSc H → Inv n t31 H)
   (round : ∀ n t31 H', Inv n t31 H' → HSc H' → H.length ≤ H'.length → (zq54_fr8 t3 t29 t30 t31).all (AV.sc H'.length) = true → ∀ Kb8 : Lt, (∀ F'' H'', (∃ n', n' < n ∧ Back H.length (fun F2 H2 => ∃ t31, F2 = zq54_fr8 t3 t29 t30 t31 ∧ Inv n' t31 H2) F'' H'') → Kb8 F'' H'') → zq54_b8 t3 t29 t30 t31 H' K Kb8) : zq54_l8 t3 t29 t30 t31 H K :=
 aloop (M := zq54_M) zq54_m8 (fun n F H => ∃ t31, F = zq54_fr8 t3 t29 t30 t31 ∧ Inv n t31 H) n (fun hs _ => ⟨t31, rfl, h0 hs⟩) (fun n F H' ⟨t31, hF, hI⟩ h1 h2 h3 => by subst hF; rw [zq54_b8_eq]; exact round n t31 H' hI h1 h2 h3 _ (fun _ _ h => h))
theorem zq54_b3_eq (t1 t3 t15 t16 t17 : AV) (H : Heap) (K : Kt) (Kb3 : Lt) : awp tP zq54_M zq54_c3 (roundQ zq54_m3 Kb3 (zq54_Q3 K)) (zq54_fr3 t1 t3 t15 t16 t17) H = zq54_b3 t1 t3 t15 t16 t17 H K Kb3 := by kernel_rfl
theorem zq54_loop3 {t1 t3 t15 t16 t17 : AV} {H : Heap} {K : Kt} (Inv : Nat → AV → Heap → Prop) (n : Nat) (h0 : HSc H → Inv n t17 H)
   (round : ∀ n t17 H', Inv n t17 H' → HSc H' → H.length ≤ H'.length → (zq54_fr3 t1 t3 t15 t16 t17).all (AV.sc H'.length) = true → ∀ Kb3 : Lt, (∀ F'' H'', (∃ n', n' < n ∧ Back H.length (fun F2 H2 => ∃ t17, F2 = zq54_fr3 t1 t3 t15 t16 t17 ∧ Inv n' t17 H2) F'' H'') → Kb3 F'' H'') → zq54_b3 t1 t3 t15 t16 t17 H' K Kb3) : zq54_l3 t1 t3 t15 t16 t17 H K :=
 aloop (M := zq54_M) zq54_m3 (fun n F H => ∃ t17, F = zq54_fr3 t1 t3 t15 t16 t17 ∧ Inv n t17 H) n (fun hs _ => ⟨t17, rfl, h0 hs⟩) (fun n F H' ⟨t17, hF, hI⟩ h1 h2 h3 => by subst hF; rw [zq54_b3_eq]; exact round n t17 H' hI h1 h2 h3 _ (fun _ _ h => h))
theorem zq54_eq (t0 : AV) (H : Heap) (K : Kt) : awp tP zq54_M zq54_c (retQ tP zq54_r K) (t0 :: List.replicate 52 .unk) H = zq54 t0 H K := by kernel_rfl
theorem zq54_ok {t0 : AV} {H : Heap} {K : Kt} (h : HSc H → zq54 t0 H K) : ACalls tP n_zq54 [t0] H K :=
 acalls_body (M := zq54_M) Try.func56 (c := zq54_c) (by kernel_rfl) (fun hs => (zq54_eq t0 H K).mpr (h hs))
end Go.Proofs.Ytkdmpbhbmmhijaa
