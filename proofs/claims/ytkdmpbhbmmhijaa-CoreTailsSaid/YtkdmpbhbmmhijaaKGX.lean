/- The shallow forms of functions of the program, printed by a program (absgen.py) off the translation, each tied to the model by the kernel. -/
import Derived.Test.YtkdmpbhbmmhijaaKNum
import Derived.Test.YtkdmpbhbmmhijaaProg
import Derived.KernelRfl
namespace Go.Proofs.Ytkdmpbhbmmhijaa
open Go Go.Abs
set_option linter.unusedVariables false
set_option maxRecDepth 100000
def zq4_M (_ : Nat) : List Bool := []
noncomputable def zq4_c : Code := Try.f6.body.getD .skip
noncomputable def zq4_r : List ResultVar := Try.f6.results.toList
def zq4 (t0 t1 : AV) (H : Heap) (K : Kt) : Prop :=
 aBox t0 H fun t2 H =>
 aLoad true 4 t2 H fun t5 =>
 ACalls tP n_zq10 [t5] H fun t6 H =>
 aUn .not t6 fun t7 =>
 aTest t7
 (K (.bool true) H)
 (aPure H (fun k => aLoad true 4 t2 H (k · H)) fun t8 =>
 aPure H (fun k => k t1 H) fun t9 =>
 aPureX H (fun H k => ACalls tP n_zq24 [t8, t9] H k) fun t10 =>
 aPure H (fun k => aLoad true 4 t2 H (k · H)) fun t11 =>
 aPure H (fun k => k t1 H) fun t12 =>
 aPureX H (fun H k => ACalls tP n_zq25 [t11, t12] H k) fun t13 =>
 aPureX H (fun H k => ACalls tP n_zq19 [t10, t13] H k) fun t14 =>
 aPure H (fun k => k t14 H) fun t15 =>
 aGuardJ t15 true H (fun k => aPureX H (fun H l => ACalls tP n_zq18 [] H l) (k · H)) fun t16 H =>
 aGuardJ t15 true H (fun k => aPureX H (fun H l => ACalls tP n_zq24 [t16, (.int .i64 0)] H l) (k · H)) fun t17 H =>
 aGuardJ t15 true H (fun k => aPure H (fun l => aLen 1 t17 (l · H)) (k · H)) fun t18 H =>
 aGuardJ t15 true H (fun k => aPure H (fun l => aBin .eql false t18 (.int .i64 1) (l · H)) (k · H)) fun t19 H =>
 aPure H (fun k => aPick t15 t19 (.bool false) (k · H)) fun t20 =>
 aPure H (fun k => k t20 H) fun t4 =>
 K t4 H)
theorem zq4_eq (t0 t1 : AV) (H : Heap) (K : Kt) : awp tP zq4_M zq4_c (retQ tP zq4_r K) (t0 :: t1 :: List.replicate 19 .unk) H = zq4 t0 t1 H K := by kernel_rfl
theorem zq4_ok {t0 t1 : AV} {H : Heap} {K : Kt} (h : HSc H → zq4 t0 t1 H K) : ACalls tP n_zq4 [t0, t1] H K :=
 acalls_body (M := zq4_M) Try.func6 (c := zq4_c) (by kernel_rfl) (fun hs => (zq4_eq t0 t1 H K).mpr (h hs))
def zq19_M : Nat → List Bool
 | 4 => rl false [0,2,10,2,12]
 | _ => []
noncomputable def zq19_c : Code := Try.f21.body.getD .skip
noncomputable def zq19_r : List ResultVar := Try.f21.results.toList
def zq19_fr4 (t0 t1 t12 t13 : AV) : List AV := t0 :: t1 :: ux 10 (t12 :: t13 :: ux 12 [])
def zq19_m4 : List Bool := zq19_M 4
noncomputable def zq19_c4 : Code := codeAt [1, 1, 0, 1, 0, 0] zq19_c
def zq19_Q4 (K : Kt) : AExit → List AV → Heap → Prop := contAt tP zq19_M [1, 1, 0, 1, 0] zq19_c (retQ tP zq19_r K)
def zq19_l4 (t0 t1 t12 t13 : AV) (H : Heap) (K : Kt) : Prop := ALoop tP zq19_c4 (zq19_Q4 K) (zq19_fr4 t0 t1 t12 t13) H
def zq19_b4 (t0 t1 t12 t13 : AV) (H : Heap) (K : Kt) (Kb4 : Lt) : Prop :=
 aBin .lss false t13 t12 fun t14 =>
 aTest t14
 (aPure H (fun k => k t0 H) fun t16 =>
 aPure H (fun k => k t13 H) fun t17 =>
 aPure H (fun k => aIdxA 1 t16 t17 (k · H)) fun t18 =>
 aPure H (fun k => aLoad false 1 t18 H (k · H)) fun t19 =>
 aPure H (fun k => k t1 H) fun t20 =>
 aPure H (fun k => k t13 H) fun t21 =>
 aPure H (fun k => aIdxA 1 t20 t21 (k · H)) fun t22 =>
 aPure H (fun k => aLoad false 1 t22 H (k · H)) fun t23 =>
 aPure H (fun k => aBin .neq false t19 t23 (k · H)) fun t24 =>
 aTest t24
 (K (.bool false) H)
 (aBin .add false t13 (.int .i64 1) fun t25 =>
 Kb4 (zq19_fr4 t0 t1 t12 t25) H))
 (K (.bool true) H)
def zq19 (t0 t1 : AV) (H : Heap) (K : Kt) : Prop :=
 aLen 1 t0 fun t7 =>
 aLen 1 t1 fun t9 =>
 aBin .neq false t7 t9 fun t10 =>
 aTest t10
 (K (.bool false) H)
 (aLen 1 t0 fun t12 =>
 zq19_l4 t0 t1 t12 (.int .i64 0) H K)
theorem zq19_b4_eq (t0 t1 t12 t13 : AV) (H : Heap) (K : Kt) (Kb4 : Lt) : awp tP zq19_M zq19_c4 (roundQ zq19_m4 Kb4 (zq19_Q4 K)) (zq19_fr4 t0 t1 t12 t13) H = zq19_b4 t0 t1 t12 t13 H K Kb4 := by kernel_rfl
theorem zq19_loop4 {t0 t1 t12 t13 : AV} {H : Heap} {K : Kt} (Inv : Nat → AV → Heap → Prop) (n : Nat) (h0 : HSc H → Inv n t13 H)
   (round : ∀ n t13 H', Inv n t13 H' → HSc H' → H.length ≤ H'.length → (zq19_fr4 t0 t1 t12 t13).all (AV.sc H'.length) = true → ∀ Kb4 : Lt, (∀ F'' H'', (∃ n', n' < n ∧ Back H.length (fun F2 H2 => ∃ t13, F2 = zq19_fr4 t0 t1 t12 t13 ∧ Inv n' t13 H2) F'' H'') → Kb4 F'' H'') → zq19_b4 t0 t1 t12 t13 H' K Kb4) : zq19_l4 t0 t1 t12 t13 H K :=
 aloop (M := zq19_M) zq19_m4 (fun n F H => ∃ t13, F = zq19_fr4 t0 t1 t12 t13 ∧ Inv n t13 H) n (fun hs _ => ⟨t13, rfl, h0 hs⟩) (fun n F H' ⟨t13, hF, hI⟩ h1 h2 h3 => by subst hF; rw [zq19_b4_eq]; exact round n t13 H' hI h1 h2 h3 _ (fun _ _ h => h))
theorem zq19_eq (t0 t1 : AV) (H : Heap) (K : Kt) : awp tP zq19_M zq19_c (retQ tP zq19_r K) (t0 :: t1 :: List.replicate 24 .unk) H = zq19 t0 t1 H K := by kernel_rfl
theorem zq19_ok {t0 t1 : AV} {H : Heap} {K : Kt} (h : HSc H → zq19 t0 t1 H K) : ACalls tP n_zq19 [t0, t1] H K :=
 acalls_body (M := zq19_M) Try.func21 (c := zq19_c) (by kernel_rfl) (fun hs => (zq19_eq t0 t1 H K).mpr (h hs))
def zq24_M : Nat → List Bool
 | 6 => rl false [5,1,29,3,37]
 | _ => []
noncomputable def zq24_c : Code := Try.f26.body.getD .skip
noncomputable def zq24_r : List ResultVar := Try.f26.results.toList
def zq24_fr6 (t5 t35 t36 t37 : AV) : List AV := ux 5 (t5 :: ux 29 (t35 :: t36 :: t37 :: ux 37 []))
def zq24_m6 : List Bool := zq24_M 6
noncomputable def zq24_c6 : Code := codeAt [1, 1, 1, 1, 0, 1, 0, 0] zq24_c
def zq24_Q6 (K : Kt) : AExit → List AV → Heap → Prop := contAt tP zq24_M [1, 1, 1, 1, 0, 1, 0] zq24_c (retQ tP zq24_r K)
def zq24_l6 (t5 t35 t36 t37 : AV) (H : Heap) (K : Kt) : Prop := ALoop tP zq24_c6 (zq24_Q6 K) (zq24_fr6 t5 t35 t36 t37) H
def zq24_j2 (t5 t35 t36 t37 : AV) (H : Heap) (K : Kt) (Kb6 : Lt) : Prop :=
 aBin .add false t37 (.int .i64 1) fun t72 =>
 Kb6 (zq24_fr6 t5 t35 t36 t72) H
def zq24_j1 (t5 t35 t36 t37 : AV) (H : Heap) (K : Kt) (Kb6 : Lt) : Prop :=
 zq24_j2 t5 t35 t36 t37 H K Kb6
def zq24_j3 (t5 t35 t36 t37 : AV) (H : Heap) (K : Kt) (Kb6 : Lt) : Prop :=
 zq24_j1 t5 t35 t36 t37 H K Kb6
def zq24_j4 (t5 t6 t7 t35 t36 t37 t60 : AV) (H : Heap) (K : Kt) (Kb6 : Lt) : Prop :=
 aTest t60
 (aIdxA 1 t5 t6 fun t67 =>
 aStore 1 t67 (.bool false) H fun H =>
 aFld 4 t7 fun t69 =>
 aLoad false 1 t69 H fun t70 =>
 ACalls tP n_zq55 [t5, t70, (.bool true)] H fun t71 H =>
 zq24_j3 t5 t35 t36 t37 H K Kb6)
 (zq24_j3 t5 t35 t36 t37 H K Kb6)
def zq24_b6 (t5 t35 t36 t37 : AV) (H : Heap) (K : Kt) (Kb6 : Lt) : Prop :=
 aBin .lss false t37 t36 fun t38 =>
 aTest t38
 (aIdxA 8 t35 t37 fun t40 =>
 aLoad true 8 t40 H fun t41 =>
 aNew [(.int .i64 0), (.int .i64 0), .snil, .snil, .snil, (.int .i64 0), (.int .i64 0), .snil] H fun t7 H =>
 aStore 8 t7 t41 H fun H =>
 aIdxA 1 t5 t37 fun t44 =>
 aLoad false 1 t44 H fun t45 =>
 aUn .not t45 fun t46 =>
 aTest t46
 (zq24_j1 t5 t35 t36 t37 H K Kb6)
 (aFld 0 t7 fun t47 =>
 aLoad false 1 t47 H fun t48 =>
 aBin .eql false t48 (.int .i64 7) fun t50 =>
 aTest t50
 (aFld 4 t7 fun t54 =>
 aLoad false 1 t54 H fun t55 =>
 aIdxA 1 t55 (.int .i64 1) fun t56 =>
 aLoad false 1 t56 H fun t57 =>
 aIdxA 1 t5 t37 fun t58 =>
 aStore 1 t58 (.bool false) H fun H =>
 aIdxA 1 t5 t57 fun t59 =>
 aStore 1 t59 (.bool true) H fun H =>
 zq24_j3 t5 t35 t36 t37 H K Kb6)
 (aBin .eql false t48 (.int .i64 8) fun t61 =>
 aTest t61
 (zq24_j4 t5 t37 t7 t35 t36 t37 t61 H K Kb6)
 (aBin .eql false t48 (.int .i64 9) fun t62 =>
 aTest t62
 (zq24_j4 t5 t37 t7 t35 t36 t37 t62 H K Kb6)
 (aBin .eql false t48 (.int .i64 10) fun t63 =>
 aTest t63
 (zq24_j4 t5 t37 t7 t35 t36 t37 t63 H K Kb6)
 (aBin .eql false t48 (.int .i64 24) fun t64 =>
 zq24_j4 t5 t37 t7 t35 t36 t37 t64 H K Kb6))))))
 (ACalls tP n_zq56 [t5] H fun t74 H =>
 K t74 H)
def zq24 (t0 t1 : AV) (H : Heap) (K : Kt) : Prop :=
 aBox t0 H fun t2 H =>
 aBin .lss false t1 (.int .i64 0) fun t9 =>
 aGuardJ t9 false H (fun k => k t1 H) fun t11 H =>
 aGuardJ t9 false H (fun k => aFld 1 t2 (k · H)) fun t12 H =>
 aGuardJ t9 false H (fun k => aLoad false 1 t12 H (k · H)) fun t13 H =>
 aGuardJ t9 false H (fun k => aLen 1 t13 (k · H)) fun t14 H =>
 aGuardJ t9 false H (fun k => aBin .geq false t11 t14 (k · H)) fun t15 H =>
 aPick t9 (.bool true) t15 fun t16 =>
 aGuardJ t16 false H (fun k => aLoad true 4 t2 H (k · H)) fun t18 H =>
 aGuardJ t16 false H (fun k => ACalls tP n_zq11 [t18] H k) fun t19 H =>
 aGuardJ t16 false H (fun k => aUn .not t19 (k · H)) fun t20 H =>
 aPick t16 (.bool true) t20 fun t21 =>
 aTest t21
 (K .snil H)
 (aFld 3 t2 fun t22 =>
 aLoad false 1 t22 H fun t23 =>
 aLen 1 t23 fun t24 =>
 aMake 1 [(.bool false)] t24 t24 H fun t25 H =>
 aFld 1 t2 fun t27 =>
 aLoad false 1 t27 H fun t28 =>
 aIdxA 7 t28 t1 fun t30 =>
 aFld 6 t30 fun t31 =>
 aLoad false 1 t31 H fun t32 =>
 aIdxA 1 t25 t32 fun t33 =>
 aStore 1 t33 (.bool true) H fun H =>
 aFld 3 t2 fun t34 =>
 aLoad false 1 t34 H fun t35 =>
 aLen 1 t35 fun t36 =>
 zq24_l6 t25 t35 t36 (.int .i64 0) H K)
theorem zq24_b6_eq (t5 t35 t36 t37 : AV) (H : Heap) (K : Kt) (Kb6 : Lt) : awp tP zq24_M zq24_c6 (roundQ zq24_m6 Kb6 (zq24_Q6 K)) (zq24_fr6 t5 t35 t36 t37) H = zq24_b6 t5 t35 t36 t37 H K Kb6 := by kernel_rfl
theorem zq24_loop6 {t5 t35 t36 t37 : AV} {H : Heap} {K : Kt} (Inv : Nat → AV → Heap → Prop) (n : Nat) (h0 : HSc H → Inv n t37 H)
   (round : ∀ n t37 H', Inv n t37 H' → HSc H' → H.length ≤ H'.length → (zq24_fr6 t5 t35 t36 t37).all (AV.sc H'.length) = true → ∀ Kb6 : Lt, (∀ F'' H'', (∃ n', n' < n ∧ Back H.length (fun F2 H2 => ∃ t37, F2 = zq24_fr6 t5 t35 t36 t37 ∧ Inv n' t37 H2) F'' H'') → Kb6 F'' H'') → zq24_b6 t5 t35 t36 t37 H' K Kb6) : zq24_l6 t5 t35 t36 t37 H K :=
 aloop (M := zq24_M) zq24_m6 (fun n F H => ∃ t37, F = zq24_fr6 t5 t35 t36 t37 ∧ Inv n t37 H) n (fun hs _ => ⟨t37, rfl, h0 hs⟩) (fun n F H' ⟨t37, hF, hI⟩ h1 h2 h3 => by subst hF; rw [zq24_b6_eq]; exact round n t37 H' hI h1 h2 h3 _ (fun _ _ h => h))
theorem zq24_eq (t0 t1 : AV) (H : Heap) (K : Kt) : awp tP zq24_M zq24_c (retQ tP zq24_r K) (t0 :: t1 :: List.replicate 73 .unk) H = zq24 t0 t1 H K := by kernel_rfl
theorem zq24_ok {t0 t1 : AV} {H : Heap} {K : Kt} (h : HSc H → zq24 t0 t1 H K) : ACalls tP n_zq24 [t0, t1] H K :=
 acalls_body (M := zq24_M) Try.func26 (c := zq24_c) (by kernel_rfl) (fun hs => (zq24_eq t0 t1 H K).mpr (h hs))
def zq25_M : Nat → List Bool
 | 200004 => rl false [0,1]
 | _ => []
noncomputable def zq25_c : Code := Try.f27.body.getD .skip
noncomputable def zq25_r : List ResultVar := Try.f27.results.toList
def zq25 (t0 t1 : AV) (H : Heap) (K : Kt) : Prop :=
 aBox t0 H fun t2 H =>
 aLoad true 4 t2 H fun t6 =>
 ACalls tP n_zq12 [t6] H fun t7 H =>
 aUn .not t7 fun t8 =>
 aGuardJ t8 false H (fun k => k t1 H) fun t10 H =>
 aGuardJ t8 false H (fun k => aBin .lss false t10 (.int .i64 0) (k · H)) fun t11 H =>
 aPick t8 (.bool true) t11 fun t12 =>
 aGuardJ t12 false H (fun k => k t1 H) fun t14 H =>
 aGuardJ t12 false H (fun k => aFld 1 t2 (k · H)) fun t15 H =>
 aGuardJ t12 false H (fun k => aLoad false 1 t15 H (k · H)) fun t16 H =>
 aGuardJ t12 false H (fun k => aLen 1 t16 (k · H)) fun t17 H =>
 aGuardJ t12 false H (fun k => aBin .geq false t14 t17 (k · H)) fun t18 H =>
 aPick t12 (.bool true) t18 fun t19 =>
 aTest t19
 (K .snil H)
 (aFld 3 t2 fun t20 =>
 aLoad false 1 t20 H fun t21 =>
 aLen 1 t21 fun t22 =>
 aMake 1 [(.bool false)] t22 t22 H fun t23 H =>
 aPure H (fun k => aLoad true 4 t2 H (k · H)) fun t24 =>
 aPure H (fun k => aFld 1 t2 (k · H)) fun t25 =>
 aPure H (fun k => aLoad false 1 t25 H (k · H)) fun t26 =>
 aPure H (fun k => k t1 H) fun t27 =>
 aPure H (fun k => aIdxA 7 t26 t27 (k · H)) fun t28 =>
 aPure H (fun k => aFld 6 t28 (k · H)) fun t29 =>
 aPure H (fun k => aLoad false 1 t29 H (k · H)) fun t30 =>
 aPure H (fun k => k t23 H) fun t31 =>
 aDet .w false H (fun k => ACalls tP n_zq57 [t24, t30, t31] H k) fun t32 H =>
 ACalls tP n_zq58 [t23] H fun t34 H =>
 K t34 H)
theorem zq25_eq (t0 t1 : AV) (H : Heap) (K : Kt) : awp tP zq25_M zq25_c (retQ tP zq25_r K) (t0 :: t1 :: List.replicate 33 .unk) H = zq25 t0 t1 H K := by kernel_rfl
theorem zq25_ok {t0 t1 : AV} {H : Heap} {K : Kt} (h : HSc H → zq25 t0 t1 H K) : ACalls tP n_zq25 [t0, t1] H K :=
 acalls_body (M := zq25_M) Try.func27 (c := zq25_c) (by kernel_rfl) (fun hs => (zq25_eq t0 t1 H K).mpr (h hs))
def zq55_M : Nat → List Bool
 | 1 => rl false [0,1,1,1,5,3,8]
 | _ => []
noncomputable def zq55_c : Code := Try.f57.body.getD .skip
noncomputable def zq55_r : List ResultVar := Try.f57.results.toList
def zq55_fr1 (t0 t2 t8 t9 t10 : AV) : List AV := t0 :: ux 1 (t2 :: ux 5 (t8 :: t9 :: t10 :: ux 8 []))
def zq55_m1 : List Bool := zq55_M 1
noncomputable def zq55_c1 : Code := codeAt [1, 0, 0] zq55_c
def zq55_Q1 (K : Kt) : AExit → List AV → Heap → Prop := contAt tP zq55_M [1, 0] zq55_c (retQ tP zq55_r K)
def zq55_l1 (t0 t2 t8 t9 t10 : AV) (H : Heap) (K : Kt) : Prop := ALoop tP zq55_c1 (zq55_Q1 K) (zq55_fr1 t0 t2 t8 t9 t10) H
def zq55_b1 (t0 t2 t8 t9 t10 : AV) (H : Heap) (K : Kt) (Kb1 : Lt) : Prop :=
 aBin .lss false t10 t9 fun t11 =>
 aTest t11
 (aIdxA 1 t8 t10 fun t12 =>
 aLoad false 1 t12 H fun t13 =>
 aIdxA 1 t0 t13 fun t17 =>
 aStore 1 t17 t2 H fun H =>
 aBin .add false t10 (.int .i64 1) fun t18 =>
 Kb1 (zq55_fr1 t0 t2 t8 t9 t18) H)
 (aRet [] (K · H))
def zq55 (t0 t1 t2 : AV) (H : Heap) (K : Kt) : Prop :=
 aLen 1 t1 fun t9 =>
 zq55_l1 t0 t2 t1 t9 (.int .i64 0) H K
theorem zq55_b1_eq (t0 t2 t8 t9 t10 : AV) (H : Heap) (K : Kt) (Kb1 : Lt) : awp tP zq55_M zq55_c1 (roundQ zq55_m1 Kb1 (zq55_Q1 K)) (zq55_fr1 t0 t2 t8 t9 t10) H = zq55_b1 t0 t2 t8 t9 t10 H K Kb1 := by kernel_rfl
theorem zq55_loop1 {t0 t2 t8 t9 t10 : AV} {H : Heap} {K : Kt} (Inv : Nat → AV → Heap → Prop) (n : Nat) (h0 : HSc H → Inv n t10 H)
   (round : ∀ n t10 H', Inv n t10 H' → HSc H' → H.length ≤ H'.length → (zq55_fr1 t0 t2 t8 t9 t10).all (AV.sc H'.length) = true → ∀ Kb1 : Lt, (∀ F'' H'', (∃ n', n' < n ∧ Back H.length (fun F2 H2 => ∃ t10, F2 = zq55_fr1 t0 t2 t8 t9 t10 ∧ Inv n' t10 H2) F'' H'') → Kb1 F'' H'') → zq55_b1 t0 t2 t8 t9 t10 H' K Kb1) : zq55_l1 t0 t2 t8 t9 t10 H K :=
 aloop (M := zq55_M) zq55_m1 (fun n F H => ∃ t10, F = zq55_fr1 t0 t2 t8 t9 t10 ∧ Inv n t10 H) n (fun hs _ => ⟨t10, rfl, h0 hs⟩) (fun n F H' ⟨t10, hF, hI⟩ h1 h2 h3 => by subst hF; rw [zq55_b1_eq]; exact round n t10 H' hI h1 h2 h3 _ (fun _ _ h => h))
theorem zq55_eq (t0 t1 t2 : AV) (H : Heap) (K : Kt) : awp tP zq55_M zq55_c (retQ tP zq55_r K) (t0 :: t1 :: t2 :: List.replicate 16 .unk) H = zq55 t0 t1 t2 H K := by kernel_rfl
theorem zq55_ok {t0 t1 t2 : AV} {H : Heap} {K : Kt} (h : HSc H → zq55 t0 t1 t2 H K) : ACalls tP n_zq55 [t0, t1, t2] H K :=
 acalls_body (M := zq55_M) Try.func57 (c := zq55_c) (by kernel_rfl) (fun hs => (zq55_eq t0 t1 t2 H K).mpr (h hs))
def zq56_M : Nat → List Bool
 | 3 => rl false [3,1,2,3,11]
 | _ => []
noncomputable def zq56_c : Code := Try.f58.body.getD .skip
noncomputable def zq56_r : List ResultVar := Try.f58.results.toList
def zq56_fr3 (t3 t6 t7 t8 : AV) : List AV := ux 3 (t3 :: ux 2 (t6 :: t7 :: t8 :: ux 11 []))
def zq56_m3 : List Bool := zq56_M 3
noncomputable def zq56_c3 : Code := codeAt [1, 1, 0, 1, 0, 0] zq56_c
def zq56_Q3 (K : Kt) : AExit → List AV → Heap → Prop := contAt tP zq56_M [1, 1, 0, 1, 0] zq56_c (retQ tP zq56_r K)
def zq56_l3 (t3 t6 t7 t8 : AV) (H : Heap) (K : Kt) : Prop := ALoop tP zq56_c3 (zq56_Q3 K) (zq56_fr3 t3 t6 t7 t8) H
def zq56_j2 (t3 t6 t7 t8 : AV) (H : Heap) (K : Kt) (Kb3 : Lt) : Prop :=
 aBin .add false t8 (.int .i64 1) fun t18 =>
 Kb3 (zq56_fr3 t3 t6 t7 t18) H
def zq56_j1 (t3 t6 t7 t8 : AV) (H : Heap) (K : Kt) (Kb3 : Lt) : Prop :=
 zq56_j2 t3 t6 t7 t8 H K Kb3
def zq56_b3 (t3 t6 t7 t8 : AV) (H : Heap) (K : Kt) (Kb3 : Lt) : Prop :=
 aBin .lss false t8 t7 fun t9 =>
 aTest t9
 (aIdxA 1 t6 t8 fun t11 =>
 aLoad false 1 t11 H fun t12 =>
 aTest t12
 (aBuildS 1 [(.int .i64 0)] 1 [(0, t8)] fun t16 =>
 aAppend e_int 1 8 t3 t16 H fun t17 H =>
 zq56_j1 t17 t6 t7 t8 H K Kb3)
 (zq56_j1 t3 t6 t7 t8 H K Kb3))
 (K t3 H)
def zq56 (t0 : AV) (H : Heap) (K : Kt) : Prop :=
 aLen 1 t0 fun t7 =>
 zq56_l3 .snil t0 t7 (.int .i64 0) H K
theorem zq56_b3_eq (t3 t6 t7 t8 : AV) (H : Heap) (K : Kt) (Kb3 : Lt) : awp tP zq56_M zq56_c3 (roundQ zq56_m3 Kb3 (zq56_Q3 K)) (zq56_fr3 t3 t6 t7 t8) H = zq56_b3 t3 t6 t7 t8 H K Kb3 := by kernel_rfl
theorem zq56_loop3 {t3 t6 t7 t8 : AV} {H : Heap} {K : Kt} (Inv : Nat → AV → AV → Heap → Prop) (n : Nat) (h0 : HSc H → Inv n t3 t8 H)
   (round : ∀ n t3 t8 H', Inv n t3 t8 H' → HSc H' → H.length ≤ H'.length → (zq56_fr3 t3 t6 t7 t8).all (AV.sc H'.length) = true → ∀ Kb3 : Lt, (∀ F'' H'', (∃ n', n' < n ∧ Back H.length (fun F2 H2 => ∃ t3 t8, F2 = zq56_fr3 t3 t6 t7 t8 ∧ Inv n' t3 t8 H2) F'' H'') → Kb3 F'' H'') → zq56_b3 t3 t6 t7 t8 H' K Kb3) : zq56_l3 t3 t6 t7 t8 H K :=
 aloop (M := zq56_M) zq56_m3 (fun n F H => ∃ t3 t8, F = zq56_fr3 t3 t6 t7 t8 ∧ Inv n t3 t8 H) n (fun hs _ => ⟨t3, t8, rfl, h0 hs⟩) (fun n F H' ⟨t3, t8, hF, hI⟩ h1 h2 h3 => by subst hF; rw [zq56_b3_eq]; exact round n t3 t8 H' hI h1 h2 h3 _ (fun _ _ h => h))
theorem zq56_eq (t0 : AV) (H : Heap) (K : Kt) : awp tP zq56_M zq56_c (retQ tP zq56_r K) (t0 :: List.replicate 19 .unk) H = zq56 t0 H K := by kernel_rfl
theorem zq56_ok {t0 : AV} {H : Heap} {K : Kt} (h : HSc H → zq56 t0 H K) : ACalls tP n_zq56 [t0] H K :=
 acalls_body (M := zq56_M) Try.func58 (c := zq56_c) (by kernel_rfl) (fun hs => (zq56_eq t0 H K).mpr (h hs))
def zq57_M : Nat → List Bool
 | 200005 => rl false [0,1]
 | 11 => rl false [2,2,30,3,8]
 | _ => []
noncomputable def zq57_c : Code := Try.f59.body.getD .skip
noncomputable def zq57_r : List ResultVar := Try.f59.results.toList
def zq57_j1 (H : Heap) (K : Kt) : Prop :=
 aRet [] (K · H)
def zq57_fr11 (t2 t3 t34 t35 t36 : AV) : List AV := ux 2 (t2 :: t3 :: ux 30 (t34 :: t35 :: t36 :: ux 8 []))
def zq57_m11 : List Bool := zq57_M 11
noncomputable def zq57_c11 : Code := codeAt [1, 1, 1, 0, 1, 1, 1, 0, 1, 0, 0] zq57_c
def zq57_Q11 (K : Kt) : AExit → List AV → Heap → Prop := contAt tP zq57_M [1, 1, 1, 0, 1, 1, 1, 0, 1, 0] zq57_c (retQ tP zq57_r K)
def zq57_l11 (t2 t3 t34 t35 t36 : AV) (H : Heap) (K : Kt) : Prop := ALoop tP zq57_c11 (zq57_Q11 K) (zq57_fr11 t2 t3 t34 t35 t36) H
def zq57_b11 (t2 t3 t34 t35 t36 : AV) (H : Heap) (K : Kt) (Kb11 : Lt) : Prop :=
 aBin .lss false t36 t35 fun t37 =>
 aTest t37
 (aIdxA 1 t34 t36 fun t38 =>
 aLoad false 1 t38 H fun t39 =>
 aLoad true 4 t3 H fun t40 =>
 ACalls tP n_zq57 [t40, t39, t2] H fun t43 H =>
 aBin .add false t36 (.int .i64 1) fun t44 =>
 Kb11 (zq57_fr11 t2 t3 t34 t35 t44) H)
 (zq57_j1 H K)
def zq57_j2 (t1 t2 t3 t6 t28 : AV) (H : Heap) (K : Kt) : Prop :=
 aTest t28
 (aFld 4 t6 fun t33 =>
 aLoad false 1 t33 H fun t34 =>
 aLen 1 t34 fun t35 =>
 zq57_l11 t2 t3 t34 t35 (.int .i64 0) H K)
 (aIdxA 1 t2 t1 fun t18 =>
 aStore 1 t18 (.bool true) H fun H =>
 zq57_j1 H K)
def zq57 (t0 t1 t2 : AV) (H : Heap) (K : Kt) : Prop :=
 aBox t0 H fun t3 H =>
 aFld 3 t3 fun t9 =>
 aLoad false 1 t9 H fun t10 =>
 aIdxA 8 t10 t1 fun t12 =>
 aLoad true 8 t12 H fun t13 =>
 aNew [(.int .i64 0), (.int .i64 0), .snil, .snil, .snil, (.int .i64 0), (.int .i64 0), .snil] H fun t6 H =>
 aStore 8 t6 t13 H fun H =>
 aFld 0 t6 fun t14 =>
 aLoad false 1 t14 H fun t15 =>
 aBin .eql false t15 (.int .i64 7) fun t20 =>
 aTest t20
 (aPure H (fun k => aLoad true 4 t3 H (k · H)) fun t21 =>
 aPure H (fun k => aFld 4 t6 (k · H)) fun t22 =>
 aPure H (fun k => aLoad false 1 t22 H (k · H)) fun t23 =>
 aPure H (fun k => aIdxA 1 t23 (.int .i64 1) (k · H)) fun t24 =>
 aPure H (fun k => aLoad false 1 t24 H (k · H)) fun t25 =>
 aPure H (fun k => k t2 H) fun t26 =>
 aDet .w false H (fun k => ACalls tP n_zq57 [t21, t25, t26] H k) fun t27 H =>
 zq57_j1 H K)
 (aBin .eql false t15 (.int .i64 8) fun t29 =>
 aTest t29
 (zq57_j2 t1 t2 t3 t6 t29 H K)
 (aBin .eql false t15 (.int .i64 9) fun t30 =>
 aTest t30
 (zq57_j2 t1 t2 t3 t6 t30 H K)
 (aBin .eql false t15 (.int .i64 10) fun t31 =>
 aTest t31
 (zq57_j2 t1 t2 t3 t6 t31 H K)
 (aBin .eql false t15 (.int .i64 24) fun t32 =>
 zq57_j2 t1 t2 t3 t6 t32 H K))))
theorem zq57_b11_eq (t2 t3 t34 t35 t36 : AV) (H : Heap) (K : Kt) (Kb11 : Lt) : awp tP zq57_M zq57_c11 (roundQ zq57_m11 Kb11 (zq57_Q11 K)) (zq57_fr11 t2 t3 t34 t35 t36) H = zq57_b11 t2 t3 t34 t35 t36 H K Kb11 := by kernel_rfl
theorem zq57_loop11 {t2 t3 t34 t35 t36 : AV} {H : Heap} {K : Kt} (Inv : Nat → AV → Heap → Prop) (n : Nat) (h0 : HSc H → Inv n t36 H)
   (round : ∀ n t36 H', Inv n t36 H' → HSc H' → H.length ≤ H'.length → (zq57_fr11 t2 t3 t34 t35 t36).all (AV.sc H'.length) = true → ∀ Kb11 : Lt, (∀ F'' H'', (∃ n', n' < n ∧ Back H.length (fun F2 H2 => ∃ t36, F2 = zq57_fr11 t2 t3 t34 t35 t36 ∧ Inv n' t36 H2) F'' H'') → Kb11 F'' H'') → zq57_b11 t2 t3 t34 t35 t36 H' K Kb11) : zq57_l11 t2 t3 t34 t35 t36 H K :=
 aloop (M := zq57_M) zq57_m11 (fun n F H => ∃ t36, F = zq57_fr11 t2 t3 t34 t35 t36 ∧ Inv n t36 H) n (fun hs _ => ⟨t36, rfl, h0 hs⟩) (fun n F H' ⟨t36, hF, hI⟩ h1 h2 h3 => by subst hF; rw [zq57_b11_eq]; exact round n t36 H' hI h1 h2 h3 _ (fun _ _ h => h))
theorem zq57_eq (t0 t1 t2 : AV) (H : Heap) (K : Kt) : awp tP zq57_M zq57_c (retQ tP zq57_r K) (t0 :: t1 :: t2 :: List.replicate 42 .unk) H = zq57 t0 t1 t2 H K := by kernel_rfl
theorem zq57_ok {t0 t1 t2 : AV} {H : Heap} {K : Kt} (h : HSc H → zq57 t0 t1 t2 H K) : ACalls tP n_zq57 [t0, t1, t2] H K :=
 acalls_body (M := zq57_M) Try.func59 (c := zq57_c) (by kernel_rfl) (fun hs => (zq57_eq t0 t1 t2 H K).mpr (h hs))
def zq58_M : Nat → List Bool
 | 3 => rl false [0,1,2,1,2,2,12]
 | _ => []
noncomputable def zq58_c : Code := Try.f60.body.getD .skip
noncomputable def zq58_r : List ResultVar := Try.f60.results.toList
def zq58_fr3 (t0 t3 t6 t7 : AV) : List AV := t0 :: ux 2 (t3 :: ux 2 (t6 :: t7 :: ux 12 []))
def zq58_m3 : List Bool := zq58_M 3
noncomputable def zq58_c3 : Code := codeAt [1, 1, 0, 1, 0, 0] zq58_c
def zq58_Q3 (K : Kt) : AExit → List AV → Heap → Prop := contAt tP zq58_M [1, 1, 0, 1, 0] zq58_c (retQ tP zq58_r K)
def zq58_l3 (t0 t3 t6 t7 : AV) (H : Heap) (K : Kt) : Prop := ALoop tP zq58_c3 (zq58_Q3 K) (zq58_fr3 t0 t3 t6 t7) H
def zq58_j2 (t0 t3 t6 t7 : AV) (H : Heap) (K : Kt) (Kb3 : Lt) : Prop :=
 aBin .add false t7 (.int .i64 1) fun t18 =>
 Kb3 (zq58_fr3 t0 t3 t6 t18) H
def zq58_j1 (t0 t3 t6 t7 : AV) (H : Heap) (K : Kt) (Kb3 : Lt) : Prop :=
 zq58_j2 t0 t3 t6 t7 H K Kb3
def zq58_b3 (t0 t3 t6 t7 : AV) (H : Heap) (K : Kt) (Kb3 : Lt) : Prop :=
 aBin .lss false t7 t6 fun t8 =>
 aTest t8
 (aIdxA 1 t0 t7 fun t12 =>
 aLoad false 1 t12 H fun t13 =>
 aTest t13
 (aBuildS 1 [(.int .i64 0)] 1 [(0, t7)] fun t16 =>
 aAppend e_int 1 8 t3 t16 H fun t17 H =>
 zq58_j1 t0 t17 t6 t7 H K Kb3)
 (zq58_j1 t0 t3 t6 t7 H K Kb3))
 (K t3 H)
def zq58 (t0 : AV) (H : Heap) (K : Kt) : Prop :=
 aLen 1 t0 fun t6 =>
 zq58_l3 t0 .snil t6 (.int .i64 0) H K
theorem zq58_b3_eq (t0 t3 t6 t7 : AV) (H : Heap) (K : Kt) (Kb3 : Lt) : awp tP zq58_M zq58_c3 (roundQ zq58_m3 Kb3 (zq58_Q3 K)) (zq58_fr3 t0 t3 t6 t7) H = zq58_b3 t0 t3 t6 t7 H K Kb3 := by kernel_rfl
theorem zq58_loop3 {t0 t3 t6 t7 : AV} {H : Heap} {K : Kt} (Inv : Nat → AV → AV → Heap → Prop) (n : Nat) (h0 : HSc H → Inv n t3 t7 H)
   (round : ∀ n t3 t7 H', Inv n t3 t7 H' → HSc H' → H.length ≤ H'.length → (zq58_fr3 t0 t3 t6 t7).all (AV.sc H'.length) = true → ∀ Kb3 : Lt, (∀ F'' H'', (∃ n', n' < n ∧ Back H.length (fun F2 H2 => ∃ t3 t7, F2 = zq58_fr3 t0 t3 t6 t7 ∧ Inv n' t3 t7 H2) F'' H'') → Kb3 F'' H'') → zq58_b3 t0 t3 t6 t7 H' K Kb3) : zq58_l3 t0 t3 t6 t7 H K :=
 aloop (M := zq58_M) zq58_m3 (fun n F H => ∃ t3 t7, F = zq58_fr3 t0 t3 t6 t7 ∧ Inv n t3 t7 H) n (fun hs _ => ⟨t3, t7, rfl, h0 hs⟩) (fun n F H' ⟨t3, t7, hF, hI⟩ h1 h2 h3 => by subst hF; rw [zq58_b3_eq]; exact round n t3 t7 H' hI h1 h2 h3 _ (fun _ _ h => h))
theorem zq58_eq (t0 : AV) (H : Heap) (K : Kt) : awp tP zq58_M zq58_c (retQ tP zq58_r K) (t0 :: List.replicate 19 .unk) H = zq58 t0 H K := by kernel_rfl
theorem zq58_ok {t0 : AV} {H : Heap} {K : Kt} (h : HSc H → zq58 t0 H K) : ACalls tP n_zq58 [t0] H K :=
 acalls_body (M := zq58_M) Try.func60 (c := zq58_c) (by kernel_rfl) (fun hs => (zq58_eq t0 H K).mpr (h hs))
end Go.Proofs.Ytkdmpbhbmmhijaa
