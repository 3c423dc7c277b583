/- The shallow forms of functions of the program, printed by a program (absgen.py) off the translation, each tied to the model by the kernel. -/
import Derived.Test.YtkdmpbhbmmhijaaKNum
import Derived.Test.YtkdmpbhbmmhijaaProg
import Derived.KernelRfl
namespace Go.Proofs.Ytkdmpbhbmmhijaa
open Go Go.Abs
set_option linter.unusedVariables false
set_option maxRecDepth 100000

/-! ### 4: amortcostlaw09.CoreFinds -/
def zq2_M (_ : Nat) : List Bool := []
noncomputable def zq2_c : Code := Try.f4.body.getD .skip
noncomputable def zq2_r : List ResultVar := Try.f4.results.toList
def zq2 (t0 t1 t2 : AV) (H : Heap) (K : Kt) : Prop :=
 aBox t0 H fun t3 H =>
 aLoad true 4 t3 H fun t7 =>
 ACalls Try.prog n_zq10 [t7] H fun t8 H =>
 aUn .not t8 fun t9 =>
 aGuardJ t9 false H (fun K' => K' t2 H) fun t11 H =>
 aGuardJ t9 false H (fun K' => aLen 0 t11 (K' · H)) fun t12 H =>
 aGuardJ t9 false H (fun K' => aBin .gtr false t12 (.int .i64 400) (K' · H)) fun t13 H =>
 aPick t9 (.bool true) t13 fun t14 =>
 aTest t14
 (K (.bool true) H)
 (aPure H (fun K' => aLoad true 4 t3 H (K' · H)) fun t15 =>
 aPure H (fun K' => K' t1 H) fun t16 =>
 aPureX H (fun H K' => ACalls Try.prog n_zq14 [t15, t16] H K') fun t17 =>
 aPure H (fun K' => aLoad true 4 t3 H (K' · H)) fun t18 =>
 aPure H (fun K' => K' t1 H) fun t19 =>
 aPureX H (fun H K' => ACalls Try.prog n_zq15 [t18, t19] H K') fun t20 =>
 aPure H (fun K' => aBin .eql false t17 t20 (K' · H)) fun t21 =>
 aPure H (fun K' => K' t21 H) fun t22 =>
 aGuardJ t22 true H (fun K' => aPure H (fun K'' => aLoad true 4 t3 H (K'' · H)) (K' · H)) fun t23 H =>
 aGuardJ t22 true H (fun K' => aPure H (fun K'' => K'' t2 H) (K' · H)) fun t24 H =>
 aGuardJ t22 true H (fun K' => aPureX H (fun H K'' => ACalls Try.prog n_zq16 [t23, t24] H K'') (K' · H)) fun t25 H =>
 aGuardJ t22 true H (fun K' => aPure H (fun K'' => aLoad true 4 t3 H (K'' · H)) (K' · H)) fun t26 H =>
 aGuardJ t22 true H (fun K' => aPure H (fun K'' => K'' t2 H) (K' · H)) fun t27 H =>
 aGuardJ t22 true H (fun K' => aPureX H (fun H K'' => ACalls Try.prog n_zq17 [t26, t27] H K'') (K' · H)) fun t28 H =>
 aGuardJ t22 true H (fun K' => aPure H (fun K'' => aBin .eql false t25 t28 (K'' · H)) (K' · H)) fun t29 H =>
 aPure H (fun K' => aPick t22 t29 (.bool false) (K' · H)) fun t30 =>
 aPure H (fun K' => K' t30 H) fun t31 =>
 aGuardJ t31 true H (fun K' => aPureX H (fun H K'' => ACalls Try.prog n_zq18 [] H K'') (K' · H)) fun t32 H =>
 aGuardJ t31 true H (fun K' => aPureX H (fun H K'' => ACalls Try.prog n_zq14 [t32, (.int .i64 0)] H K'') (K' · H)) fun t33 H =>
 aGuardJ t31 true H (fun K' => aPure H (fun K'' => aBin .eql false t33 (.int .i64 (-1)) (K'' · H)) (K' · H)) fun t34 H =>
 aPure H (fun K' => aPick t31 t34 (.bool false) (K' · H)) fun t35 =>
 aPure H (fun K' => K' t35 H) fun t6 =>
 K t6 H)
theorem zq2_eq (t0 t1 t2 : AV) (H : Heap) (K : Kt) : awp Try.prog zq2_M zq2_c (retQ Try.prog zq2_r K) (t0 :: t1 :: t2 :: List.replicate 33 .unk) H = zq2 t0 t1 t2 H K := by kernel_rfl
theorem zq2_ok {t0 t1 t2 : AV} {H : Heap} {K : Kt} (h : HSc H → zq2 t0 t1 t2 H K) : ACalls Try.prog n_zq2 [t0, t1, t2] H K :=
 acalls_body (M := zq2_M) Try.func4 (c := zq2_c) (by kernel_rfl) (fun hs => (zq2_eq t0 t1 t2 H K).mpr (h hs))

/-! ### 16: core.Definition -/
def zq14_M : Nat → List Bool
 | 4 => rl false [1,1,20,3,21]
 | _ => []
noncomputable def zq14_c : Code := Try.f16.body.getD .skip
noncomputable def zq14_r : List ResultVar := Try.f16.results.toList
def zq14_fr4 (t1 t22 t23 t24 : AV) : List AV := ux 1 (t1 :: ux 20 (t22 :: t23 :: t24 :: ux 21 []))
def zq14_m4 : List Bool := zq14_M 4
noncomputable def zq14_c4 : Code := codeAt [1, 1, 0, 1, 0, 0] zq14_c
def zq14_Q4 (K : Kt) : AExit → List AV → Heap → Prop := contAt Try.prog zq14_M [1, 1, 0, 1, 0] zq14_c (retQ Try.prog zq14_r K)
def zq14_l4 (t1 t22 t23 t24 : AV) (H : Heap) (K : Kt) : Prop := ALoop Try.prog zq14_c4 (zq14_Q4 K) (zq14_fr4 t1 t22 t23 t24) H
def zq14_b4 (t1 t22 t23 t24 : AV) (H : Heap) (K : Kt) (Kb4 : Lt) : Prop :=
 aBin .lss false t24 t23 fun t25 =>
 aTest t25
 (aIdxA 8 t22 t24 fun t26 =>
 aLoad true 8 t26 H fun t27 =>
 aNew [(.int .i64 0), (.int .i64 0), .snil, .snil, .snil, (.int .i64 0), (.int .i64 0), .snil] H fun t6 H =>
 aStore 8 t6 t27 H fun H =>
 aFld 0 t6 fun t28 =>
 aLoad false 1 t28 H fun t29 =>
 aBin .eql false t29 (.int .i64 7) fun t30 =>
 aGuardJ t30 true H (fun K' => aFld 3 t6 (K' · H)) fun t32 H =>
 aGuardJ t30 true H (fun K' => aLoad false 1 t32 H (K' · H)) fun t33 H =>
 aGuardJ t30 true H (fun K' => aIdxA 1 t33 (.int .i64 1) (K' · H)) fun t34 H =>
 aGuardJ t30 true H (fun K' => aLoad false 1 t34 H (K' · H)) fun t35 H =>
 aGuardJ t30 true H (fun K' => aIdxA 1 t35 (.int .i64 0) (K' · H)) fun t36 H =>
 aGuardJ t30 true H (fun K' => aLoad false 1 t36 H (K' · H)) fun t37 H =>
 aGuardJ t30 true H (fun K' => K' t1 H) fun t38 H =>
 aGuardJ t30 true H (fun K' => aBin .eql false t37 t38 (K' · H)) fun t39 H =>
 aPick t30 t39 (.bool false) fun t40 =>
 aTest t40
 (aFld 4 t6 fun t41 =>
 aLoad false 1 t41 H fun t42 =>
 aIdxA 1 t42 (.int .i64 0) fun t43 =>
 aLoad false 1 t43 H fun t44 =>
 K t44 H)
 (aBin .add false t24 (.int .i64 1) fun t45 =>
 Kb4 (zq14_fr4 t1 t22 t23 t45) H))
 (K (.int .i64 (-1)) H)
def zq14 (t0 t1 : AV) (H : Heap) (K : Kt) : Prop :=
 aBox t0 H fun t2 H =>
 aBin .lss false t1 (.int .i64 0) fun t8 =>
 aGuardJ t8 false H (fun K' => K' t1 H) fun t10 H =>
 aGuardJ t8 false H (fun K' => aFld 2 t2 (K' · H)) fun t11 H =>
 aGuardJ t8 false H (fun K' => aLoad false 1 t11 H (K' · H)) fun t12 H =>
 aGuardJ t8 false H (fun K' => aLen 1 t12 (K' · H)) fun t13 H =>
 aGuardJ t8 false H (fun K' => aBin .geq false t10 t13 (K' · H)) fun t14 H =>
 aPick t8 (.bool true) t14 fun t15 =>
 aGuardJ t15 false H (fun K' => aLoad true 4 t2 H (K' · H)) fun t17 H =>
 aGuardJ t15 false H (fun K' => ACalls Try.prog n_zq11 [t17] H K') fun t18 H =>
 aGuardJ t15 false H (fun K' => aUn .not t18 (K' · H)) fun t19 H =>
 aPick t15 (.bool true) t19 fun t20 =>
 aTest t20
 (K (.int .i64 (-1)) H)
 (aFld 3 t2 fun t21 =>
 aLoad false 1 t21 H fun t22 =>
 aLen 1 t22 fun t23 =>
 zq14_l4 t1 t22 t23 (.int .i64 0) H K)
theorem zq14_b4_eq (t1 t22 t23 t24 : AV) (H : Heap) (K : Kt) (Kb4 : Lt) : awp Try.prog zq14_M zq14_c4 (roundQ zq14_m4 Kb4 (zq14_Q4 K)) (zq14_fr4 t1 t22 t23 t24) H = zq14_b4 t1 t22 t23 t24 H K Kb4 := by kernel_rfl
theorem zq14_loop4 {t1 t22 t23 t24 : AV} {H : Heap} {K : Kt} (Inv : Nat → AV → Heap → Prop) (n : Nat) (h0 : HSc H → Inv n t24 H)
   (round : ∀ n t24 H', Inv n t24 H' → HSc H' → H.length ≤ H'.length → (zq14_fr4 t1 t22 t23 t24).all (AV.sc H'.length) = true → ∀ Kb4 : Lt, (∀ F'' H'', (∃ n', n' < n ∧ Back H.length (fun F2 H2 => ∃ t24, F2 = zq14_fr4 t1 t22 t23 t24 ∧ Inv n' t24 H2) F'' H'') → Kb4 F'' H'') → zq14_b4 t1 t22 t23 t24 H' K Kb4) : zq14_l4 t1 t22 t23 t24 H K :=
 aloop (M := zq14_M) zq14_m4 (fun n F H => ∃ t24, F = zq14_fr4 t1 t22 t23 t24 ∧ Inv n t24 H) n (fun hs _ => ⟨t24, rfl, h0 hs⟩) (fun n F H' ⟨t24, hF, hI⟩ h1 h2 h3 => by subst hF; rw [zq14_b4_eq]; exact round n t24 H' hI h1 h2 h3 _ (fun _ _ h => h))
theorem zq14_eq (t0 t1 : AV) (H : Heap) (K : Kt) : awp Try.prog zq14_M zq14_c (retQ Try.prog zq14_r K) (t0 :: t1 :: List.replicate 44 .unk) H = zq14 t0 t1 H K := by kernel_rfl
theorem zq14_ok {t0 t1 : AV} {H : Heap} {K : Kt} (h : HSc H → zq14 t0 t1 H K) : ACalls Try.prog n_zq14 [t0, t1] H K :=
 acalls_body (M := zq14_M) Try.func16 (c := zq14_c) (by kernel_rfl) (fun hs => (zq14_eq t0 t1 H K).mpr (h hs))

/-! ### 17: amortcostref9.Definition -/
def zq15_M : Nat → List Bool
 | 4 => rl false [1,1,20,3,21]
 | _ => []
noncomputable def zq15_c : Code := Try.f17.body.getD .skip
noncomputable def zq15_r : List ResultVar := Try.f17.results.toList
def zq15_fr4 (t1 t22 t23 t24 : AV) : List AV := ux 1 (t1 :: ux 20 (t22 :: t23 :: t24 :: ux 21 []))
def zq15_m4 : List Bool := zq15_M 4
noncomputable def zq15_c4 : Code := codeAt [1, 1, 0, 1, 0, 0] zq15_c
def zq15_Q4 (K : Kt) : AExit → List AV → Heap → Prop := contAt Try.prog zq15_M [1, 1, 0, 1, 0] zq15_c (retQ Try.prog zq15_r K)
def zq15_l4 (t1 t22 t23 t24 : AV) (H : Heap) (K : Kt) : Prop := ALoop Try.prog zq15_c4 (zq15_Q4 K) (zq15_fr4 t1 t22 t23 t24) H
def zq15_b4 (t1 t22 t23 t24 : AV) (H : Heap) (K : Kt) (Kb4 : Lt) : Prop :=
 aBin .lss false t24 t23 fun t25 =>
 aTest t25
 (aIdxA 8 t22 t24 fun t26 =>
 aLoad true 8 t26 H fun t27 =>
 aNew [(.int .i64 0), (.int .i64 0), .snil, .snil, .snil, (.int .i64 0), (.int .i64 0), .snil] H fun t6 H =>
 aStore 8 t6 t27 H fun H =>
 aFld 0 t6 fun t28 =>
 aLoad false 1 t28 H fun t29 =>
 aBin .eql false t29 (.int .i64 7) fun t30 =>
 aGuardJ t30 true H (fun K' => aFld 3 t6 (K' · H)) fun t32 H =>
 aGuardJ t30 true H (fun K' => aLoad false 1 t32 H (K' · H)) fun t33 H =>
 aGuardJ t30 true H (fun K' => aIdxA 1 t33 (.int .i64 1) (K' · H)) fun t34 H =>
 aGuardJ t30 true H (fun K' => aLoad false 1 t34 H (K' · H)) fun t35 H =>
 aGuardJ t30 true H (fun K' => aIdxA 1 t35 (.int .i64 0) (K' · H)) fun t36 H =>
 aGuardJ t30 true H (fun K' => aLoad false 1 t36 H (K' · H)) fun t37 H =>
 aGuardJ t30 true H (fun K' => K' t1 H) fun t38 H =>
 aGuardJ t30 true H (fun K' => aBin .eql false t37 t38 (K' · H)) fun t39 H =>
 aPick t30 t39 (.bool false) fun t40 =>
 aTest t40
 (aFld 4 t6 fun t41 =>
 aLoad false 1 t41 H fun t42 =>
 aIdxA 1 t42 (.int .i64 0) fun t43 =>
 aLoad false 1 t43 H fun t44 =>
 K t44 H)
 (aBin .add false t24 (.int .i64 1) fun t45 =>
 Kb4 (zq15_fr4 t1 t22 t23 t45) H))
 (K (.int .i64 (-1)) H)
def zq15 (t0 t1 : AV) (H : Heap) (K : Kt) : Prop :=
 aBox t0 H fun t2 H =>
 aLoad true 4 t2 H fun t7 =>
 ACalls Try.prog n_zq12 [t7] H fun t8 H =>
 aUn .not t8 fun t9 =>
 aGuardJ t9 false H (fun K' => K' t1 H) fun t11 H =>
 aGuardJ t9 false H (fun K' => aBin .lss false t11 (.int .i64 0) (K' · H)) fun t12 H =>
 aPick t9 (.bool true) t12 fun t13 =>
 aGuardJ t13 false H (fun K' => K' t1 H) fun t15 H =>
 aGuardJ t13 false H (fun K' => aFld 2 t2 (K' · H)) fun t16 H =>
 aGuardJ t13 false H (fun K' => aLoad false 1 t16 H (K' · H)) fun t17 H =>
 aGuardJ t13 false H (fun K' => aLen 1 t17 (K' · H)) fun t18 H =>
 aGuardJ t13 false H (fun K' => aBin .geq false t15 t18 (K' · H)) fun t19 H =>
 aPick t13 (.bool true) t19 fun t20 =>
 aTest t20
 (K (.int .i64 (-1)) H)
 (aFld 3 t2 fun t21 =>
 aLoad false 1 t21 H fun t22 =>
 aLen 1 t22 fun t23 =>
 zq15_l4 t1 t22 t23 (.int .i64 0) H K)
theorem zq15_b4_eq (t1 t22 t23 t24 : AV) (H : Heap) (K : Kt) (Kb4 : Lt) : awp Try.prog zq15_M zq15_c4 (roundQ zq15_m4 Kb4 (zq15_Q4 K)) (zq15_fr4 t1 t22 t23 t24) H = zq15_b4 t1 t22 t23 t24 H K Kb4 := by kernel_rfl
theorem zq15_loop4 {t1 t22 t23 t24 : AV} {H : Heap} {K : Kt} (Inv : Nat → AV → Heap → Prop) (n : Nat) (h0 : HSc H → Inv n t24 H)
   (round : ∀ n t24 H', Inv n t24 H' → HSc H' → H.length ≤ H'.length → (zq15_fr4 t1 t22 t23 t24).all (AV.sc H'.length) = true → ∀ Kb4 : Lt, (∀ F'' H'', (∃ n', n' < n ∧ Back H.length (fun F2 H2 => ∃ t24, F2 = zq15_fr4 t1 t22 t23 t24 ∧ Inv n' t24 H2) F'' H'') → Kb4 F'' H'') → zq15_b4 t1 t22 t23 t24 H' K Kb4) : zq15_l4 t1 t22 t23 t24 H K :=
 aloop (M := zq15_M) zq15_m4 (fun n F H => ∃ t24, F = zq15_fr4 t1 t22 t23 t24 ∧ Inv n t24 H) n (fun hs _ => ⟨t24, rfl, h0 hs⟩) (fun n F H' ⟨t24, hF, hI⟩ h1 h2 h3 => by subst hF; rw [zq15_b4_eq]; exact round n t24 H' hI h1 h2 h3 _ (fun _ _ h => h))
theorem zq15_eq (t0 t1 : AV) (H : Heap) (K : Kt) : awp Try.prog zq15_M zq15_c (retQ Try.prog zq15_r K) (t0 :: t1 :: List.replicate 44 .unk) H = zq15 t0 t1 H K := by kernel_rfl
theorem zq15_ok {t0 t1 : AV} {H : Heap} {K : Kt} (h : HSc H → zq15 t0 t1 H K) : ACalls Try.prog n_zq15 [t0, t1] H K :=
 acalls_body (M := zq15_M) Try.func17 (c := zq15_c) (by kernel_rfl) (fun hs => (zq15_eq t0 t1 H K).mpr (h hs))

/-! ### 18: core.Function -/
def zq16_M : Nat → List Bool
 | 4 => rl false [1,1,13,3,10]
 | _ => []
noncomputable def zq16_c : Code := Try.f18.body.getD .skip
noncomputable def zq16_r : List ResultVar := Try.f18.results.toList
def zq16_fr4 (t1 t15 t16 t17 : AV) : List AV := ux 1 (t1 :: ux 13 (t15 :: t16 :: t17 :: ux 10 []))
def zq16_m4 : List Bool := zq16_M 4
noncomputable def zq16_c4 : Code := codeAt [1, 1, 0, 1, 0, 0] zq16_c
def zq16_Q4 (K : Kt) : AExit → List AV → Heap → Prop := contAt Try.prog zq16_M [1, 1, 0, 1, 0] zq16_c (retQ Try.prog zq16_r K)
def zq16_l4 (t1 t15 t16 t17 : AV) (H : Heap) (K : Kt) : Prop := ALoop Try.prog zq16_c4 (zq16_Q4 K) (zq16_fr4 t1 t15 t16 t17) H
def zq16_b4 (t1 t15 t16 t17 : AV) (H : Heap) (K : Kt) (Kb4 : Lt) : Prop :=
 aBin .lss false t17 t16 fun t18 =>
 aTest t18
 (aIdxA 7 t15 t17 fun t20 =>
 aLoad true 7 t20 H fun t21 =>
 aNew [(.str []), .snil, .snil, (.int .i64 0), (.int .i64 0), .snil, (.int .i64 0)] H fun t6 H =>
 aStore 7 t6 t21 H fun H =>
 aFld 0 t6 fun t22 =>
 aLoad false 1 t22 H fun t23 =>
 aBin .eql false t23 t1 fun t25 =>
 aTest t25
 (K t17 H)
 (aBin .add false t17 (.int .i64 1) fun t27 =>
 Kb4 (zq16_fr4 t1 t15 t16 t27) H))
 (K (.int .i64 (-1)) H)
def zq16 (t0 t1 : AV) (H : Heap) (K : Kt) : Prop :=
 aBox t0 H fun t2 H =>
 aBin .eql false t1 (.str []) fun t8 =>
 aGuardJ t8 false H (fun K' => aLoad true 4 t2 H (K' · H)) fun t10 H =>
 aGuardJ t8 false H (fun K' => ACalls Try.prog n_zq11 [t10] H K') fun t11 H =>
 aGuardJ t8 false H (fun K' => aUn .not t11 (K' · H)) fun t12 H =>
 aPick t8 (.bool true) t12 fun t13 =>
 aTest t13
 (K (.int .i64 (-1)) H)
 (aFld 1 t2 fun t14 =>
 aLoad false 1 t14 H fun t15 =>
 aLen 1 t15 fun t16 =>
 zq16_l4 t1 t15 t16 (.int .i64 0) H K)
theorem zq16_b4_eq (t1 t15 t16 t17 : AV) (H : Heap) (K : Kt) (Kb4 : Lt) : awp Try.prog zq16_M zq16_c4 (roundQ zq16_m4 Kb4 (zq16_Q4 K)) (zq16_fr4 t1 t15 t16 t17) H = zq16_b4 t1 t15 t16 t17 H K Kb4 := by kernel_rfl
theorem zq16_loop4 {t1 t15 t16 t17 : AV} {H : Heap} {K : Kt} (Inv : Nat → AV → Heap → Prop) (n : Nat) (h0 : HSc H → Inv n t17 H)
   (round : ∀ n t17 H', Inv n t17 H' → HSc H' → H.length ≤ H'.length → (zq16_fr4 t1 t15 t16 t17).all (AV.sc H'.length) = true → ∀ Kb4 : Lt, (∀ F'' H'', (∃ n', n' < n ∧ Back H.length (fun F2 H2 => ∃ t17, F2 = zq16_fr4 t1 t15 t16 t17 ∧ Inv n' t17 H2) F'' H'') → Kb4 F'' H'') → zq16_b4 t1 t15 t16 t17 H' K Kb4) : zq16_l4 t1 t15 t16 t17 H K :=
 aloop (M := zq16_M) zq16_m4 (fun n F H => ∃ t17, F = zq16_fr4 t1 t15 t16 t17 ∧ Inv n t17 H) n (fun hs _ => ⟨t17, rfl, h0 hs⟩) (fun n F H' ⟨t17, hF, hI⟩ h1 h2 h3 => by subst hF; rw [zq16_b4_eq]; exact round n t17 H' hI h1 h2 h3 _ (fun _ _ h => h))
theorem zq16_eq (t0 t1 : AV) (H : Heap) (K : Kt) : awp Try.prog zq16_M zq16_c (retQ Try.prog zq16_r K) (t0 :: t1 :: List.replicate 26 .unk) H = zq16 t0 t1 H K := by kernel_rfl
theorem zq16_ok {t0 t1 : AV} {H : Heap} {K : Kt} (h : HSc H → zq16 t0 t1 H K) : ACalls Try.prog n_zq16 [t0, t1] H K :=
 acalls_body (M := zq16_M) Try.func18 (c := zq16_c) (by kernel_rfl) (fun hs => (zq16_eq t0 t1 H K).mpr (h hs))

/-! ### 19: amortcostref9.Function -/
def zq17_M : Nat → List Bool
 | 4 => rl false [1,1,13,3,10]
 | _ => []
noncomputable def zq17_c : Code := Try.f19.body.getD .skip
noncomputable def zq17_r : List ResultVar := Try.f19.results.toList
def zq17_fr4 (t1 t15 t16 t17 : AV) : List AV := ux 1 (t1 :: ux 13 (t15 :: t16 :: t17 :: ux 10 []))
def zq17_m4 : List Bool := zq17_M 4
noncomputable def zq17_c4 : Code := codeAt [1, 1, 0, 1, 0, 0] zq17_c
def zq17_Q4 (K : Kt) : AExit → List AV → Heap → Prop := contAt Try.prog zq17_M [1, 1, 0, 1, 0] zq17_c (retQ Try.prog zq17_r K)
def zq17_l4 (t1 t15 t16 t17 : AV) (H : Heap) (K : Kt) : Prop := ALoop Try.prog zq17_c4 (zq17_Q4 K) (zq17_fr4 t1 t15 t16 t17) H
def zq17_b4 (t1 t15 t16 t17 : AV) (H : Heap) (K : Kt) (Kb4 : Lt) : Prop :=
 aBin .lss false t17 t16 fun t18 =>
 aTest t18
 (aIdxA 7 t15 t17 fun t20 =>
 aLoad true 7 t20 H fun t21 =>
 aNew [(.str []), .snil, .snil, (.int .i64 0), (.int .i64 0), .snil, (.int .i64 0)] H fun t6 H =>
 aStore 7 t6 t21 H fun H =>
 aFld 0 t6 fun t22 =>
 aLoad false 1 t22 H fun t23 =>
 aBin .eql false t23 t1 fun t25 =>
 aTest t25
 (K t17 H)
 (aBin .add false t17 (.int .i64 1) fun t27 =>
 Kb4 (zq17_fr4 t1 t15 t16 t27) H))
 (K (.int .i64 (-1)) H)
def zq17 (t0 t1 : AV) (H : Heap) (K : Kt) : Prop :=
 aBox t0 H fun t2 H =>
 aLoad true 4 t2 H fun t7 =>
 ACalls Try.prog n_zq12 [t7] H fun t8 H =>
 aUn .not t8 fun t9 =>
 aGuardJ t9 false H (fun K' => K' t1 H) fun t11 H =>
 aGuardJ t9 false H (fun K' => aBin .eql false t11 (.str []) (K' · H)) fun t12 H =>
 aPick t9 (.bool true) t12 fun t13 =>
 aTest t13
 (K (.int .i64 (-1)) H)
 (aFld 1 t2 fun t14 =>
 aLoad false 1 t14 H fun t15 =>
 aLen 1 t15 fun t16 =>
 zq17_l4 t1 t15 t16 (.int .i64 0) H K)
theorem zq17_b4_eq (t1 t15 t16 t17 : AV) (H : Heap) (K : Kt) (Kb4 : Lt) : awp Try.prog zq17_M zq17_c4 (roundQ zq17_m4 Kb4 (zq17_Q4 K)) (zq17_fr4 t1 t15 t16 t17) H = zq17_b4 t1 t15 t16 t17 H K Kb4 := by kernel_rfl
theorem zq17_loop4 {t1 t15 t16 t17 : AV} {H : Heap} {K : Kt} (Inv : Nat → AV → Heap → Prop) (n : Nat) (h0 : HSc H → Inv n t17 H)
   (round : ∀ n t17 H', Inv n t17 H' → HSc H' → H.length ≤ H'.length → (zq17_fr4 t1 t15 t16 t17).all (AV.sc H'.length) = true → ∀ Kb4 : Lt, (∀ F'' H'', (∃ n', n' < n ∧ Back H.length (fun F2 H2 => ∃ t17, F2 = zq17_fr4 t1 t15 t16 t17 ∧ Inv n' t17 H2) F'' H'') → Kb4 F'' H'') → zq17_b4 t1 t15 t16 t17 H' K Kb4) : zq17_l4 t1 t15 t16 t17 H K :=
 aloop (M := zq17_M) zq17_m4 (fun n F H => ∃ t17, F = zq17_fr4 t1 t15 t16 t17 ∧ Inv n t17 H) n (fun hs _ => ⟨t17, rfl, h0 hs⟩) (fun n F H' ⟨t17, hF, hI⟩ h1 h2 h3 => by subst hF; rw [zq17_b4_eq]; exact round n t17 H' hI h1 h2 h3 _ (fun _ _ h => h))
theorem zq17_eq (t0 t1 : AV) (H : Heap) (K : Kt) : awp Try.prog zq17_M zq17_c (retQ Try.prog zq17_r K) (t0 :: t1 :: List.replicate 26 .unk) H = zq17 t0 t1 H K := by kernel_rfl
theorem zq17_ok {t0 t1 : AV} {H : Heap} {K : Kt} (h : HSc H → zq17 t0 t1 H K) : ACalls Try.prog n_zq17 [t0, t1] H K :=
 acalls_body (M := zq17_M) Try.func19 (c := zq17_c) (by kernel_rfl) (fun hs => (zq17_eq t0 t1 H K).mpr (h hs))

end Go.Proofs.Ytkdmpbhbmmhijaa

