import Derived.Test.YtkdmpbhbmmhijaaKNum
import Derived.Test.YtkdmpbhbmmhijaaProg
import Derived.KernelRfl
set_option linter.unusedVariables false
namespace Go.Proofs.Ytkdmpbhbmmhijaa
open Go Go.Abs
set_option maxRecDepth 100000
def zic : Nat → List Bool
 | 5 => rl false [1,2,2,1,24]
 | _ => []
noncomputable def zmQ : Code := Try.f65.body.getD .skip
noncomputable def zAu : List ResultVar := Try.f65.results.toList
def zgH (t1 t2 t5 : AV) : List AV := ux 1 (t1 :: t2 :: ux 2 (t5 :: ux 24 []))
def zAt : List Bool := zic 5
noncomputable def zAr : Code := zap [1, 1, 1, 0, 1, 0, 0] zmQ
def zAq (K : Kt) : AExit → List AV → zaa → Prop := zaq tP zic [1, 1, 1, 0, 1, 0] zmQ (zal tP zAu K)
def zAs (t1 t2 t5 : AV) (H : zaa) (K : Kt) : Prop := ALoop tP zAr (zAq K) (zgH t1 t2 t5) H
def zmP (t1 t2 t5 : AV) (H : zaa) (K : Kt) (Kb5 : Lt) : Prop :=
 zaf 2 t2 fun t16 =>
 zae false 1 t16 H fun t17 =>
 zak 1 t17 fun t18 =>
 zad .lss false t5 t18 fun t19 =>
 zag t19
 (zaf 2 t2 fun t22 =>
 zae false 1 t22 H fun t23 =>
 zaj 3 t23 t5 fun t25 =>
 zae true 3 t25 H fun t26 =>
 ACalls tP ziZ [t26, t1] H fun t28 H =>
 aUn .not t28 fun t29 =>
 zag t29
 (K (.bool false) H)
 (zad .add false t5 (.int .i64 1) fun t21 =>
 Kb5 (zgH t1 t2 t21) H))
 (K (.bool true) H)
def zrD (t0 t1 : AV) (H : zaa) (K : Kt) : Prop :=
 zaH t0 H fun t2 H =>
 za2 t1 fun t7 =>
 zae false 1 t7 H fun t8 =>
 zad .sub false t8 (.int .i64 1) fun t9 =>
 za2 t1 fun t10 =>
 zas 1 t10 t9 H fun H =>
 za2 t1 fun t12 =>
 zae false 1 t12 H fun t13 =>
 zad .lss false t13 (.int .i64 0) fun t14 =>
 zag t14
 (K (.bool false) H)
 (zAs t1 t2 (.int .i64 0) H K)
theorem zMv (t1 t2 t5 : AV) (H : zaa) (K : Kt) (Kb5 : Lt) : awp tP zic zAr (zat zAt Kb5 (zAq K)) (zgH t1 t2 t5) H = zmP t1 t2 t5 H K Kb5 := by kernel_rfl
theorem zMx {t1 t2 t5 : AV} {H : zaa} {K : Kt} (Inv : Nat → AV → zaa → Prop) (n : Nat) (h0 : HSc H → Inv n t5 H)
  (round : ∀ n t5 H', Inv n t5 H' → HSc H' → H.length ≤ H'.length → (zgH t1 t2 t5).all (AV.sc H'.length) = true → ∀ Kb5 : Lt, (∀ F'' H'', (∃ n', n' < n ∧ Back H.length (fun F2 H2 => ∃ t5, F2 = zgH t1 t2 t5 ∧ Inv n' t5 H2) F'' H'') → Kb5 F'' H'') → zmP t1 t2 t5 H' K Kb5) : zAs t1 t2 t5 H K :=
 zav (M := zic) zAt (fun n F H => ∃ t5, F = zgH t1 t2 t5 ∧ Inv n t5 H) n (fun hs _ => ⟨t5, rfl, h0 hs⟩) (fun n F H' ⟨t5, hF, hI⟩ h1 h2 h3 => by subst hF; rw [zMv]; exact round n t5 H' hI h1 h2 h3 _ (fun _ _ h => h))
theorem zMw (t0 t1 : AV) (H : zaa) (K : Kt) : awp tP zic zmQ (zal tP zAu K) (t0 :: t1 :: List.replicate 28 .unk) H = zrD t0 t1 H K := by kernel_rfl
theorem zMy {t0 t1 : AV} {H : zaa} {K : Kt} (h : HSc H → zrD t0 t1 H K) : ACalls tP ziZ [t0, t1] H K :=
 zaw (M := zic) Try.func65 (c := zmQ) (by kernel_rfl) (fun hs => (zMw t0 t1 H K).mpr (h hs))
def zya (_ : Nat) : List Bool := []
noncomputable def zyb : Code := Try.f40.body.getD .skip
noncomputable def zKo : List ResultVar := Try.f40.results.toList
def zqP (t0 : AV) (H : zaa) (K : Kt) : Prop :=
 zaH t0 H fun t1 H =>
 zaC [(.int .i64 0)] H fun t3 H =>
 zas 1 t3 (.int .i64 250) H fun H =>
 zae true 3 t1 H fun t4 =>
 ACalls tP ziZ [t4, t3] H fun t5 H =>
 K t5 H
theorem zKm (t0 : AV) (H : zaa) (K : Kt) : awp tP zya zyb (zal tP zKo K) (t0 :: List.replicate 5 .unk) H = zqP t0 H K := by kernel_rfl
theorem zKn {t0 : AV} {H : zaa} {K : Kt} (h : HSc H → zqP t0 H K) : ACalls tP ziY [t0] H K :=
 zaw (M := zya) Try.func40 (c := zyb) (by kernel_rfl) (fun hs => (zKm t0 H K).mpr (h hs))
def zhU : Nat → List Bool
 | 2 => rl false [0,2,3,1,21]
 | _ => []
noncomputable def zlZ : Code := Try.f39.body.getD .skip
noncomputable def zx9 : List ResultVar := Try.f39.results.toList
def zgc (t0 t1 t5 : AV) : List AV := t0 :: t1 :: ux 3 (t5 :: ux 21 [])
def zx8 : List Bool := zhU 2
noncomputable def zx6 : Code := zap [1, 0, 1, 0, 0] zlZ
def zx5 (K : Kt) : AExit → List AV → zaa → Prop := zaq tP zhU [1, 0, 1, 0] zlZ (zal tP zx9 K)
def zx7 (t0 t1 t5 : AV) (H : zaa) (K : Kt) : Prop := ALoop tP zx6 (zx5 K) (zgc t0 t1 t5) H
def zjp (t0 t1 t5 : AV) (H : zaa) (K : Kt) (Kb2 : Lt) : Prop :=
 zak 1 t0 fun t8 =>
 zad .lss false t5 t8 fun t9 =>
 zab t9 true H (fun K' => K' t5 H) fun t11 H =>
 zab t9 true H (fun K' => K' t1 H) fun t12 H =>
 zab t9 true H (fun K' => zad .leq false t11 t12 (K' · H)) fun t13 H =>
 zah t9 t13 (.bool false) fun t14 =>
 zag t14
 (zaj 3 t0 t5 fun t19 =>
 zae true 3 t19 H fun t20 =>
 ACalls tP ziY [t20] H fun t21 H =>
 aUn .not t21 fun t22 =>
 zag t22
 (K (.bool false) H)
 (zad .add false t5 (.int .i64 1) fun t16 =>
 Kb2 (zgc t0 t1 t16) H))
 (zak 1 t0 fun t24 =>
 zad .leq false t24 t1 fun t26 =>
 K t26 H)
def zqO (t0 t1 : AV) (H : zaa) (K : Kt) : Prop :=
 zx7 t0 t1 (.int .i64 0) H K
theorem zKh (t0 t1 t5 : AV) (H : zaa) (K : Kt) (Kb2 : Lt) : awp tP zhU zx6 (zat zx8 Kb2 (zx5 K)) (zgc t0 t1 t5) H = zjp t0 t1 t5 H K Kb2 := by kernel_rfl
theorem zKj {t0 t1 t5 : AV} {H : zaa} {K : Kt} (Inv : Nat → AV → zaa → Prop) (n : Nat) (h0 : HSc H → Inv n t5 H)
  (round : ∀ n t5 H', Inv n t5 H' → HSc H' → H.length ≤ H'.length → (zgc t0 t1 t5).all (AV.sc H'.length) = true → ∀ Kb2 : Lt, (∀ F'' H'', (∃ n', n' < n ∧ Back H.length (fun F2 H2 => ∃ t5, F2 = zgc t0 t1 t5 ∧ Inv n' t5 H2) F'' H'') → Kb2 F'' H'') → zjp t0 t1 t5 H' K Kb2) : zx7 t0 t1 t5 H K :=
 zav (M := zhU) zx8 (fun n F H => ∃ t5, F = zgc t0 t1 t5 ∧ Inv n t5 H) n (fun hs _ => ⟨t5, rfl, h0 hs⟩) (fun n F H' ⟨t5, hF, hI⟩ h1 h2 h3 => by subst hF; rw [zKh]; exact round n t5 H' hI h1 h2 h3 _ (fun _ _ h => h))
theorem zKi (t0 t1 : AV) (H : zaa) (K : Kt) : awp tP zhU zlZ (zal tP zx9 K) (t0 :: t1 :: List.replicate 25 .unk) H = zqO t0 t1 H K := by kernel_rfl
theorem zKk {t0 t1 : AV} {H : zaa} {K : Kt} (h : HSc H → zqO t0 t1 H K) : ACalls tP zoI [t0, t1] H K :=
 zaw (M := zhU) Try.func39 (c := zlZ) (by kernel_rfl) (fun hs => (zKi t0 t1 H K).mpr (h hs))
def zcR : Nat → List Bool
 | 4 => rl false [13,3,43]
 | 9 => rl false [13,3,14,3,26]
 | 15 => rl false [7,1,5,3,14,3,14,3,9]
 | _ => []
noncomputable def zlW : Code := Try.f38.body.getD .skip
noncomputable def zx4 : List ResultVar := Try.f38.results.toList
def zeQ (t13 t14 t15 : AV) : List AV := ux 13 (t13 :: t14 :: t15 :: ux 43 [])
def zqM : List Bool := zcR 4
noncomputable def zlX : Code := zap [1, 1, 0, 1, 0, 0] zlW
def zqK (K : Kt) : AExit → List AV → zaa → Prop := zaq tP zcR [1, 1, 0, 1, 0] zlW (zal tP zx4 K)
def zx1 (t13 t14 t15 : AV) (H : zaa) (K : Kt) : Prop := ALoop tP zlX (zqK K) (zeQ t13 t14 t15) H
def zgb (t13 t14 t15 t30 t31 t32 : AV) : List AV := ux 13 (t13 :: t14 :: t15 :: ux 14 (t30 :: t31 :: t32 :: ux 26 []))
def zqN : List Bool := zcR 9
noncomputable def zlY : Code := zap [1, 1, 0, 0, 1, 1, 1, 0, 0] zlX
def zqL (K : Kt) (Kb4 : Lt) : AExit → List AV → zaa → Prop := zaq tP zcR [1, 1, 0, 0, 1, 1, 1, 0] zlX (zat zqM Kb4 (zqK K))
def zx2 (t13 t14 t15 t30 t31 t32 : AV) (H : zaa) (K : Kt) (Kb4 : Lt) : Prop := ALoop tP zlY (zqL K Kb4) (zgb t13 t14 t15 t30 t31 t32) H
def zga (t7 t13 t14 t15 t30 t31 t32 t47 t48 t49 : AV) : List AV := ux 7 (t7 :: ux 5 (t13 :: t14 :: t15 :: ux 14 (t30 :: t31 :: t32 :: ux 14 (t47 :: t48 :: t49 :: ux 9 []))))
def zx3 : List Bool := zcR 15
noncomputable def zxZ : Code := zap [1, 1, 0, 0, 1, 1, 1, 1, 0, 0] zlY
def zxY (K : Kt) (Kb4 : Lt) (Kb9 : Lt) : AExit → List AV → zaa → Prop := zaq tP zcR [1, 1, 0, 0, 1, 1, 1, 1, 0] zlY (zat zqN Kb9 (zqL K Kb4))
def zx0 (t7 t13 t14 t15 t30 t31 t32 t47 t48 t49 : AV) (H : zaa) (K : Kt) (Kb4 : Lt) (Kb9 : Lt) : Prop := ALoop tP zxZ (zxY K Kb4 Kb9) (zga t7 t13 t14 t15 t30 t31 t32 t47 t48 t49) H
def zlT (t7 t13 t14 t15 t30 t31 t32 t47 t48 t49 : AV) (H : zaa) (K : Kt) (Kb4 : Lt) (Kb9 : Lt) (Kb15 : Lt) : Prop :=
 zad .lss false t49 t48 fun t50 =>
 zag t50
 (zaj 3 t47 t49 fun t51 =>
 zae true 3 t51 H fun t52 =>
 zaC [(.int .i64 0), (.int .i64 0), .snil] H fun t9 H =>
 zas 3 t9 t52 H fun H =>
 zae true 3 t9 H fun t53 =>
 ACalls tP ziZ [t53, t7] H fun t54 H =>
 aUn .not t54 fun t55 =>
 zag t55
 (K (.bool false) H)
 (zad .add false t49 (.int .i64 1) fun t56 =>
 Kb15 (zga t7 t13 t14 t15 t30 t31 t32 t47 t48 t56) H))
 (zad .add false t32 (.int .i64 1) fun t57 =>
 Kb9 (zgb t13 t14 t15 t30 t31 t57) H)
def zlV (t13 t14 t15 t30 t31 t32 : AV) (H : zaa) (K : Kt) (Kb4 : Lt) (Kb9 : Lt) : Prop :=
 zad .lss false t32 t31 fun t33 =>
 zag t33
 (zaj 2 t30 t32 fun t34 =>
 zae true 2 t34 H fun t35 =>
 zaC [(.str []), .snil] H fun t6 H =>
 zas 2 t6 t35 H fun H =>
 zaf 0 t6 fun t36 =>
 zae false 1 t36 H fun t37 =>
 zak 0 t37 fun t38 =>
 zad .gtr false t38 (.int .i64 40) fun t39 =>
 zab t39 false H (fun K' => zaf 1 t6 (K' · H)) fun t41 H =>
 zab t39 false H (fun K' => zae false 1 t41 H (K' · H)) fun t42 H =>
 zab t39 false H (fun K' => zak 1 t42 (K' · H)) fun t43 H =>
 zab t39 false H (fun K' => zad .gtr false t43 (.int .i64 8) (K' · H)) fun t44 H =>
 zah t39 (.bool true) t44 fun t45 =>
 zag t45
 (K (.bool false) H)
 (zaC [(.int .i64 0)] H fun t7 H =>
 zas 1 t7 (.int .i64 20) H fun H =>
 zaf 1 t6 fun t46 =>
 zae false 1 t46 H fun t47 =>
 zak 1 t47 fun t48 =>
 zx0 t7 t13 t14 t15 t30 t31 t32 t47 t48 (.int .i64 0) H K Kb4 Kb9))
 (zad .add false t15 (.int .i64 1) fun t58 =>
 Kb4 (zeQ t13 t14 t58) H)
def zlU (t13 t14 t15 : AV) (H : zaa) (K : Kt) (Kb4 : Lt) : Prop :=
 zad .lss false t15 t14 fun t16 =>
 zag t16
 (zaj 3 t13 t15 fun t17 =>
 zae true 3 t17 H fun t18 =>
 zaC [(.str []), (.int .i64 0), .snil] H fun t4 H =>
 zas 3 t4 t18 H fun H =>
 zaf 0 t4 fun t19 =>
 zae false 1 t19 H fun t20 =>
 zak 0 t20 fun t21 =>
 zad .gtr false t21 (.int .i64 40) fun t22 =>
 zab t22 false H (fun K' => zaf 2 t4 (K' · H)) fun t24 H =>
 zab t22 false H (fun K' => zae false 1 t24 H (K' · H)) fun t25 H =>
 zab t22 false H (fun K' => zak 1 t25 (K' · H)) fun t26 H =>
 zab t22 false H (fun K' => zad .gtr false t26 (.int .i64 10) (K' · H)) fun t27 H =>
 zah t22 (.bool true) t27 fun t28 =>
 zag t28
 (K (.bool false) H)
 (zaf 2 t4 fun t29 =>
 zae false 1 t29 H fun t30 =>
 zak 1 t30 fun t31 =>
 zx2 t13 t14 t15 t30 t31 (.int .i64 0) H K Kb4))
 (K (.bool true) H)
def zlS (t0 : AV) (H : zaa) (K : Kt) : Prop :=
 zak 1 t0 fun t11 =>
 zad .gtr false t11 (.int .i64 14) fun t12 =>
 zag t12
 (K (.bool false) H)
 (zak 1 t0 fun t14 =>
 zx1 t0 t14 (.int .i64 0) H K)
theorem zJ8 (t7 t13 t14 t15 t30 t31 t32 t47 t48 t49 : AV) (H : zaa) (K : Kt) (Kb4 : Lt) (Kb9 : Lt) (Kb15 : Lt) : awp tP zcR zxZ (zat zx3 Kb15 (zxY K Kb4 Kb9)) (zga t7 t13 t14 t15 t30 t31 t32 t47 t48 t49) H = zlT t7 t13 t14 t15 t30 t31 t32 t47 t48 t49 H K Kb4 Kb9 Kb15 := by kernel_rfl
theorem zKc {t7 t13 t14 t15 t30 t31 t32 t47 t48 t49 : AV} {H : zaa} {K : Kt} {Kb4 : Lt} {Kb9 : Lt} (Inv : Nat → AV → zaa → Prop) (n : Nat) (h0 : HSc H → Inv n t49 H)
  (round : ∀ n t49 H', Inv n t49 H' → HSc H' → H.length ≤ H'.length → (zga t7 t13 t14 t15 t30 t31 t32 t47 t48 t49).all (AV.sc H'.length) = true → ∀ Kb15 : Lt, (∀ F'' H'', (∃ n', n' < n ∧ Back H.length (fun F2 H2 => ∃ t49, F2 = zga t7 t13 t14 t15 t30 t31 t32 t47 t48 t49 ∧ Inv n' t49 H2) F'' H'') → Kb15 F'' H'') → zlT t7 t13 t14 t15 t30 t31 t32 t47 t48 t49 H' K Kb4 Kb9 Kb15) : zx0 t7 t13 t14 t15 t30 t31 t32 t47 t48 t49 H K Kb4 Kb9 :=
 zav (M := zcR) zx3 (fun n F H => ∃ t49, F = zga t7 t13 t14 t15 t30 t31 t32 t47 t48 t49 ∧ Inv n t49 H) n (fun hs _ => ⟨t49, rfl, h0 hs⟩) (fun n F H' ⟨t49, hF, hI⟩ h1 h2 h3 => by subst hF; rw [zJ8]; exact round n t49 H' hI h1 h2 h3 _ (fun _ _ h => h))
theorem zKa (t13 t14 t15 t30 t31 t32 : AV) (H : zaa) (K : Kt) (Kb4 : Lt) (Kb9 : Lt) : awp tP zcR zlY (zat zqN Kb9 (zqL K Kb4)) (zgb t13 t14 t15 t30 t31 t32) H = zlV t13 t14 t15 t30 t31 t32 H K Kb4 Kb9 := by kernel_rfl
theorem zKe {t13 t14 t15 t30 t31 t32 : AV} {H : zaa} {K : Kt} {Kb4 : Lt} (Inv : Nat → AV → zaa → Prop) (n : Nat) (h0 : HSc H → Inv n t32 H)
  (round : ∀ n t32 H', Inv n t32 H' → HSc H' → H.length ≤ H'.length → (zgb t13 t14 t15 t30 t31 t32).all (AV.sc H'.length) = true → ∀ Kb9 : Lt, (∀ F'' H'', (∃ n', n' < n ∧ Back H.length (fun F2 H2 => ∃ t32, F2 = zgb t13 t14 t15 t30 t31 t32 ∧ Inv n' t32 H2) F'' H'') → Kb9 F'' H'') → zlV t13 t14 t15 t30 t31 t32 H' K Kb4 Kb9) : zx2 t13 t14 t15 t30 t31 t32 H K Kb4 :=
 zav (M := zcR) zqN (fun n F H => ∃ t32, F = zgb t13 t14 t15 t30 t31 t32 ∧ Inv n t32 H) n (fun hs _ => ⟨t32, rfl, h0 hs⟩) (fun n F H' ⟨t32, hF, hI⟩ h1 h2 h3 => by subst hF; rw [zKa]; exact round n t32 H' hI h1 h2 h3 _ (fun _ _ h => h))
theorem zJ9 (t13 t14 t15 : AV) (H : zaa) (K : Kt) (Kb4 : Lt) : awp tP zcR zlX (zat zqM Kb4 (zqK K)) (zeQ t13 t14 t15) H = zlU t13 t14 t15 H K Kb4 := by kernel_rfl
theorem zKd {t13 t14 t15 : AV} {H : zaa} {K : Kt} (Inv : Nat → AV → zaa → Prop) (n : Nat) (h0 : HSc H → Inv n t15 H)
  (round : ∀ n t15 H', Inv n t15 H' → HSc H' → H.length ≤ H'.length → (zeQ t13 t14 t15).all (AV.sc H'.length) = true → ∀ Kb4 : Lt, (∀ F'' H'', (∃ n', n' < n ∧ Back H.length (fun F2 H2 => ∃ t15, F2 = zeQ t13 t14 t15 ∧ Inv n' t15 H2) F'' H'') → Kb4 F'' H'') → zlU t13 t14 t15 H' K Kb4) : zx1 t13 t14 t15 H K :=
 zav (M := zcR) zqM (fun n F H => ∃ t15, F = zeQ t13 t14 t15 ∧ Inv n t15 H) n (fun hs _ => ⟨t15, rfl, h0 hs⟩) (fun n F H' ⟨t15, hF, hI⟩ h1 h2 h3 => by subst hF; rw [zJ9]; exact round n t15 H' hI h1 h2 h3 _ (fun _ _ h => h))
theorem zKb (t0 : AV) (H : zaa) (K : Kt) : awp tP zcR zlW (zal tP zx4 K) (t0 :: List.replicate 58 .unk) H = zlS t0 H K := by kernel_rfl
theorem zKf {t0 : AV} {H : zaa} {K : Kt} (h : HSc H → zlS t0 H K) : ACalls tP zoH [t0] H K :=
 zaw (M := zcR) Try.func38 (c := zlW) (by kernel_rfl) (fun hs => (zKb t0 H K).mpr (h hs))
def zAI (_ : Nat) : List Bool := []
noncomputable def zAJ : Code := Try.f70.body.getD .skip
noncomputable def zMP : List ResultVar := Try.f70.results.toList
def zrI (t0 t1 t2 : AV) (H : zaa) (K : Kt) : Prop :=
 zaH t1 H fun t4 H =>
 zaL [.snil, (.int .i64 0), (.int .i64 0)] [(0, 1), (1, 1), (2, 1)] [(0, t0), (1, t2), (2, (.int .i64 200))] fun t10 =>
 zaH t10 H fun t11 H =>
 zae true 3 t4 H fun t13 =>
 ACalls tP zku [t11, t13] H fun t14 H =>
 K t14 H
theorem zMN (t0 t1 t2 : AV) (H : zaa) (K : Kt) : awp tP zAI zAJ (zal tP zMP K) (t0 :: t1 :: t2 :: List.replicate 12 .unk) H = zrI t0 t1 t2 H K := by kernel_rfl
theorem zMO {t0 t1 t2 : AV} {H : zaa} {K : Kt} (h : HSc H → zrI t0 t1 t2 H K) : ACalls tP zhn [t0, t1, t2] H K :=
 zaw (M := zAI) Try.func70 (c := zAJ) (by kernel_rfl) (fun hs => (zMN t0 t1 t2 H K).mpr (h hs))
def zcV : Nat → List Bool
 | 171022 => rl false [2,2,16,1,53,1,34]
 | 150010 => rl false [2,2,1,2,13,2,87]
 | 100007 => rl false [2,2,1,2,13,1,88]
 | 100002 => rl false [2,2,105]
 | _ => []
noncomputable def zd0 : Code := Try.f88.body.getD .skip
noncomputable def zjB : List ResultVar := Try.f88.results.toList
def zir (t2 t3 t5 t6 : AV) (H : zaa) (K : Kt) : Prop :=
 zaf 0 t3 fun t79 =>
 zae false 1 t79 H fun t80 =>
 zad .neq false t80 (.int .i64 4) fun t81 =>
 zab t81 true H (fun K' => zaf 0 t3 (K' · H)) fun t83 H =>
 zab t81 true H (fun K' => zae false 1 t83 H (K' · H)) fun t84 H =>
 zab t81 true H (fun K' => zad .neq false t84 (.int .i64 5) (K' · H)) fun t85 H =>
 zah t81 t85 (.bool false) fun t86 =>
 zab t86 true H (fun K' => zaf 1 t3 (K' · H)) fun t88 H =>
 zab t86 true H (fun K' => zae false 1 t88 H (K' · H)) fun t89 H =>
 zab t86 true H (fun K' => zad .neq false t89 (.int .i64 0) (K' · H)) fun t90 H =>
 zah t86 t90 (.bool false) fun t91 =>
 zag t91
 (K (.bool false) H)
 (zaf 2 t3 fun t92 =>
 zae false 1 t92 H fun t93 =>
 zak 1 t93 fun t94 =>
 zad .lss false t94 t5 fun t96 =>
 zab t96 false H (fun K' => zaf 2 t3 (K' · H)) fun t98 H =>
 zab t96 false H (fun K' => zae false 1 t98 H (K' · H)) fun t99 H =>
 zab t96 false H (fun K' => zak 1 t99 (K' · H)) fun t100 H =>
 zab t96 false H (fun K' => K' t6 H) fun t101 H =>
 zab t96 false H (fun K' => zad .gtr false t100 t101 (K' · H)) fun t102 H =>
 zah t96 (.bool true) t102 fun t103 =>
 zag t103
 (K (.bool false) H)
 (zaf 2 t3 fun t104 =>
 zae false 1 t104 H fun t105 =>
 zcx zj9 [t2] fun t106 =>
 ACalls tP zfm [t105, t106] H fun t107 H =>
 aUn .not t107 fun t108 =>
 K t108 H))
def zdl (t2 t3 t5 t6 : AV) (H : zaa) (K : Kt) : Prop :=
 zir t2 t3 t5 t6 H K
noncomputable def zB7 : Code := zap [1, 1, 1, 1, 0, 1, 0, 1, 1, 1, 1, 1, 1, 1, 1, 1] zd0
def zB6 (K : Kt) : AExit → List AV → zaa → Prop := zaq tP zcV [1, 1, 1, 1, 0, 1, 0, 1, 1, 1, 1, 1, 1, 1, 1, 1] zd0 (zal tP zjB K)
def zsa (t2 t3 t20 t74 : AV) (H : zaa) (K : Kt) : Prop := AWp tP zB7 (zB6 K) (ux 2 (t2 :: t3 :: ux 16 (t20 :: ux 53 (t74 :: ux 34 [])))) H
def zjA (t2 t3 t20 t74 : AV) (H : zaa) (K : Kt) : Prop :=
 zag t74
 (zdl t2 t3 (.int .i64 1) (.int .i64 1) H K)
 (zad .eql false t20 (.int .i64 9) fun t78 =>
 zag t78
 (zdl t2 t3 (.int .i64 1) (.int .i64 7) H K)
 (K (.bool false) H))
noncomputable def zB4 : Code := zap [1, 1, 1, 1, 0, 1, 0, 1] zd0
def zB3 (K : Kt) : AExit → List AV → zaa → Prop := zaq tP zcV [1, 1, 1, 1, 0, 1, 0, 1] zd0 (zal tP zjB K)
def znp (t2 t3 t5 t6 t20 t21 : AV) (H : zaa) (K : Kt) : Prop := AWp tP zB4 (zB3 K) (ux 2 (t2 :: t3 :: ux 1 (t5 :: t6 :: ux 13 (t20 :: t21 :: ux 87 [])))) H
def zdk (t2 t3 t5 t6 t20 t21 : AV) (H : zaa) (K : Kt) : Prop :=
 zag t21
 (zdl t2 t3 t5 t6 H K)
 (zad .eql false t20 (.int .i64 4) fun t26 =>
 zag t26
 (zac H (fun K' => zaf 1 t3 (K' · H)) fun t27 =>
 zac H (fun K' => zai false 1 t27 H (K' · H)) fun t28 =>
 zac H (fun K' => zad .lss false t28 (.int .i64 0) (K' · H)) fun t29 =>
 zac H (fun K' => K' t29 H) fun t30 =>
 zab t30 false H (fun K' => zac H (fun K'' => zaf 1 t3 (K'' · H)) (K' · H)) fun t31 H =>
 zab t30 false H (fun K' => zac H (fun K'' => zai false 1 t31 H (K'' · H)) (K' · H)) fun t32 H =>
 zab t30 false H (fun K' => zac H (fun K'' => zai false 1 t2 H (K'' · H)) (K' · H)) fun t33 H =>
 zab t30 false H (fun K' => zac H (fun K'' => za2 t33 (K'' · H)) (K' · H)) fun t34 H =>
 zab t30 false H (fun K' => zac H (fun K'' => zaf 1 t34 (K'' · H)) (K' · H)) fun t35 H =>
 zab t30 false H (fun K' => zac H (fun K'' => zai false 1 t35 H (K'' · H)) (K' · H)) fun t36 H =>
 zab t30 false H (fun K' => zac H (fun K'' => zad .geq false t32 t36 (K'' · H)) (K' · H)) fun t37 H =>
 zac H (fun K' => zah t30 (.bool true) t37 (K' · H)) fun t38 =>
 zag t38
 (K (.bool false) H)
 (zdl t2 t3 t5 t6 H K))
 (zad .eql false t20 (.int .i64 5) fun t40 =>
 zag t40
 (zac H (fun K' => zaf 1 t3 (K' · H)) fun t41 =>
 zac H (fun K' => zai false 1 t41 H (K' · H)) fun t42 =>
 zac H (fun K' => zad .lss false t42 (.int .i64 0) (K' · H)) fun t43 =>
 zac H (fun K' => K' t43 H) fun t44 =>
 zab t44 false H (fun K' => zac H (fun K'' => zaf 1 t3 (K'' · H)) (K' · H)) fun t45 H =>
 zab t44 false H (fun K' => zac H (fun K'' => zai false 1 t45 H (K'' · H)) (K' · H)) fun t46 H =>
 zab t44 false H (fun K' => zac H (fun K'' => zai false 1 t2 H (K'' · H)) (K' · H)) fun t47 H =>
 zab t44 false H (fun K' => zac H (fun K'' => za2 t47 (K'' · H)) (K' · H)) fun t48 H =>
 zab t44 false H (fun K' => zac H (fun K'' => zaf 0 t48 (K'' · H)) (K' · H)) fun t49 H =>
 zab t44 false H (fun K' => zac H (fun K'' => zai false 1 t49 H (K'' · H)) (K' · H)) fun t50 H =>
 zab t44 false H (fun K' => zac H (fun K'' => zak 1 t50 (K'' · H)) (K' · H)) fun t51 H =>
 zab t44 false H (fun K' => zac H (fun K'' => zad .geq false t46 t51 (K'' · H)) (K' · H)) fun t52 H =>
 zac H (fun K' => zah t44 (.bool true) t52 (K' · H)) fun t53 =>
 zag t53
 (K (.bool false) H)
 (zac H (fun K' => zai false 1 t2 H (K' · H)) fun t54 =>
 zac H (fun K' => za2 t54 (K' · H)) fun t55 =>
 zac H (fun K' => zaf 0 t55 (K' · H)) fun t56 =>
 zac H (fun K' => zai false 1 t56 H (K' · H)) fun t57 =>
 zac H (fun K' => zaf 1 t3 (K' · H)) fun t58 =>
 zac H (fun K' => zai false 1 t58 H (K' · H)) fun t59 =>
 zac H (fun K' => zaj 3 t57 t59 (K' · H)) fun t60 =>
 zac H (fun K' => zaf 1 t60 (K' · H)) fun t61 =>
 zac H (fun K' => zai false 1 t61 H (K' · H)) fun t62 =>
 zac H (fun K' => zai false 1 t2 H (K' · H)) fun t63 =>
 zac H (fun K' => za2 t63 (K' · H)) fun t64 =>
 zac H (fun K' => zaf 0 t64 (K' · H)) fun t65 =>
 zac H (fun K' => zai false 1 t65 H (K' · H)) fun t66 =>
 zac H (fun K' => zaf 1 t3 (K' · H)) fun t67 =>
 zac H (fun K' => zai false 1 t67 H (K' · H)) fun t68 =>
 zac H (fun K' => zaj 3 t66 t68 (K' · H)) fun t69 =>
 zac H (fun K' => zaf 1 t69 (K' · H)) fun t70 =>
 zac H (fun K' => zai false 1 t70 H (K' · H)) fun t71 =>
 zac H (fun K' => K' t62 H) fun t5 =>
 zac H (fun K' => K' t71 H) fun t6 =>
 zdl t2 t3 t5 t6 H K))
 (zad .eql false t20 (.int .i64 6) fun t73 =>
 zag t73
 (zdl t2 t3 (.int .i64 2) (.int .i64 6) H K)
 (zad .eql false t20 (.int .i64 7) fun t75 =>
 zag t75
 (zsa t2 t3 t20 t75 H K)
 (zad .eql false t20 (.int .i64 8) fun t76 =>
 zsa t2 t3 t20 t76 H K)))))
noncomputable def zB2 : Code := zap [1, 1, 1, 1, 0, 1] zd0
def zB1 (K : Kt) : AExit → List AV → zaa → Prop := zaq tP zcV [1, 1, 1, 1, 0, 1] zd0 (zal tP zjB K)
def zB0 (t2 t3 t5 t6 t20 : AV) (H : zaa) (K : Kt) : Prop := AWp tP zB2 (zB1 K) (ux 2 (t2 :: t3 :: ux 1 (t5 :: t6 :: ux 13 (t20 :: ux 88 [])))) H
def zno (t2 t3 t5 t6 t20 : AV) (H : zaa) (K : Kt) : Prop :=
 zad .eql false t20 (.int .i64 1) fun t22 =>
 zag t22
 (znp t2 t3 t5 t6 t20 t22 H K)
 (zad .eql false t20 (.int .i64 2) fun t23 =>
 zag t23
 (znp t2 t3 t5 t6 t20 t23 H K)
 (zad .eql false t20 (.int .i64 3) fun t24 =>
 znp t2 t3 t5 t6 t20 t24 H K))
noncomputable def zBZ : Code := zap [1, 1] zd0
def zBY (K : Kt) : AExit → List AV → zaa → Prop := zaq tP zcV [1, 1] zd0 (zal tP zjB K)
def zr9 (t2 t3 : AV) (H : zaa) (K : Kt) : Prop := AWp tP zBZ (zBY K) (ux 2 (t2 :: t3 :: ux 105 [])) H
def znn (t2 t3 : AV) (H : zaa) (K : Kt) : Prop :=
 zae false 1 t2 H fun t14 =>
 za2 t14 fun t15 =>
 zaf 2 t15 fun t16 =>
 zae false 1 t16 H fun t17 =>
 zad .lss false t17 (.int .i64 0) fun t18 =>
 zag t18
 (K (.bool false) H)
 (zaf 0 t3 fun t19 =>
 zae false 1 t19 H fun t20 =>
 zB0 t2 t3 (.int .i64 0) (.int .i64 0) t20 H K)
def zr8 (t0 t1 : AV) (H : zaa) (K : Kt) : Prop :=
 zaH t0 H fun t2 H =>
 zaH t1 H fun t3 H =>
 zae false 1 t2 H fun t7 =>
 za2 t7 fun t8 =>
 zaf 2 t8 fun t9 =>
 zae false 1 t9 H fun t10 =>
 zad .sub false t10 (.int .i64 1) fun t11 =>
 za2 t7 fun t12 =>
 zaf 2 t12 fun t13 =>
 zas 1 t13 t11 H fun H =>
 zr9 t2 t3 H K
theorem zOc (t2 t3 t20 t74 : AV) (H : zaa) (K : Kt) : awp tP zcV zB7 (zB6 K) (ux 2 (t2 :: t3 :: ux 16 (t20 :: ux 53 (t74 :: ux 34 [])))) H = zjA t2 t3 t20 t74 H K := by kernel_rfl
theorem zB8 {t2 t3 t20 t74 : AV} {H : zaa} {K : Kt} (h : HSc H → zjA t2 t3 t20 t74 H K) : zsa t2 t3 t20 t74 H K :=
 fun B w G a hH hF hd => zbB (M := zcV) _ _ _ _ ((zOc t2 t3 t20 t74 H K).mpr (h hH.sc)) B w G a hH hF hd
theorem zOb (t2 t3 t5 t6 t20 t21 : AV) (H : zaa) (K : Kt) : awp tP zcV zB4 (zB3 K) (ux 2 (t2 :: t3 :: ux 1 (t5 :: t6 :: ux 13 (t20 :: t21 :: ux 87 [])))) H = zdk t2 t3 t5 t6 t20 t21 H K := by kernel_rfl
theorem zB5 {t2 t3 t5 t6 t20 t21 : AV} {H : zaa} {K : Kt} (h : HSc H → zdk t2 t3 t5 t6 t20 t21 H K) : znp t2 t3 t5 t6 t20 t21 H K :=
 fun B w G a hH hF hd => zbB (M := zcV) _ _ _ _ ((zOb t2 t3 t5 t6 t20 t21 H K).mpr (h hH.sc)) B w G a hH hF hd
theorem zN9 (t2 t3 t5 t6 t20 : AV) (H : zaa) (K : Kt) : awp tP zcV zB2 (zB1 K) (ux 2 (t2 :: t3 :: ux 1 (t5 :: t6 :: ux 13 (t20 :: ux 88 [])))) H = zno t2 t3 t5 t6 t20 H K := by kernel_rfl
theorem zOa {t2 t3 t5 t6 t20 : AV} {H : zaa} {K : Kt} (h : HSc H → zno t2 t3 t5 t6 t20 H K) : zB0 t2 t3 t5 t6 t20 H K :=
 fun B w G a hH hF hd => zbB (M := zcV) _ _ _ _ ((zN9 t2 t3 t5 t6 t20 H K).mpr (h hH.sc)) B w G a hH hF hd
theorem zN7 (t2 t3 : AV) (H : zaa) (K : Kt) : awp tP zcV zBZ (zBY K) (ux 2 (t2 :: t3 :: ux 105 [])) H = znn t2 t3 H K := by kernel_rfl
theorem zN8 {t2 t3 : AV} {H : zaa} {K : Kt} (h : HSc H → znn t2 t3 H K) : zr9 t2 t3 H K :=
 fun B w G a hH hF hd => zbB (M := zcV) _ _ _ _ ((zN7 t2 t3 H K).mpr (h hH.sc)) B w G a hH hF hd
theorem zN6 (t0 t1 : AV) (H : zaa) (K : Kt) : awp tP zcV zd0 (zal tP zjB K) (t0 :: t1 :: List.replicate 107 .unk) H = zr8 t0 t1 H K := by kernel_rfl
theorem zOd {t0 t1 : AV} {H : zaa} {K : Kt} (h : HSc H → zr8 t0 t1 H K) : ACalls tP zku [t0, t1] H K :=
 zaw (M := zcV) Try.func88 (c := zd0) (by kernel_rfl) (fun hs => (zN6 t0 t1 H K).mpr (h hs))
def zve (_ : Nat) : List Bool := []
noncomputable def zvf : Code := Try.f104.body.getD .skip
noncomputable def zHr : List ResultVar := Try.f104.results.toList
def zpQ (t0 t1 : AV) (H : zaa) (K : Kt) : Prop :=
 zaH t0 H fun t2 H =>
 zae false 1 t1 H fun t4 =>
 zae true 3 t2 H fun t5 =>
 ACalls tP zku [t4, t5] H fun t6 H =>
 aUn .not t6 fun t7 =>
 K t7 H
theorem zHp (t0 t1 : AV) (H : zaa) (K : Kt) : awp tP zve zvf (zal tP zHr K) (t0 :: t1 :: List.replicate 6 .unk) H = zpQ t0 t1 H K := by kernel_rfl
theorem zHq {t0 t1 : AV} {H : zaa} {K : Kt} (h : HSc H → zpQ t0 t1 H K) : ACalls tP zj9 [t0, t1] H K :=
 zaw (M := zve) Try.func104 (c := zvf) (by kernel_rfl) (fun hs => (zHp t0 t1 H K).mpr (h hs))
def zAK (_ : Nat) : List Bool := []
noncomputable def zAL : Code := Try.f71.body.getD .skip
noncomputable def zMS : List ResultVar := Try.f71.results.toList
def zrJ (t0 t1 : AV) (H : zaa) (K : Kt) : Prop :=
 zaH t0 H fun t2 H =>
 zaH t1 H fun t3 H =>
 zaf 0 t2 fun t5 =>
 zae false 1 t5 H fun t6 =>
 zaf 0 t3 fun t7 =>
 zae false 1 t7 H fun t8 =>
 zad .eql false t6 t8 fun t9 =>
 zab t9 true H (fun K' => zaf 1 t2 (K' · H)) fun t11 H =>
 zab t9 true H (fun K' => zae false 1 t11 H (K' · H)) fun t12 H =>
 zab t9 true H (fun K' => zaf 1 t3 (K' · H)) fun t13 H =>
 zab t9 true H (fun K' => zae false 1 t13 H (K' · H)) fun t14 H =>
 zab t9 true H (fun K' => zad .eql false t12 t14 (K' · H)) fun t15 H =>
 zah t9 t15 (.bool false) fun t16 =>
 zab t16 true H (fun K' => zaf 2 t2 (K' · H)) fun t18 H =>
 zab t16 true H (fun K' => zae false 1 t18 H (K' · H)) fun t19 H =>
 zab t16 true H (fun K' => zaf 2 t3 (K' · H)) fun t20 H =>
 zab t16 true H (fun K' => zae false 1 t20 H (K' · H)) fun t21 H =>
 zab t16 true H (fun K' => ACalls tP zkv [t19, t21, (.fn zbG [])] H K') fun t22 H =>
 zah t16 t22 (.bool false) fun t23 =>
 K t23 H
theorem zMQ (t0 t1 : AV) (H : zaa) (K : Kt) : awp tP zAK zAL (zal tP zMS K) (t0 :: t1 :: List.replicate 22 .unk) H = zrJ t0 t1 H K := by kernel_rfl
theorem zMR {t0 t1 : AV} {H : zaa} {K : Kt} (h : HSc H → zrJ t0 t1 H K) : ACalls tP zbG [t0, t1] H K :=
 zaw (M := zAK) Try.func71 (c := zAL) (by kernel_rfl) (fun hs => (zMQ t0 t1 H K).mpr (h hs))
def zis : Nat → List Bool
 | 4 => rl false [1,2,12,3,14]
 | _ => []
noncomputable def zns : Code := Try.f89.body.getD .skip
noncomputable def zCd : List ResultVar := Try.f89.results.toList
def zgZ (t1 t2 t15 t16 t17 : AV) : List AV := ux 1 (t1 :: t2 :: ux 12 (t15 :: t16 :: t17 :: ux 14 []))
def zCc : List Bool := zis 4
noncomputable def zCa : Code := zap [1, 1, 0, 1, 0, 0] zns
def zB9 (K : Kt) : AExit → List AV → zaa → Prop := zaq tP zis [1, 1, 0, 1, 0] zns (zal tP zCd K)
def zCb (t1 t2 t15 t16 t17 : AV) (H : zaa) (K : Kt) : Prop := ALoop tP zCa (zB9 K) (zgZ t1 t2 t15 t16 t17) H
def znr (t1 t2 t15 t16 t17 : AV) (H : zaa) (K : Kt) (Kb4 : Lt) : Prop :=
 zad .lss false t17 t16 fun t18 =>
 zag t18
 (zaj 3 t15 t17 fun t20 =>
 zae true 3 t20 H fun t21 =>
 zaC [(.int .i64 0), (.int .i64 0), .snil] H fun t8 H =>
 zas 3 t8 t21 H fun H =>
 zaj 3 t1 t17 fun t24 =>
 zae true 3 t24 H fun t25 =>
 zaC [(.int .i64 0), (.int .i64 0), .snil] H fun t9 H =>
 zas 3 t9 t25 H fun H =>
 zae true 3 t8 H fun t27 =>
 zae true 3 t9 H fun t28 =>
 aCallV tP t2 [t27, t28] H fun t29 H =>
 aUn .not t29 fun t30 =>
 zag t30
 (K (.bool false) H)
 (zad .add false t17 (.int .i64 1) fun t31 =>
 Kb4 (zgZ t1 t2 t15 t16 t31) H))
 (K (.bool true) H)
def znq (t0 t1 t2 : AV) (H : zaa) (K : Kt) : Prop :=
 zak 1 t0 fun t11 =>
 zak 1 t1 fun t13 =>
 zad .neq false t11 t13 fun t14 =>
 zag t14
 (K (.bool false) H)
 (zak 1 t0 fun t16 =>
 zCb t1 t2 t0 t16 (.int .i64 0) H K)
theorem zOe (t1 t2 t15 t16 t17 : AV) (H : zaa) (K : Kt) (Kb4 : Lt) : awp tP zis zCa (zat zCc Kb4 (zB9 K)) (zgZ t1 t2 t15 t16 t17) H = znr t1 t2 t15 t16 t17 H K Kb4 := by kernel_rfl
theorem zOh {t1 t2 t15 t16 t17 : AV} {H : zaa} {K : Kt} (Inv : Nat → AV → zaa → Prop) (n : Nat) (h0 : HSc H → Inv n t17 H)
  (round : ∀ n t17 H', Inv n t17 H' → HSc H' → H.length ≤ H'.length → (zgZ t1 t2 t15 t16 t17).all (AV.sc H'.length) = true → ∀ Kb4 : Lt, (∀ F'' H'', (∃ n', n' < n ∧ Back H.length (fun F2 H2 => ∃ t17, F2 = zgZ t1 t2 t15 t16 t17 ∧ Inv n' t17 H2) F'' H'') → Kb4 F'' H'') → znr t1 t2 t15 t16 t17 H' K Kb4) : zCb t1 t2 t15 t16 t17 H K :=
 zav (M := zis) zCc (fun n F H => ∃ t17, F = zgZ t1 t2 t15 t16 t17 ∧ Inv n t17 H) n (fun hs _ => ⟨t17, rfl, h0 hs⟩) (fun n F H' ⟨t17, hF, hI⟩ h1 h2 h3 => by subst hF; rw [zOe]; exact round n t17 H' hI h1 h2 h3 _ (fun _ _ h => h))
theorem zOg (t0 t1 t2 : AV) (H : zaa) (K : Kt) : awp tP zis zns (zal tP zCd K) (t0 :: t1 :: t2 :: List.replicate 29 .unk) H = znq t0 t1 t2 H K := by kernel_rfl
theorem zOi {t0 t1 t2 : AV} {H : zaa} {K : Kt} (h : HSc H → znq t0 t1 t2 H K) : ACalls tP zkv [t0, t1, t2] H K :=
 zaw (M := zis) Try.func89 (c := zns) (by kernel_rfl) (fun hs => (zOg t0 t1 t2 H K).mpr (h hs))
def zAE (_ : Nat) : List Bool := []
noncomputable def zAF : Code := Try.f68.body.getD .skip
noncomputable def zMJ : List ResultVar := Try.f68.results.toList
def zrG (t0 t1 : AV) (H : zaa) (K : Kt) : Prop :=
 ACalls tP zoY [t0, t1] H fun t7 H =>
 zad .geq false t7 (.int .i64 0) fun t8 =>
 K t8 H
theorem zMH (t0 t1 : AV) (H : zaa) (K : Kt) : awp tP zAE zAF (zal tP zMJ K) (t0 :: t1 :: List.replicate 7 .unk) H = zrG t0 t1 H K := by kernel_rfl
theorem zMI {t0 t1 : AV} {H : zaa} {K : Kt} (h : HSc H → zrG t0 t1 H K) : ACalls tP zfm [t0, t1] H K :=
 zaw (M := zAE) Try.func68 (c := zAF) (by kernel_rfl) (fun hs => (zMH t0 t1 H K).mpr (h hs))
def ziq : Nat → List Bool
 | 2 => rl false [0,2,5,2,10]
 | _ => []
noncomputable def znm : Code := Try.f87.body.getD .skip
noncomputable def zBX : List ResultVar := Try.f87.results.toList
def zgY (t0 t1 t7 t8 : AV) : List AV := t0 :: t1 :: ux 5 (t7 :: t8 :: ux 10 [])
def zBW : List Bool := ziq 2
noncomputable def zBU : Code := zap [1, 0, 1, 0, 0] znm
def zBT (K : Kt) : AExit → List AV → zaa → Prop := zaq tP ziq [1, 0, 1, 0] znm (zal tP zBX K)
def zBV (t0 t1 t7 t8 : AV) (H : zaa) (K : Kt) : Prop := ALoop tP zBU (zBT K) (zgY t0 t1 t7 t8) H
def znl (t0 t1 t7 t8 : AV) (H : zaa) (K : Kt) (Kb2 : Lt) : Prop :=
 zad .lss false t8 t7 fun t9 =>
 zag t9
 (zaj 3 t0 t8 fun t14 =>
 zae true 3 t14 H fun t15 =>
 aCallV tP t1 [t15] H fun t16 H =>
 zag t16
 (K t8 H)
 (zad .add false t8 (.int .i64 1) fun t18 =>
 Kb2 (zgY t0 t1 t7 t18) H))
 (K (.int .i64 (-1)) H)
def zr7 (t0 t1 : AV) (H : zaa) (K : Kt) : Prop :=
 zak 1 t0 fun t7 =>
 zBV t0 t1 t7 (.int .i64 0) H K
theorem zN2 (t0 t1 t7 t8 : AV) (H : zaa) (K : Kt) (Kb2 : Lt) : awp tP ziq zBU (zat zBW Kb2 (zBT K)) (zgY t0 t1 t7 t8) H = znl t0 t1 t7 t8 H K Kb2 := by kernel_rfl
theorem zN4 {t0 t1 t7 t8 : AV} {H : zaa} {K : Kt} (Inv : Nat → AV → zaa → Prop) (n : Nat) (h0 : HSc H → Inv n t8 H)
  (round : ∀ n t8 H', Inv n t8 H' → HSc H' → H.length ≤ H'.length → (zgY t0 t1 t7 t8).all (AV.sc H'.length) = true → ∀ Kb2 : Lt, (∀ F'' H'', (∃ n', n' < n ∧ Back H.length (fun F2 H2 => ∃ t8, F2 = zgY t0 t1 t7 t8 ∧ Inv n' t8 H2) F'' H'') → Kb2 F'' H'') → znl t0 t1 t7 t8 H' K Kb2) : zBV t0 t1 t7 t8 H K :=
 zav (M := ziq) zBW (fun n F H => ∃ t8, F = zgY t0 t1 t7 t8 ∧ Inv n t8 H) n (fun hs _ => ⟨t8, rfl, h0 hs⟩) (fun n F H' ⟨t8, hF, hI⟩ h1 h2 h3 => by subst hF; rw [zN2]; exact round n t8 H' hI h1 h2 h3 _ (fun _ _ h => h))
theorem zN3 (t0 t1 : AV) (H : zaa) (K : Kt) : awp tP ziq znm (zal tP zBX K) (t0 :: t1 :: List.replicate 17 .unk) H = zr7 t0 t1 H K := by kernel_rfl
theorem zN5 {t0 t1 : AV} {H : zaa} {K : Kt} (h : HSc H → zr7 t0 t1 H K) : ACalls tP zoY [t0, t1] H K :=
 zaw (M := ziq) Try.func87 (c := znm) (by kernel_rfl) (fun hs => (zN3 t0 t1 H K).mpr (h hs))
def zcN : Nat → List Bool
 | 8 => rl false [2,1,1,1,3,2,49,3,46]
 | 13 => rl false [2,1,1,1,3,2,67,3,28]
 | 20 => rl false [4,1,9,1,78,3,12]
 | _ => []
noncomputable def zeN : Code := Try.f105.body.getD .skip
noncomputable def zk6 : List ResultVar := Try.f105.results.toList
def zfA (t2 t4 t8 t9 t59 t60 t61 : AV) : List AV := ux 2 (t2 :: ux 1 (t4 :: ux 3 (t8 :: t9 :: ux 49 (t59 :: t60 :: t61 :: ux 46 []))))
def zvq : List Bool := zcN 8
noncomputable def zvl : Code := zap [1, 1, 1, 1, 1, 0, 1, 0, 0] zeN
def zvi (K : Kt) : AExit → List AV → zaa → Prop := zaq tP zcN [1, 1, 1, 1, 1, 0, 1, 0] zeN (zal tP zk6 K)
def zvn (t2 t4 t8 t9 t59 t60 t61 : AV) (H : zaa) (K : Kt) : Prop := ALoop tP zvl (zvi K) (zfA t2 t4 t8 t9 t59 t60 t61) H
def zfy (t2 t4 t8 t9 t77 t78 t79 : AV) : List AV := ux 2 (t2 :: ux 1 (t4 :: ux 3 (t8 :: t9 :: ux 67 (t77 :: t78 :: t79 :: ux 28 []))))
def zvo : List Bool := zcN 13
noncomputable def zvj : Code := zap [1, 1, 1, 1, 1, 1, 0, 1, 0, 0] zeN
def zvg (K : Kt) : AExit → List AV → zaa → Prop := zaq tP zcN [1, 1, 1, 1, 1, 1, 0, 1, 0] zeN (zal tP zk6 K)
def zvm (t2 t4 t8 t9 t77 t78 t79 : AV) (H : zaa) (K : Kt) : Prop := ALoop tP zvj (zvg K) (zfy t2 t4 t8 t9 t77 t78 t79) H
def zfz (t4 t14 t93 t94 t95 : AV) : List AV := ux 4 (t4 :: ux 9 (t14 :: ux 78 (t93 :: t94 :: t95 :: ux 12 [])))
def zvp : List Bool := zcN 20
noncomputable def zvk : Code := zap [1, 1, 1, 1, 1, 1, 1, 1, 0, 1, 0, 0] zeN
def zvh (K : Kt) : AExit → List AV → zaa → Prop := zaq tP zcN [1, 1, 1, 1, 1, 1, 1, 1, 0, 1, 0] zeN (zal tP zk6 K)
def zk5 (t4 t14 t93 t94 t95 : AV) (H : zaa) (K : Kt) : Prop := ALoop tP zvk (zvh K) (zfz t4 t14 t93 t94 t95) H
def zk3 (t4 t14 t93 t94 t95 : AV) (H : zaa) (K : Kt) (Kb20 : Lt) : Prop :=
 zad .lss false t95 t94 fun t96 =>
 zag t96
 (zaj 3 t93 t95 fun t97 =>
 zae true 3 t97 H fun t98 =>
 zaC [(.int .i64 0), (.int .i64 0), .snil] H fun t16 H =>
 zas 3 t16 t98 H fun H =>
 zae true 3 t16 H fun t100 =>
 zaf 2 t4 fun t101 =>
 zae false 1 t101 H fun t102 =>
 ACalls tP ziW [t100, t102] H fun t103 H =>
 zaA 3 [(.int .i64 0), (.int .i64 0), .snil] 1 [(0, t103)] fun t104 =>
 zaJ zaD 3 40 t14 t104 H fun t105 H =>
 zad .add false t95 (.int .i64 1) fun t106 =>
 Kb20 (zfz t4 t105 t93 t94 t106) H)
 (zaY [t14, (.bool true)] (K · H))
def zk2 (t2 t4 t8 t9 t77 t78 t79 : AV) (H : zaa) (K : Kt) (Kb13 : Lt) : Prop :=
 zad .lss false t79 t78 fun t80 =>
 zag t80
 (zaj 3 t77 t79 fun t81 =>
 zae true 3 t81 H fun t82 =>
 zaC [(.int .i64 0), (.int .i64 0), .snil] H fun t13 H =>
 zas 3 t13 t82 H fun H =>
 zae true 3 t13 H fun t83 =>
 ACalls tP zki [t83, t9] H fun t85 H =>
 zad .gtr false t85 (.int .i64 200) fun t86 =>
 zag t86
 (zaY [.snil, (.bool false)] (K · H))
 (zad .add false t79 (.int .i64 1) fun t87 =>
 Kb13 (zfy t2 t4 t8 t9 t77 t78 t87) H))
 (zaf 2 t8 fun t88 =>
 zae false 1 t88 H fun t89 =>
 zaj 2 t89 t2 fun t91 =>
 zaf 1 t91 fun t92 =>
 zae false 1 t92 H fun t93 =>
 zak 1 t93 fun t94 =>
 zk5 t4 .snil t93 t94 (.int .i64 0) H K)
def zk4 (t2 t4 t8 t9 t59 t60 t61 : AV) (H : zaa) (K : Kt) (Kb8 : Lt) : Prop :=
 zad .lss false t61 t60 fun t62 =>
 zag t62
 (zaj 3 t59 t61 fun t64 =>
 zae true 3 t64 H fun t65 =>
 zaC [(.int .i64 0), (.int .i64 0), .snil] H fun t11 H =>
 zas 3 t11 t65 H fun H =>
 zae true 3 t11 H fun t68 =>
 ACalls tP zkh [t68] H fun t69 H =>
 zaj 1 t9 t61 fun t70 =>
 zas 1 t70 t69 H fun H =>
 zad .add false t61 (.int .i64 1) fun t71 =>
 Kb8 (zfA t2 t4 t8 t9 t59 t60 t71) H)
 (zaf 2 t8 fun t72 =>
 zae false 1 t72 H fun t73 =>
 zaj 2 t73 t2 fun t75 =>
 zaf 1 t75 fun t76 =>
 zae false 1 t76 H fun t77 =>
 zak 1 t77 fun t78 =>
 zvm t2 t4 t8 t9 t77 t78 (.int .i64 0) H K)
def zpR (t0 t1 t2 : AV) (H : zaa) (K : Kt) : Prop :=
 zaH t1 H fun t4 H =>
 zaf 0 t4 fun t17 =>
 zae false 1 t17 H fun t18 =>
 zad .neq false t18 (.int .i64 5) fun t19 =>
 zab t19 false H (fun K' => zaf 1 t4 (K' · H)) fun t21 H =>
 zab t19 false H (fun K' => zae false 1 t21 H (K' · H)) fun t22 H =>
 zab t19 false H (fun K' => zad .lss false t22 (.int .i64 0) (K' · H)) fun t23 H =>
 zah t19 (.bool true) t23 fun t24 =>
 zab t24 false H (fun K' => zaf 1 t4 (K' · H)) fun t26 H =>
 zab t24 false H (fun K' => zae false 1 t26 H (K' · H)) fun t27 H =>
 zab t24 false H (fun K' => K' t0 H) fun t28 H =>
 zab t24 false H (fun K' => zak 1 t28 (K' · H)) fun t29 H =>
 zab t24 false H (fun K' => zad .geq false t27 t29 (K' · H)) fun t30 H =>
 zah t24 (.bool true) t30 fun t31 =>
 zag t31
 (zaY [.snil, (.bool false)] (K · H))
 (zaf 1 t4 fun t33 =>
 zae false 1 t33 H fun t34 =>
 zaj 3 t0 t34 fun t35 =>
 zae true 3 t35 H fun t36 =>
 zaC [(.str []), (.int .i64 0), .snil] H fun t8 H =>
 zas 3 t8 t36 H fun H =>
 zaf 2 t4 fun t37 =>
 zae false 1 t37 H fun t38 =>
 zak 1 t38 fun t39 =>
 zaf 1 t8 fun t40 =>
 zae false 1 t40 H fun t41 =>
 zad .neq false t39 t41 fun t42 =>
 zab t42 false H (fun K' => K' t2 H) fun t44 H =>
 zab t42 false H (fun K' => zad .lss false t44 (.int .i64 0) (K' · H)) fun t45 H =>
 zah t42 (.bool true) t45 fun t46 =>
 zab t46 false H (fun K' => K' t2 H) fun t48 H =>
 zab t46 false H (fun K' => zaf 2 t8 (K' · H)) fun t49 H =>
 zab t46 false H (fun K' => zae false 1 t49 H (K' · H)) fun t50 H =>
 zab t46 false H (fun K' => zak 1 t50 (K' · H)) fun t51 H =>
 zab t46 false H (fun K' => zad .geq false t48 t51 (K' · H)) fun t52 H =>
 zah t46 (.bool true) t52 fun t53 =>
 zag t53
 (zaY [.snil, (.bool false)] (K · H))
 (zaf 2 t4 fun t54 =>
 zae false 1 t54 H fun t55 =>
 zak 1 t55 fun t56 =>
 zbd 8 [(.int .i64 0)] t56 t56 H fun t57 H =>
 zaf 2 t4 fun t58 =>
 zae false 1 t58 H fun t59 =>
 zak 1 t59 fun t60 =>
 zvn t2 t4 t8 t57 t59 t60 (.int .i64 0) H K))
theorem zHt (t4 t14 t93 t94 t95 : AV) (H : zaa) (K : Kt) (Kb20 : Lt) : awp tP zcN zvk (zat zvp Kb20 (zvh K)) (zfz t4 t14 t93 t94 t95) H = zk3 t4 t14 t93 t94 t95 H K Kb20 := by kernel_rfl
theorem zHx {t4 t14 t93 t94 t95 : AV} {H : zaa} {K : Kt} (Inv : Nat → AV → AV → zaa → Prop) (n : Nat) (h0 : HSc H → Inv n t14 t95 H)
  (round : ∀ n t14 t95 H', Inv n t14 t95 H' → HSc H' → H.length ≤ H'.length → (zfz t4 t14 t93 t94 t95).all (AV.sc H'.length) = true → ∀ Kb20 : Lt, (∀ F'' H'', (∃ n', n' < n ∧ Back H.length (fun F2 H2 => ∃ t14 t95, F2 = zfz t4 t14 t93 t94 t95 ∧ Inv n' t14 t95 H2) F'' H'') → Kb20 F'' H'') → zk3 t4 t14 t93 t94 t95 H' K Kb20) : zk5 t4 t14 t93 t94 t95 H K :=
 zav (M := zcN) zvp (fun n F H => ∃ t14 t95, F = zfz t4 t14 t93 t94 t95 ∧ Inv n t14 t95 H) n (fun hs _ => ⟨t14, t95, rfl, h0 hs⟩) (fun n F H' ⟨t14, t95, hF, hI⟩ h1 h2 h3 => by subst hF; rw [zHt]; exact round n t14 t95 H' hI h1 h2 h3 _ (fun _ _ h => h))
theorem zHs (t2 t4 t8 t9 t77 t78 t79 : AV) (H : zaa) (K : Kt) (Kb13 : Lt) : awp tP zcN zvj (zat zvo Kb13 (zvg K)) (zfy t2 t4 t8 t9 t77 t78 t79) H = zk2 t2 t4 t8 t9 t77 t78 t79 H K Kb13 := by kernel_rfl
theorem zHw {t2 t4 t8 t9 t77 t78 t79 : AV} {H : zaa} {K : Kt} (Inv : Nat → AV → zaa → Prop) (n : Nat) (h0 : HSc H → Inv n t79 H)
  (round : ∀ n t79 H', Inv n t79 H' → HSc H' → H.length ≤ H'.length → (zfy t2 t4 t8 t9 t77 t78 t79).all (AV.sc H'.length) = true → ∀ Kb13 : Lt, (∀ F'' H'', (∃ n', n' < n ∧ Back H.length (fun F2 H2 => ∃ t79, F2 = zfy t2 t4 t8 t9 t77 t78 t79 ∧ Inv n' t79 H2) F'' H'') → Kb13 F'' H'') → zk2 t2 t4 t8 t9 t77 t78 t79 H' K Kb13) : zvm t2 t4 t8 t9 t77 t78 t79 H K :=
 zav (M := zcN) zvo (fun n F H => ∃ t79, F = zfy t2 t4 t8 t9 t77 t78 t79 ∧ Inv n t79 H) n (fun hs _ => ⟨t79, rfl, h0 hs⟩) (fun n F H' ⟨t79, hF, hI⟩ h1 h2 h3 => by subst hF; rw [zHs]; exact round n t79 H' hI h1 h2 h3 _ (fun _ _ h => h))
theorem zHu (t2 t4 t8 t9 t59 t60 t61 : AV) (H : zaa) (K : Kt) (Kb8 : Lt) : awp tP zcN zvl (zat zvq Kb8 (zvi K)) (zfA t2 t4 t8 t9 t59 t60 t61) H = zk4 t2 t4 t8 t9 t59 t60 t61 H K Kb8 := by kernel_rfl
theorem zHy {t2 t4 t8 t9 t59 t60 t61 : AV} {H : zaa} {K : Kt} (Inv : Nat → AV → zaa → Prop) (n : Nat) (h0 : HSc H → Inv n t61 H)
  (round : ∀ n t61 H', Inv n t61 H' → HSc H' → H.length ≤ H'.length → (zfA t2 t4 t8 t9 t59 t60 t61).all (AV.sc H'.length) = true → ∀ Kb8 : Lt, (∀ F'' H'', (∃ n', n' < n ∧ Back H.length (fun F2 H2 => ∃ t61, F2 = zfA t2 t4 t8 t9 t59 t60 t61 ∧ Inv n' t61 H2) F'' H'') → Kb8 F'' H'') → zk4 t2 t4 t8 t9 t59 t60 t61 H' K Kb8) : zvn t2 t4 t8 t9 t59 t60 t61 H K :=
 zav (M := zcN) zvq (fun n F H => ∃ t61, F = zfA t2 t4 t8 t9 t59 t60 t61 ∧ Inv n t61 H) n (fun hs _ => ⟨t61, rfl, h0 hs⟩) (fun n F H' ⟨t61, hF, hI⟩ h1 h2 h3 => by subst hF; rw [zHu]; exact round n t61 H' hI h1 h2 h3 _ (fun _ _ h => h))
theorem zHv (t0 t1 t2 : AV) (H : zaa) (K : Kt) : awp tP zcN zeN (zal tP zk6 K) (t0 :: t1 :: t2 :: List.replicate 105 .unk) H = zpR t0 t1 t2 H K := by kernel_rfl
theorem zHz {t0 t1 t2 : AV} {H : zaa} {K : Kt} (h : HSc H → zpR t0 t1 t2 H K) : ACalls tP ziQ [t0, t1, t2] H K :=
 zaw (M := zcN) Try.func105 (c := zeN) (by kernel_rfl) (fun hs => (zHv t0 t1 t2 H K).mpr (h hs))
def zhN : Nat → List Bool
 | 3 => rl false [3,1,3,3,9]
 | _ => []
noncomputable def zlp : Code := Try.f124.body.getD .skip
noncomputable def zwz : List ResultVar := Try.f124.results.toList
def zfO (t3 t7 t8 t9 : AV) : List AV := ux 3 (t3 :: ux 3 (t7 :: t8 :: t9 :: ux 9 []))
def zwy : List Bool := zhN 3
noncomputable def zww : Code := zap [1, 1, 0, 1, 0, 0] zlp
def zwv (K : Kt) : AExit → List AV → zaa → Prop := zaq tP zhN [1, 1, 0, 1, 0] zlp (zal tP zwz K)
def zwx (t3 t7 t8 t9 : AV) (H : zaa) (K : Kt) : Prop := ALoop tP zww (zwv K) (zfO t3 t7 t8 t9) H
def zlo (t3 t7 t8 t9 : AV) (H : zaa) (K : Kt) (Kb3 : Lt) : Prop :=
 zad .lss false t9 t8 fun t10 =>
 zag t10
 (zaj 3 t7 t9 fun t11 =>
 zae true 3 t11 H fun t12 =>
 zaC [(.int .i64 0), (.int .i64 0), .snil] H fun t5 H =>
 zas 3 t5 t12 H fun H =>
 zae true 3 t5 H fun t14 =>
 ACalls tP zkh [t14] H fun t15 H =>
 zad .add false t3 t15 fun t16 =>
 zad .add false t9 (.int .i64 1) fun t17 =>
 Kb3 (zfO t16 t7 t8 t17) H)
 (K t3 H)
def zqg (t0 : AV) (H : zaa) (K : Kt) : Prop :=
 zaH t0 H fun t1 H =>
 zaf 2 t1 fun t6 =>
 zae false 1 t6 H fun t7 =>
 zak 1 t7 fun t8 =>
 zwx (.int .i64 1) t7 t8 (.int .i64 0) H K
theorem zIN (t3 t7 t8 t9 : AV) (H : zaa) (K : Kt) (Kb3 : Lt) : awp tP zhN zww (zat zwy Kb3 (zwv K)) (zfO t3 t7 t8 t9) H = zlo t3 t7 t8 t9 H K Kb3 := by kernel_rfl
theorem zIP {t3 t7 t8 t9 : AV} {H : zaa} {K : Kt} (Inv : Nat → AV → AV → zaa → Prop) (n : Nat) (h0 : HSc H → Inv n t3 t9 H)
  (round : ∀ n t3 t9 H', Inv n t3 t9 H' → HSc H' → H.length ≤ H'.length → (zfO t3 t7 t8 t9).all (AV.sc H'.length) = true → ∀ Kb3 : Lt, (∀ F'' H'', (∃ n', n' < n ∧ Back H.length (fun F2 H2 => ∃ t3 t9, F2 = zfO t3 t7 t8 t9 ∧ Inv n' t3 t9 H2) F'' H'') → Kb3 F'' H'') → zlo t3 t7 t8 t9 H' K Kb3) : zwx t3 t7 t8 t9 H K :=
 zav (M := zhN) zwy (fun n F H => ∃ t3 t9, F = zfO t3 t7 t8 t9 ∧ Inv n t3 t9 H) n (fun hs _ => ⟨t3, t9, rfl, h0 hs⟩) (fun n F H' ⟨t3, t9, hF, hI⟩ h1 h2 h3 => by subst hF; rw [zIN]; exact round n t3 t9 H' hI h1 h2 h3 _ (fun _ _ h => h))
theorem zIO (t0 : AV) (H : zaa) (K : Kt) : awp tP zhN zlp (zal tP zwz K) (t0 :: List.replicate 18 .unk) H = zqg t0 H K := by kernel_rfl
theorem zIQ {t0 : AV} {H : zaa} {K : Kt} (h : HSc H → zqg t0 H K) : ACalls tP zkh [t0] H K :=
 zaw (M := zhN) Try.func124 (c := zlp) (by kernel_rfl) (fun hs => (zIO t0 H K).mpr (h hs))
def zhO : Nat → List Bool
 | 5 => rl false [1,1,3,1,23,3,12]
 | _ => []
noncomputable def zls : Code := Try.f125.body.getD .skip
noncomputable def zwD : List ResultVar := Try.f125.results.toList
def zfP (t1 t5 t29 t30 t31 : AV) : List AV := ux 1 (t1 :: ux 3 (t5 :: ux 23 (t29 :: t30 :: t31 :: ux 12 [])))
def zwC : List Bool := zhO 5
noncomputable def zwB : Code := zap [1, 1, 1, 0, 1, 0, 0] zls
def zwA (K : Kt) : AExit → List AV → zaa → Prop := zaq tP zhO [1, 1, 1, 0, 1, 0] zls (zal tP zwD K)
def zqi (t1 t5 t29 t30 t31 : AV) (H : zaa) (K : Kt) : Prop := ALoop tP zwB (zwA K) (zfP t1 t5 t29 t30 t31) H
def zqh (t5 : AV) (H : zaa) (K : Kt) : Prop :=
 K t5 H
def zlt (t5 : AV) (H : zaa) (K : Kt) : Prop :=
 zqh t5 H K
def zlr (t1 t5 t29 t30 t31 : AV) (H : zaa) (K : Kt) (Kb5 : Lt) : Prop :=
 zad .lss false t31 t30 fun t32 =>
 zag t32
 (zaj 3 t29 t31 fun t33 =>
 zae true 3 t33 H fun t34 =>
 zaC [(.int .i64 0), (.int .i64 0), .snil] H fun t7 H =>
 zas 3 t7 t34 H fun H =>
 zae true 3 t7 H fun t36 =>
 ACalls tP zki [t36, t1] H fun t38 H =>
 zad .add false t5 t38 fun t39 =>
 zad .gtr false t39 (.int .i64 200) fun t41 =>
 zag t41
 (zlt t39 H K)
 (zad .add false t31 (.int .i64 1) fun t42 =>
 Kb5 (zfP t1 t39 t29 t30 t42) H))
 (zlt t5 H K)
def zlq (t0 t1 : AV) (H : zaa) (K : Kt) : Prop :=
 zaH t0 H fun t2 H =>
 zaf 0 t2 fun t8 =>
 zae false 1 t8 H fun t9 =>
 zad .eql false t9 (.int .i64 4) fun t10 =>
 zab t10 true H (fun K' => zaf 1 t2 (K' · H)) fun t12 H =>
 zab t10 true H (fun K' => zae false 1 t12 H (K' · H)) fun t13 H =>
 zab t10 true H (fun K' => zad .geq false t13 (.int .i64 0) (K' · H)) fun t14 H =>
 zah t10 t14 (.bool false) fun t15 =>
 zab t15 true H (fun K' => zaf 1 t2 (K' · H)) fun t17 H =>
 zab t15 true H (fun K' => zae false 1 t17 H (K' · H)) fun t18 H =>
 zab t15 true H (fun K' => K' t1 H) fun t19 H =>
 zab t15 true H (fun K' => zak 1 t19 (K' · H)) fun t20 H =>
 zab t15 true H (fun K' => zad .lss false t18 t20 (K' · H)) fun t21 H =>
 zah t15 t21 (.bool false) fun t22 =>
 zag t22
 (zaf 1 t2 fun t24 =>
 zae false 1 t24 H fun t25 =>
 zaj 1 t1 t25 fun t26 =>
 zae false 1 t26 H fun t27 =>
 K t27 H)
 (zaf 2 t2 fun t28 =>
 zae false 1 t28 H fun t29 =>
 zak 1 t29 fun t30 =>
 zqi t1 (.int .i64 1) t29 t30 (.int .i64 0) H K)
theorem zIS (t1 t5 t29 t30 t31 : AV) (H : zaa) (K : Kt) (Kb5 : Lt) : awp tP zhO zwB (zat zwC Kb5 (zwA K)) (zfP t1 t5 t29 t30 t31) H = zlr t1 t5 t29 t30 t31 H K Kb5 := by kernel_rfl
theorem zIU {t1 t5 t29 t30 t31 : AV} {H : zaa} {K : Kt} (Inv : Nat → AV → AV → zaa → Prop) (n : Nat) (h0 : HSc H → Inv n t5 t31 H)
  (round : ∀ n t5 t31 H', Inv n t5 t31 H' → HSc H' → H.length ≤ H'.length → (zfP t1 t5 t29 t30 t31).all (AV.sc H'.length) = true → ∀ Kb5 : Lt, (∀ F'' H'', (∃ n', n' < n ∧ Back H.length (fun F2 H2 => ∃ t5 t31, F2 = zfP t1 t5 t29 t30 t31 ∧ Inv n' t5 t31 H2) F'' H'') → Kb5 F'' H'') → zlr t1 t5 t29 t30 t31 H' K Kb5) : zqi t1 t5 t29 t30 t31 H K :=
 zav (M := zhO) zwC (fun n F H => ∃ t5 t31, F = zfP t1 t5 t29 t30 t31 ∧ Inv n t5 t31 H) n (fun hs _ => ⟨t5, t31, rfl, h0 hs⟩) (fun n F H' ⟨t5, t31, hF, hI⟩ h1 h2 h3 => by subst hF; rw [zIS]; exact round n t5 t31 H' hI h1 h2 h3 _ (fun _ _ h => h))
theorem zIT (t0 t1 : AV) (H : zaa) (K : Kt) : awp tP zhO zls (zal tP zwD K) (t0 :: t1 :: List.replicate 42 .unk) H = zlq t0 t1 H K := by kernel_rfl
theorem zIV {t0 t1 : AV} {H : zaa} {K : Kt} (h : HSc H → zlq t0 t1 H K) : ACalls tP zki [t0, t1] H K :=
 zaw (M := zhO) Try.func125 (c := zls) (by kernel_rfl) (fun hs => (zIT t0 t1 H K).mpr (h hs))
def zhP : Nat → List Bool
 | 5 => rl false [1,1,2,2,29,3,13]
 | _ => []
noncomputable def zlw : Code := Try.f126.body.getD .skip
noncomputable def zwH : List ResultVar := Try.f126.results.toList
def zfQ (t1 t4 t5 t35 t36 t37 : AV) : List AV := ux 1 (t1 :: ux 2 (t4 :: t5 :: ux 29 (t35 :: t36 :: t37 :: ux 13 [])))
def zwG : List Bool := zhP 5
noncomputable def zwF : Code := zap [1, 1, 1, 0, 1, 0, 0] zlw
def zwE (K : Kt) : AExit → List AV → zaa → Prop := zaq tP zhP [1, 1, 1, 0, 1, 0] zlw (zal tP zwH K)
def zje (t1 t4 t5 t35 t36 t37 : AV) (H : zaa) (K : Kt) : Prop := ALoop tP zwF (zwE K) (zfQ t1 t4 t5 t35 t36 t37) H
def zlv (t1 t4 t5 t35 t36 t37 : AV) (H : zaa) (K : Kt) (Kb5 : Lt) : Prop :=
 zad .lss false t37 t36 fun t38 =>
 zag t38
 (zaj 3 t35 t37 fun t39 =>
 zae true 3 t39 H fun t40 =>
 zaC [(.int .i64 0), (.int .i64 0), .snil] H fun t7 H =>
 zas 3 t7 t40 H fun H =>
 zac H (fun K' => zaf 2 t5 (K' · H)) fun t41 =>
 zac H (fun K' => zai false 1 t41 H (K' · H)) fun t42 =>
 zac H (fun K' => zai true 3 t7 H (K' · H)) fun t43 =>
 zac H (fun K' => K' t1 H) fun t44 =>
 zay H (fun H K' => ACalls tP ziW [t43, t44] H K') fun t45 =>
 zac H (fun K' => zaA 3 [(.int .i64 0), (.int .i64 0), .snil] 1 [(0, t45)] (K' · H)) fun t46 =>
 zaJ zaD 3 40 t42 t46 H fun t47 H =>
 zac H (fun K' => zaf 2 t5 (K' · H)) fun t48 =>
 zas 1 t48 t47 H fun H =>
 zad .add false t37 (.int .i64 1) fun t49 =>
 Kb5 (zfQ t1 t4 t5 t35 t36 t49) H)
 (zae true 3 t5 H fun t50 =>
 zas 3 t4 t50 H fun H =>
 zae true 3 t4 H fun r0 =>
 K r0 H)
def zlu (t0 t1 : AV) (H : zaa) (K : Kt) : Prop :=
 zaH t0 H fun t2 H =>
 zaC [(.int .i64 0), (.int .i64 0), .snil] H fun t4 H =>
 zaf 0 t2 fun t8 =>
 zae false 1 t8 H fun t9 =>
 zad .eql false t9 (.int .i64 4) fun t10 =>
 zab t10 true H (fun K' => zaf 1 t2 (K' · H)) fun t12 H =>
 zab t10 true H (fun K' => zae false 1 t12 H (K' · H)) fun t13 H =>
 zab t10 true H (fun K' => zad .geq false t13 (.int .i64 0) (K' · H)) fun t14 H =>
 zah t10 t14 (.bool false) fun t15 =>
 zab t15 true H (fun K' => zaf 1 t2 (K' · H)) fun t17 H =>
 zab t15 true H (fun K' => zae false 1 t17 H (K' · H)) fun t18 H =>
 zab t15 true H (fun K' => K' t1 H) fun t19 H =>
 zab t15 true H (fun K' => zak 1 t19 (K' · H)) fun t20 H =>
 zab t15 true H (fun K' => zad .lss false t18 t20 (K' · H)) fun t21 H =>
 zah t15 t21 (.bool false) fun t22 =>
 zag t22
 (zaf 1 t2 fun t24 =>
 zae false 1 t24 H fun t25 =>
 zaj 3 t1 t25 fun t26 =>
 zae true 3 t26 H fun t27 =>
 ACalls tP ziW [t27, .snil] H fun t28 H =>
 zas 3 t4 t28 H fun H =>
 zae true 3 t4 H fun r0 =>
 K r0 H)
 (zaf 0 t2 fun t29 =>
 zae false 1 t29 H fun t30 =>
 zaf 1 t2 fun t31 =>
 zae false 1 t31 H fun t32 =>
 zaL [(.int .i64 0), (.int .i64 0), .snil] [(0, 1), (1, 1), (2, 1)] [(0, t30), (1, t32)] fun t33 =>
 zaC [(.int .i64 0), (.int .i64 0), .snil] H fun t5 H =>
 zas 3 t5 t33 H fun H =>
 zaf 2 t2 fun t34 =>
 zae false 1 t34 H fun t35 =>
 zak 1 t35 fun t36 =>
 zje t1 t4 t5 t35 t36 (.int .i64 0) H K)
theorem zIX (t1 t4 t5 t35 t36 t37 : AV) (H : zaa) (K : Kt) (Kb5 : Lt) : awp tP zhP zwF (zat zwG Kb5 (zwE K)) (zfQ t1 t4 t5 t35 t36 t37) H = zlv t1 t4 t5 t35 t36 t37 H K Kb5 := by kernel_rfl
theorem zIZ {t1 t4 t5 t35 t36 t37 : AV} {H : zaa} {K : Kt} (Inv : Nat → AV → zaa → Prop) (n : Nat) (h0 : HSc H → Inv n t37 H)
  (round : ∀ n t37 H', Inv n t37 H' → HSc H' → H.length ≤ H'.length → (zfQ t1 t4 t5 t35 t36 t37).all (AV.sc H'.length) = true → ∀ Kb5 : Lt, (∀ F'' H'', (∃ n', n' < n ∧ Back H.length (fun F2 H2 => ∃ t37, F2 = zfQ t1 t4 t5 t35 t36 t37 ∧ Inv n' t37 H2) F'' H'') → Kb5 F'' H'') → zlv t1 t4 t5 t35 t36 t37 H' K Kb5) : zje t1 t4 t5 t35 t36 t37 H K :=
 zav (M := zhP) zwG (fun n F H => ∃ t37, F = zfQ t1 t4 t5 t35 t36 t37 ∧ Inv n t37 H) n (fun hs _ => ⟨t37, rfl, h0 hs⟩) (fun n F H' ⟨t37, hF, hI⟩ h1 h2 h3 => by subst hF; rw [zIX]; exact round n t37 H' hI h1 h2 h3 _ (fun _ _ h => h))
theorem zIY (t0 t1 : AV) (H : zaa) (K : Kt) : awp tP zhP zlw (zal tP zwH K) (t0 :: t1 :: List.replicate 49 .unk) H = zlu t0 t1 H K := by kernel_rfl
theorem zI0 {t0 t1 : AV} {H : zaa} {K : Kt} (h : HSc H → zlu t0 t1 H K) : ACalls tP ziW [t0, t1] H K :=
 zaw (M := zhP) Try.func126 (c := zlw) (by kernel_rfl) (fun hs => (zIY t0 t1 H K).mpr (h hs))
def zy1 (_ : Nat) : List Bool := []
noncomputable def zy2 : Code := Try.f49.body.getD .skip
noncomputable def zLk : List ResultVar := Try.f49.results.toList
def zrb (t0 t1 t2 : AV) (H : zaa) (K : Kt) : Prop :=
 zaH t1 H fun t4 H =>
 zae true 3 t4 H fun t7 =>
 ACalls tP zi0 [t7] H fun t8 H =>
 zad .leq false t8 (.int .i64 200) fun t9 =>
 zab t9 true H (fun K' => K' t0 H) fun t11 H =>
 zab t9 true H (fun K' => zae true 3 t4 H (K' · H)) fun t12 H =>
 zab t9 true H (fun K' => K' t2 H) fun t13 H =>
 zab t9 true H (fun K' => ACalls tP zks [t11, t12, t13] H K') fun t14 H =>
 zah t9 t14 (.bool false) fun t15 =>
 K t15 H
theorem zLi (t0 t1 t2 : AV) (H : zaa) (K : Kt) : awp tP zy1 zy2 (zal tP zLk K) (t0 :: t1 :: t2 :: List.replicate 13 .unk) H = zrb t0 t1 t2 H K := by kernel_rfl
theorem zLj {t0 t1 t2 : AV} {H : zaa} {K : Kt} (h : HSc H → zrb t0 t1 t2 H K) : ACalls tP zhk [t0, t1, t2] H K :=
 zaw (M := zy1) Try.func49 (c := zy2) (by kernel_rfl) (fun hs => (zLi t0 t1 t2 H K).mpr (h hs))
def zh6 : Nat → List Bool
 | 4 => rl false [2,2,1,1,40]
 | _ => []
noncomputable def zmp : Code := Try.f51.body.getD .skip
noncomputable def zzc : List ResultVar := Try.f51.results.toList
def zgs (t2 t3 t5 : AV) : List AV := ux 2 (t2 :: t3 :: ux 1 (t5 :: ux 40 []))
def zzb : List Bool := zh6 4
noncomputable def zy9 : Code := zap [1, 1, 0, 1, 0, 0] zmp
def zy8 (K : Kt) : AExit → List AV → zaa → Prop := zaq tP zh6 [1, 1, 0, 1, 0] zmp (zal tP zzc K)
def zza (t2 t3 t5 : AV) (H : zaa) (K : Kt) : Prop := ALoop tP zy9 (zy8 K) (zgs t2 t3 t5) H
def zmo (t2 t3 t5 : AV) (H : zaa) (K : Kt) (Kb4 : Lt) : Prop :=
 zaf 2 t2 fun t28 =>
 zae false 1 t28 H fun t29 =>
 zak 1 t29 fun t30 =>
 zad .lss false t5 t30 fun t31 =>
 zag t31
 (zac H (fun K' => zaf 2 t2 (K' · H)) fun t34 =>
 zac H (fun K' => zai false 1 t34 H (K' · H)) fun t35 =>
 zac H (fun K' => K' t5 H) fun t36 =>
 zac H (fun K' => zaj 3 t35 t36 (K' · H)) fun t37 =>
 zac H (fun K' => zai true 3 t37 H (K' · H)) fun t38 =>
 zac H (fun K' => zaf 2 t3 (K' · H)) fun t39 =>
 zac H (fun K' => zai false 1 t39 H (K' · H)) fun t40 =>
 zac H (fun K' => K' t5 H) fun t41 =>
 zac H (fun K' => zaj 3 t40 t41 (K' · H)) fun t42 =>
 zac H (fun K' => zai true 3 t42 H (K' · H)) fun t43 =>
 zay H (fun H K' => ACalls tP zcr [t38, t43] H K') fun t44 =>
 zac H (fun K' => aUn .not t44 (K' · H)) fun t45 =>
 zag t45
 (K (.bool false) H)
 (zad .add false t5 (.int .i64 1) fun t33 =>
 Kb4 (zgs t2 t3 t33) H))
 (K (.bool true) H)
def zh5 (t0 t1 : AV) (H : zaa) (K : Kt) : Prop :=
 zaH t0 H fun t2 H =>
 zaH t1 H fun t3 H =>
 zaf 0 t2 fun t6 =>
 zae false 1 t6 H fun t7 =>
 zaf 0 t3 fun t8 =>
 zae false 1 t8 H fun t9 =>
 zad .neq false t7 t9 fun t10 =>
 zab t10 false H (fun K' => zaf 1 t2 (K' · H)) fun t12 H =>
 zab t10 false H (fun K' => zae false 1 t12 H (K' · H)) fun t13 H =>
 zab t10 false H (fun K' => zaf 1 t3 (K' · H)) fun t14 H =>
 zab t10 false H (fun K' => zae false 1 t14 H (K' · H)) fun t15 H =>
 zab t10 false H (fun K' => zad .neq false t13 t15 (K' · H)) fun t16 H =>
 zah t10 (.bool true) t16 fun t17 =>
 zab t17 false H (fun K' => zaf 2 t2 (K' · H)) fun t19 H =>
 zab t17 false H (fun K' => zae false 1 t19 H (K' · H)) fun t20 H =>
 zab t17 false H (fun K' => zak 1 t20 (K' · H)) fun t21 H =>
 zab t17 false H (fun K' => zaf 2 t3 (K' · H)) fun t22 H =>
 zab t17 false H (fun K' => zae false 1 t22 H (K' · H)) fun t23 H =>
 zab t17 false H (fun K' => zak 1 t23 (K' · H)) fun t24 H =>
 zab t17 false H (fun K' => zad .neq false t21 t24 (K' · H)) fun t25 H =>
 zah t17 (.bool true) t25 fun t26 =>
 zag t26
 (K (.bool false) H)
 (zza t2 t3 (.int .i64 0) H K)
theorem zLp (t2 t3 t5 : AV) (H : zaa) (K : Kt) (Kb4 : Lt) : awp tP zh6 zy9 (zat zzb Kb4 (zy8 K)) (zgs t2 t3 t5) H = zmo t2 t3 t5 H K Kb4 := by kernel_rfl
theorem zLr {t2 t3 t5 : AV} {H : zaa} {K : Kt} (Inv : Nat → AV → zaa → Prop) (n : Nat) (h0 : HSc H → Inv n t5 H)
  (round : ∀ n t5 H', Inv n t5 H' → HSc H' → H.length ≤ H'.length → (zgs t2 t3 t5).all (AV.sc H'.length) = true → ∀ Kb4 : Lt, (∀ F'' H'', (∃ n', n' < n ∧ Back H.length (fun F2 H2 => ∃ t5, F2 = zgs t2 t3 t5 ∧ Inv n' t5 H2) F'' H'') → Kb4 F'' H'') → zmo t2 t3 t5 H' K Kb4) : zza t2 t3 t5 H K :=
 zav (M := zh6) zzb (fun n F H => ∃ t5, F = zgs t2 t3 t5 ∧ Inv n t5 H) n (fun hs _ => ⟨t5, rfl, h0 hs⟩) (fun n F H' ⟨t5, hF, hI⟩ h1 h2 h3 => by subst hF; rw [zLp]; exact round n t5 H' hI h1 h2 h3 _ (fun _ _ h => h))
theorem zLq (t0 t1 : AV) (H : zaa) (K : Kt) : awp tP zh6 zmp (zal tP zzc K) (t0 :: t1 :: List.replicate 44 .unk) H = zh5 t0 t1 H K := by kernel_rfl
theorem zLs {t0 t1 : AV} {H : zaa} {K : Kt} (h : HSc H → zh5 t0 t1 H K) : ACalls tP zcr [t0, t1] H K :=
 zaw (M := zh6) Try.func51 (c := zmp) (by kernel_rfl) (fun hs => (zLq t0 t1 H K).mpr (h hs))
def zij : Nat → List Bool
 | 3 => rl false [1,1,1,2,16]
 | _ => []
noncomputable def zm3 : Code := Try.f79.body.getD .skip
noncomputable def zBp : List ResultVar := Try.f79.results.toList
def zgQ (t1 t3 t4 : AV) : List AV := ux 1 (t1 :: ux 1 (t3 :: t4 :: ux 16 []))
def zBo : List Bool := zij 3
noncomputable def zBm : Code := zap [1, 1, 0, 1, 0, 0] zm3
def zBl (K : Kt) : AExit → List AV → zaa → Prop := zaq tP zij [1, 1, 0, 1, 0] zm3 (zal tP zBp K)
def zBn (t1 t3 t4 : AV) (H : zaa) (K : Kt) : Prop := ALoop tP zBm (zBl K) (zgQ t1 t3 t4) H
def zm2 (t1 t3 t4 : AV) (H : zaa) (K : Kt) (Kb3 : Lt) : Prop :=
 zaf 2 t1 fun t6 =>
 zae false 1 t6 H fun t7 =>
 zak 1 t7 fun t8 =>
 zad .lss false t4 t8 fun t9 =>
 zag t9
 (zaf 2 t1 fun t13 =>
 zae false 1 t13 H fun t14 =>
 zaj 3 t14 t4 fun t16 =>
 zae true 3 t16 H fun t17 =>
 ACalls tP zi0 [t17] H fun t18 H =>
 zad .add false t3 t18 fun t19 =>
 zad .add false t4 (.int .i64 1) fun t11 =>
 Kb3 (zgQ t1 t19 t11) H)
 (K t3 H)
def zrV (t0 : AV) (H : zaa) (K : Kt) : Prop :=
 zaH t0 H fun t1 H =>
 zBn t1 (.int .i64 1) (.int .i64 0) H K
theorem zNp (t1 t3 t4 : AV) (H : zaa) (K : Kt) (Kb3 : Lt) : awp tP zij zBm (zat zBo Kb3 (zBl K)) (zgQ t1 t3 t4) H = zm2 t1 t3 t4 H K Kb3 := by kernel_rfl
theorem zNr {t1 t3 t4 : AV} {H : zaa} {K : Kt} (Inv : Nat → AV → AV → zaa → Prop) (n : Nat) (h0 : HSc H → Inv n t3 t4 H)
  (round : ∀ n t3 t4 H', Inv n t3 t4 H' → HSc H' → H.length ≤ H'.length → (zgQ t1 t3 t4).all (AV.sc H'.length) = true → ∀ Kb3 : Lt, (∀ F'' H'', (∃ n', n' < n ∧ Back H.length (fun F2 H2 => ∃ t3 t4, F2 = zgQ t1 t3 t4 ∧ Inv n' t3 t4 H2) F'' H'') → Kb3 F'' H'') → zm2 t1 t3 t4 H' K Kb3) : zBn t1 t3 t4 H K :=
 zav (M := zij) zBo (fun n F H => ∃ t3 t4, F = zgQ t1 t3 t4 ∧ Inv n t3 t4 H) n (fun hs _ => ⟨t3, t4, rfl, h0 hs⟩) (fun n F H' ⟨t3, t4, hF, hI⟩ h1 h2 h3 => by subst hF; rw [zNp]; exact round n t3 t4 H' hI h1 h2 h3 _ (fun _ _ h => h))
theorem zNq (t0 : AV) (H : zaa) (K : Kt) : awp tP zij zm3 (zal tP zBp K) (t0 :: List.replicate 20 .unk) H = zrV t0 H K := by kernel_rfl
theorem zNs {t0 : AV} {H : zaa} {K : Kt} (h : HSc H → zrV t0 H K) : ACalls tP zi0 [t0] H K :=
 zaw (M := zij) Try.func79 (c := zm3) (by kernel_rfl) (fun hs => (zNq t0 H K).mpr (h hs))
def zik : Nat → List Bool
 | 24 => rl false [0,1,1,1,1,1,2,2,103]
 | _ => []
noncomputable def zm5 : Code := Try.f80.body.getD .skip
noncomputable def zBu : List ResultVar := Try.f80.results.toList
def zgR (t0 t2 t4 t7 t8 : AV) : List AV := t0 :: ux 1 (t2 :: ux 1 (t4 :: ux 2 (t7 :: t8 :: ux 103 [])))
def zBt : List Bool := zik 24
noncomputable def zBs : Code := zap [1, 1, 1, 0, 1, 0, 0] zm5
def zBr (K : Kt) : AExit → List AV → zaa → Prop := zaq tP zik [1, 1, 1, 0, 1, 0] zm5 (zal tP zBu K)
def zrW (t0 t2 t4 t7 t8 : AV) (H : zaa) (K : Kt) : Prop := ALoop tP zBs (zBr K) (zgR t0 t2 t4 t7 t8) H
def zm4 (t0 t2 t4 t7 t8 : AV) (H : zaa) (K : Kt) (Kb24 : Lt) : Prop :=
 zad .lss false t8 t7 fun t100 =>
 zag t100
 (zaf 2 t4 fun t104 =>
 zae false 1 t104 H fun t105 =>
 zaj 3 t105 t8 fun t107 =>
 zae true 3 t107 H fun t108 =>
 ACalls tP zks [t0, t108, t2] H fun t110 H =>
 aUn .not t110 fun t111 =>
 zag t111
 (K (.bool false) H)
 (zad .add false t8 (.int .i64 1) fun t102 =>
 Kb24 (zgR t0 t2 t4 t7 t102) H))
 (K (.bool true) H)
def zjz (t0 t2 t4 t7 : AV) (H : zaa) (K : Kt) : Prop :=
 zrW t0 t2 t4 t7 (.int .i64 0) H K
def zeY (t0 t2 t4 t7 : AV) (H : zaa) (K : Kt) : Prop :=
 zjz t0 t2 t4 t7 H K
def zdX (t0 t2 t4 t7 t13 t75 : AV) (H : zaa) (K : Kt) : Prop :=
 zag t75
 (zaf 1 t4 fun t78 =>
 zae false 1 t78 H fun t79 =>
 zad .neq false t79 (.int .i64 0) fun t80 =>
 zab t80 false H (fun K' => K' t7 H) fun t82 H =>
 zab t80 false H (fun K' => zad .neq false t82 (.int .i64 1) (K' · H)) fun t83 H =>
 zah t80 (.bool true) t83 fun t84 =>
 zag t84
 (K (.bool false) H)
 (zeY t0 t2 t4 t7 H K))
 (zad .eql false t13 (.int .i64 9) fun t86 =>
 zag t86
 (zaf 1 t4 fun t87 =>
 zae false 1 t87 H fun t88 =>
 zad .neq false t88 (.int .i64 0) fun t89 =>
 zab t89 false H (fun K' => K' t7 H) fun t91 H =>
 zab t89 false H (fun K' => zad .lss false t91 (.int .i64 1) (K' · H)) fun t92 H =>
 zah t89 (.bool true) t92 fun t93 =>
 zab t93 false H (fun K' => K' t7 H) fun t95 H =>
 zab t93 false H (fun K' => zad .gtr false t95 (.int .i64 7) (K' · H)) fun t96 H =>
 zah t93 (.bool true) t96 fun t97 =>
 zag t97
 (K (.bool false) H)
 (zeY t0 t2 t4 t7 H K))
 (K (.bool false) H))
def zbO (t0 t2 t4 t7 t13 t14 : AV) (H : zaa) (K : Kt) : Prop :=
 zag t14
 (zaf 1 t4 fun t18 =>
 zae false 1 t18 H fun t19 =>
 zad .eql false t19 (.int .i64 0) fun t20 =>
 zab t20 true H (fun K' => K' t7 H) fun t22 H =>
 zab t20 true H (fun K' => zad .eql false t22 (.int .i64 0) (K' · H)) fun t23 H =>
 zah t20 t23 (.bool false) fun t24 =>
 K t24 H)
 (zad .eql false t13 (.int .i64 4) fun t26 =>
 zag t26
 (zaf 1 t4 fun t27 =>
 zae false 1 t27 H fun t28 =>
 zad .geq false t28 (.int .i64 0) fun t29 =>
 zab t29 true H (fun K' => zaf 1 t4 (K' · H)) fun t31 H =>
 zab t29 true H (fun K' => zae false 1 t31 H (K' · H)) fun t32 H =>
 zab t29 true H (fun K' => K' t2 H) fun t33 H =>
 zab t29 true H (fun K' => zad .lss false t32 t33 (K' · H)) fun t34 H =>
 zah t29 t34 (.bool false) fun t35 =>
 zab t35 true H (fun K' => K' t7 H) fun t37 H =>
 zab t35 true H (fun K' => zad .eql false t37 (.int .i64 0) (K' · H)) fun t38 H =>
 zah t35 t38 (.bool false) fun t39 =>
 K t39 H)
 (zad .eql false t13 (.int .i64 5) fun t41 =>
 zag t41
 (zaf 1 t4 fun t42 =>
 zae false 1 t42 H fun t43 =>
 zad .lss false t43 (.int .i64 0) fun t44 =>
 zab t44 false H (fun K' => zaf 1 t4 (K' · H)) fun t46 H =>
 zab t44 false H (fun K' => zae false 1 t46 H (K' · H)) fun t47 H =>
 zab t44 false H (fun K' => K' t0 H) fun t48 H =>
 zab t44 false H (fun K' => zak 1 t48 (K' · H)) fun t49 H =>
 zab t44 false H (fun K' => zad .geq false t47 t49 (K' · H)) fun t50 H =>
 zah t44 (.bool true) t50 fun t51 =>
 zab t51 false H (fun K' => K' t7 H) fun t53 H =>
 zab t51 false H (fun K' => K' t0 H) fun t54 H =>
 zab t51 false H (fun K' => zaf 1 t4 (K' · H)) fun t55 H =>
 zab t51 false H (fun K' => zae false 1 t55 H (K' · H)) fun t56 H =>
 zab t51 false H (fun K' => zaj 3 t54 t56 (K' · H)) fun t57 H =>
 zab t51 false H (fun K' => zaf 1 t57 (K' · H)) fun t58 H =>
 zab t51 false H (fun K' => zae false 1 t58 H (K' · H)) fun t59 H =>
 zab t51 false H (fun K' => zad .neq false t53 t59 (K' · H)) fun t60 H =>
 zah t51 (.bool true) t60 fun t61 =>
 zag t61
 (K (.bool false) H)
 (zeY t0 t2 t4 t7 H K))
 (zad .eql false t13 (.int .i64 6) fun t63 =>
 zag t63
 (zaf 1 t4 fun t64 =>
 zae false 1 t64 H fun t65 =>
 zad .neq false t65 (.int .i64 0) fun t66 =>
 zab t66 false H (fun K' => K' t7 H) fun t68 H =>
 zab t66 false H (fun K' => zad .lss false t68 (.int .i64 2) (K' · H)) fun t69 H =>
 zah t66 (.bool true) t69 fun t70 =>
 zab t70 false H (fun K' => K' t7 H) fun t72 H =>
 zab t70 false H (fun K' => zad .gtr false t72 (.int .i64 6) (K' · H)) fun t73 H =>
 zah t70 (.bool true) t73 fun t74 =>
 zag t74
 (K (.bool false) H)
 (zeY t0 t2 t4 t7 H K))
 (zad .eql false t13 (.int .i64 7) fun t76 =>
 zag t76
 (zdX t0 t2 t4 t7 t13 t76 H K)
 (zad .eql false t13 (.int .i64 8) fun t77 =>
 zdX t0 t2 t4 t7 t13 t77 H K)))))
def zck (t0 t1 t2 : AV) (H : zaa) (K : Kt) : Prop :=
 zaH t1 H fun t4 H =>
 zaf 2 t4 fun t9 =>
 zae false 1 t9 H fun t10 =>
 zak 1 t10 fun t11 =>
 zaf 0 t4 fun t12 =>
 zae false 1 t12 H fun t13 =>
 zad .eql false t13 (.int .i64 1) fun t15 =>
 zag t15
 (zbO t0 t2 t4 t11 t13 t15 H K)
 (zad .eql false t13 (.int .i64 2) fun t16 =>
 zag t16
 (zbO t0 t2 t4 t11 t13 t16 H K)
 (zad .eql false t13 (.int .i64 3) fun t17 =>
 zbO t0 t2 t4 t11 t13 t17 H K))
theorem zNt (t0 t2 t4 t7 t8 : AV) (H : zaa) (K : Kt) (Kb24 : Lt) : awp tP zik zBs (zat zBt Kb24 (zBr K)) (zgR t0 t2 t4 t7 t8) H = zm4 t0 t2 t4 t7 t8 H K Kb24 := by kernel_rfl
theorem zNv {t0 t2 t4 t7 t8 : AV} {H : zaa} {K : Kt} (Inv : Nat → AV → zaa → Prop) (n : Nat) (h0 : HSc H → Inv n t8 H)
  (round : ∀ n t8 H', Inv n t8 H' → HSc H' → H.length ≤ H'.length → (zgR t0 t2 t4 t7 t8).all (AV.sc H'.length) = true → ∀ Kb24 : Lt, (∀ F'' H'', (∃ n', n' < n ∧ Back H.length (fun F2 H2 => ∃ t8, F2 = zgR t0 t2 t4 t7 t8 ∧ Inv n' t8 H2) F'' H'') → Kb24 F'' H'') → zm4 t0 t2 t4 t7 t8 H' K Kb24) : zrW t0 t2 t4 t7 t8 H K :=
 zav (M := zik) zBt (fun n F H => ∃ t8, F = zgR t0 t2 t4 t7 t8 ∧ Inv n t8 H) n (fun hs _ => ⟨t8, rfl, h0 hs⟩) (fun n F H' ⟨t8, hF, hI⟩ h1 h2 h3 => by subst hF; rw [zNt]; exact round n t8 H' hI h1 h2 h3 _ (fun _ _ h => h))
theorem zNu (t0 t1 t2 : AV) (H : zaa) (K : Kt) : awp tP zik zm5 (zal tP zBu K) (t0 :: t1 :: t2 :: List.replicate 109 .unk) H = zck t0 t1 t2 H K := by kernel_rfl
theorem zNw {t0 t1 t2 : AV} {H : zaa} {K : Kt} (h : HSc H → zck t0 t1 t2 H K) : ACalls tP zks [t0, t1, t2] H K :=
 zaw (M := zik) Try.func80 (c := zm5) (by kernel_rfl) (fun hs => (zNu t0 t1 t2 H K).mpr (h hs))
def zil : Nat → List Bool
 | 4 => rl false [0,2,3,1,21]
 | _ => []
noncomputable def zm8 : Code := Try.f82.body.getD .skip
noncomputable def zBB : List ResultVar := Try.f82.results.toList
def zgS (t0 t1 t5 : AV) : List AV := t0 :: t1 :: ux 3 (t5 :: ux 21 [])
def zBA : List Bool := zil 4
noncomputable def zBy : Code := zap [1, 1, 0, 1, 0, 0] zm8
def zBx (K : Kt) : AExit → List AV → zaa → Prop := zaq tP zil [1, 1, 0, 1, 0] zm8 (zal tP zBB K)
def zBz (t0 t1 t5 : AV) (H : zaa) (K : Kt) : Prop := ALoop tP zBy (zBx K) (zgS t0 t1 t5) H
def zm7 (t0 t1 t5 : AV) (H : zaa) (K : Kt) (Kb4 : Lt) : Prop :=
 zak 1 t0 fun t13 =>
 zad .lss false t5 t13 fun t14 =>
 zag t14
 (zac H (fun K' => K' t0 H) fun t17 =>
 zac H (fun K' => K' t5 H) fun t18 =>
 zac H (fun K' => zaj 3 t17 t18 (K' · H)) fun t19 =>
 zac H (fun K' => zai true 3 t19 H (K' · H)) fun t20 =>
 zac H (fun K' => K' t1 H) fun t21 =>
 zac H (fun K' => K' t5 H) fun t22 =>
 zac H (fun K' => zaj 3 t21 t22 (K' · H)) fun t23 =>
 zac H (fun K' => zai true 3 t23 H (K' · H)) fun t24 =>
 zay H (fun H K' => ACalls tP zcr [t20, t24] H K') fun t25 =>
 zac H (fun K' => aUn .not t25 (K' · H)) fun t26 =>
 zag t26
 (K (.bool false) H)
 (zad .add false t5 (.int .i64 1) fun t16 =>
 Kb4 (zgS t0 t1 t16) H))
 (K (.bool true) H)
def zm6 (t0 t1 : AV) (H : zaa) (K : Kt) : Prop :=
 zak 1 t0 fun t7 =>
 zak 1 t1 fun t9 =>
 zad .neq false t7 t9 fun t10 =>
 zag t10
 (K (.bool false) H)
 (zBz t0 t1 (.int .i64 0) H K)
theorem zNB (t0 t1 t5 : AV) (H : zaa) (K : Kt) (Kb4 : Lt) : awp tP zil zBy (zat zBA Kb4 (zBx K)) (zgS t0 t1 t5) H = zm7 t0 t1 t5 H K Kb4 := by kernel_rfl
theorem zND {t0 t1 t5 : AV} {H : zaa} {K : Kt} (Inv : Nat → AV → zaa → Prop) (n : Nat) (h0 : HSc H → Inv n t5 H)
  (round : ∀ n t5 H', Inv n t5 H' → HSc H' → H.length ≤ H'.length → (zgS t0 t1 t5).all (AV.sc H'.length) = true → ∀ Kb4 : Lt, (∀ F'' H'', (∃ n', n' < n ∧ Back H.length (fun F2 H2 => ∃ t5, F2 = zgS t0 t1 t5 ∧ Inv n' t5 H2) F'' H'') → Kb4 F'' H'') → zm7 t0 t1 t5 H' K Kb4) : zBz t0 t1 t5 H K :=
 zav (M := zil) zBA (fun n F H => ∃ t5, F = zgS t0 t1 t5 ∧ Inv n t5 H) n (fun hs _ => ⟨t5, rfl, h0 hs⟩) (fun n F H' ⟨t5, hF, hI⟩ h1 h2 h3 => by subst hF; rw [zNB]; exact round n t5 H' hI h1 h2 h3 _ (fun _ _ h => h))
theorem zNC (t0 t1 : AV) (H : zaa) (K : Kt) : awp tP zil zm8 (zal tP zBB K) (t0 :: t1 :: List.replicate 25 .unk) H = zm6 t0 t1 H K := by kernel_rfl
theorem zNE {t0 t1 : AV} {H : zaa} {K : Kt} (h : HSc H → zm6 t0 t1 H K) : ACalls tP zdh [t0, t1] H K :=
 zaw (M := zil) Try.func82 (c := zm8) (by kernel_rfl) (fun hs => (zNC t0 t1 H K).mpr (h hs))
def zim : Nat → List Bool
 | 5 => rl false [4,1,3,1,54,3,16]
 | _ => []
noncomputable def zna : Code := Try.f83.body.getD .skip
noncomputable def zBF : List ResultVar := Try.f83.results.toList
def zgT (t4 t8 t63 t64 t65 : AV) : List AV := ux 4 (t4 :: ux 3 (t8 :: ux 54 (t63 :: t64 :: t65 :: ux 16 [])))
def zBE : List Bool := zim 5
noncomputable def zBD : Code := zap [1, 1, 1, 0, 1, 0, 0] zna
def zBC (K : Kt) : AExit → List AV → zaa → Prop := zaq tP zim [1, 1, 1, 0, 1, 0] zna (zal tP zBF K)
def znb (t4 t8 t63 t64 t65 : AV) (H : zaa) (K : Kt) : Prop := ALoop tP zBD (zBC K) (zgT t4 t8 t63 t64 t65) H
def zm9 (t4 t8 t63 t64 t65 : AV) (H : zaa) (K : Kt) (Kb5 : Lt) : Prop :=
 zad .lss false t65 t64 fun t66 =>
 zag t66
 (zaj 3 t63 t65 fun t67 =>
 zae true 3 t67 H fun t68 =>
 zaC [(.int .i64 0), (.int .i64 0), .snil] H fun t10 H =>
 zas 3 t10 t68 H fun H =>
 zae true 3 t10 H fun t69 =>
 zaf 2 t4 fun t70 =>
 zae false 1 t70 H fun t71 =>
 ACalls tP zkx [t69, t71] H fun t72 H =>
 zaC [(.int .i64 0), (.int .i64 0), .snil] H fun t11 H =>
 zas 3 t11 t72 H fun H =>
 zae true 3 t11 H fun t73 =>
 ACalls tP zi0 [t73] H fun t74 H =>
 zad .gtr false t74 (.int .i64 200) fun t75 =>
 zag t75
 (zaY [.snil, (.bool false)] (K · H))
 (zae true 3 t11 H fun t77 =>
 zaA 3 [(.int .i64 0), (.int .i64 0), .snil] 1 [(0, t77)] fun t78 =>
 zaJ zaD 3 40 t8 t78 H fun t79 H =>
 zad .add false t65 (.int .i64 1) fun t80 =>
 Kb5 (zgT t4 t79 t63 t64 t80) H))
 (zaY [t8, (.bool true)] (K · H))
def zrY (t0 t1 t2 : AV) (H : zaa) (K : Kt) : Prop :=
 zaH t1 H fun t4 H =>
 zac H (fun K' => zaf 0 t4 (K' · H)) fun t12 =>
 zac H (fun K' => zai false 1 t12 H (K' · H)) fun t13 =>
 zac H (fun K' => zad .neq false t13 (.int .i64 5) (K' · H)) fun t14 =>
 zac H (fun K' => K' t14 H) fun t15 =>
 zab t15 false H (fun K' => zac H (fun K'' => zaf 1 t4 (K'' · H)) (K' · H)) fun t16 H =>
 zab t15 false H (fun K' => zac H (fun K'' => zai false 1 t16 H (K'' · H)) (K' · H)) fun t17 H =>
 zab t15 false H (fun K' => zac H (fun K'' => zad .lss false t17 (.int .i64 0) (K'' · H)) (K' · H)) fun t18 H =>
 zac H (fun K' => zah t15 (.bool true) t18 (K' · H)) fun t19 =>
 zac H (fun K' => K' t19 H) fun t20 =>
 zab t20 false H (fun K' => zac H (fun K'' => zaf 1 t4 (K'' · H)) (K' · H)) fun t21 H =>
 zab t20 false H (fun K' => zac H (fun K'' => zai false 1 t21 H (K'' · H)) (K' · H)) fun t22 H =>
 zab t20 false H (fun K' => zac H (fun K'' => K'' t0 H) (K' · H)) fun t23 H =>
 zab t20 false H (fun K' => zac H (fun K'' => zak 1 t23 (K'' · H)) (K' · H)) fun t24 H =>
 zab t20 false H (fun K' => zac H (fun K'' => zad .geq false t22 t24 (K'' · H)) (K' · H)) fun t25 H =>
 zac H (fun K' => zah t20 (.bool true) t25 (K' · H)) fun t26 =>
 zac H (fun K' => K' t26 H) fun t27 =>
 zab t27 false H (fun K' => zac H (fun K'' => zaf 2 t4 (K'' · H)) (K' · H)) fun t28 H =>
 zab t27 false H (fun K' => zac H (fun K'' => zai false 1 t28 H (K'' · H)) (K' · H)) fun t29 H =>
 zab t27 false H (fun K' => zac H (fun K'' => zak 1 t29 (K'' · H)) (K' · H)) fun t30 H =>
 zab t27 false H (fun K' => zac H (fun K'' => K'' t0 H) (K' · H)) fun t31 H =>
 zab t27 false H (fun K' => zac H (fun K'' => zaf 1 t4 (K'' · H)) (K' · H)) fun t32 H =>
 zab t27 false H (fun K' => zac H (fun K'' => zai false 1 t32 H (K'' · H)) (K' · H)) fun t33 H =>
 zab t27 false H (fun K' => zac H (fun K'' => zaj 3 t31 t33 (K'' · H)) (K' · H)) fun t34 H =>
 zab t27 false H (fun K' => zac H (fun K'' => zaf 1 t34 (K'' · H)) (K' · H)) fun t35 H =>
 zab t27 false H (fun K' => zac H (fun K'' => zai false 1 t35 H (K'' · H)) (K' · H)) fun t36 H =>
 zab t27 false H (fun K' => zac H (fun K'' => zad .neq false t30 t36 (K'' · H)) (K' · H)) fun t37 H =>
 zac H (fun K' => zah t27 (.bool true) t37 (K' · H)) fun t38 =>
 zac H (fun K' => K' t38 H) fun t39 =>
 zab t39 false H (fun K' => zac H (fun K'' => K'' t2 H) (K' · H)) fun t40 H =>
 zab t39 false H (fun K' => zac H (fun K'' => zad .lss false t40 (.int .i64 0) (K'' · H)) (K' · H)) fun t41 H =>
 zac H (fun K' => zah t39 (.bool true) t41 (K' · H)) fun t42 =>
 zac H (fun K' => K' t42 H) fun t43 =>
 zab t43 false H (fun K' => zac H (fun K'' => K'' t2 H) (K' · H)) fun t44 H =>
 zab t43 false H (fun K' => zac H (fun K'' => K'' t0 H) (K' · H)) fun t45 H =>
 zab t43 false H (fun K' => zac H (fun K'' => zaf 1 t4 (K'' · H)) (K' · H)) fun t46 H =>
 zab t43 false H (fun K' => zac H (fun K'' => zai false 1 t46 H (K'' · H)) (K' · H)) fun t47 H =>
 zab t43 false H (fun K' => zac H (fun K'' => zaj 3 t45 t47 (K'' · H)) (K' · H)) fun t48 H =>
 zab t43 false H (fun K' => zac H (fun K'' => zaf 2 t48 (K'' · H)) (K' · H)) fun t49 H =>
 zab t43 false H (fun K' => zac H (fun K'' => zai false 1 t49 H (K'' · H)) (K' · H)) fun t50 H =>
 zab t43 false H (fun K' => zac H (fun K'' => zak 1 t50 (K'' · H)) (K' · H)) fun t51 H =>
 zab t43 false H (fun K' => zac H (fun K'' => zad .geq false t44 t51 (K'' · H)) (K' · H)) fun t52 H =>
 zac H (fun K' => zah t43 (.bool true) t52 (K' · H)) fun t53 =>
 zag t53
 (zaY [.snil, (.bool false)] (K · H))
 (zaf 1 t4 fun t55 =>
 zae false 1 t55 H fun t56 =>
 zaj 3 t0 t56 fun t57 =>
 zaf 2 t57 fun t58 =>
 zae false 1 t58 H fun t59 =>
 zaj 2 t59 t2 fun t61 =>
 zaf 1 t61 fun t62 =>
 zae false 1 t62 H fun t63 =>
 zak 1 t63 fun t64 =>
 znb t4 .snil t63 t64 (.int .i64 0) H K)
theorem zNG (t4 t8 t63 t64 t65 : AV) (H : zaa) (K : Kt) (Kb5 : Lt) : awp tP zim zBD (zat zBE Kb5 (zBC K)) (zgT t4 t8 t63 t64 t65) H = zm9 t4 t8 t63 t64 t65 H K Kb5 := by kernel_rfl
theorem zNI {t4 t8 t63 t64 t65 : AV} {H : zaa} {K : Kt} (Inv : Nat → AV → AV → zaa → Prop) (n : Nat) (h0 : HSc H → Inv n t8 t65 H)
  (round : ∀ n t8 t65 H', Inv n t8 t65 H' → HSc H' → H.length ≤ H'.length → (zgT t4 t8 t63 t64 t65).all (AV.sc H'.length) = true → ∀ Kb5 : Lt, (∀ F'' H'', (∃ n', n' < n ∧ Back H.length (fun F2 H2 => ∃ t8 t65, F2 = zgT t4 t8 t63 t64 t65 ∧ Inv n' t8 t65 H2) F'' H'') → Kb5 F'' H'') → zm9 t4 t8 t63 t64 t65 H' K Kb5) : znb t4 t8 t63 t64 t65 H K :=
 zav (M := zim) zBE (fun n F H => ∃ t8 t65, F = zgT t4 t8 t63 t64 t65 ∧ Inv n t8 t65 H) n (fun hs _ => ⟨t8, t65, rfl, h0 hs⟩) (fun n F H' ⟨t8, t65, hF, hI⟩ h1 h2 h3 => by subst hF; rw [zNG]; exact round n t8 t65 H' hI h1 h2 h3 _ (fun _ _ h => h))
theorem zNH (t0 t1 t2 : AV) (H : zaa) (K : Kt) : awp tP zim zna (zal tP zBF K) (t0 :: t1 :: t2 :: List.replicate 79 .unk) H = zrY t0 t1 t2 H K := by kernel_rfl
theorem zNJ {t0 t1 t2 : AV} {H : zaa} {K : Kt} (h : HSc H → zrY t0 t1 t2 H K) : ACalls tP zi1 [t0, t1, t2] H K :=
 zaw (M := zim) Try.func83 (c := zna) (by kernel_rfl) (fun hs => (zNH t0 t1 t2 H K).mpr (h hs))
def zix : Nat → List Bool
 | 5 => rl false [1,2,1,3,46]
 | _ => []
noncomputable def znN : Code := Try.f100.body.getD .skip
noncomputable def zDa : List ResultVar := Try.f100.results.toList
def zg6 (t1 t2 t4 t5 t6 : AV) : List AV := ux 1 (t1 :: t2 :: ux 1 (t4 :: t5 :: t6 :: ux 46 []))
def zC9 : List Bool := zix 5
noncomputable def zC8 : Code := zap [1, 1, 1, 0, 1, 0, 0] znN
def zC7 (K : Kt) : AExit → List AV → zaa → Prop := zaq tP zix [1, 1, 1, 0, 1, 0] znN (zal tP zDa K)
def zsr (t1 t2 t4 t5 t6 : AV) (H : zaa) (K : Kt) : Prop := ALoop tP zC8 (zC7 K) (zg6 t1 t2 t4 t5 t6) H
def znM (t1 t2 t4 t5 t6 : AV) (H : zaa) (K : Kt) (Kb5 : Lt) : Prop :=
 zaf 2 t2 fun t34 =>
 zae false 1 t34 H fun t35 =>
 zak 1 t35 fun t36 =>
 zad .lss false t6 t36 fun t37 =>
 zag t37
 (zac H (fun K' => zaf 2 t5 (K' · H)) fun t40 =>
 zac H (fun K' => zai false 1 t40 H (K' · H)) fun t41 =>
 zac H (fun K' => zaf 2 t2 (K' · H)) fun t42 =>
 zac H (fun K' => zai false 1 t42 H (K' · H)) fun t43 =>
 zac H (fun K' => K' t6 H) fun t44 =>
 zac H (fun K' => zaj 3 t43 t44 (K' · H)) fun t45 =>
 zac H (fun K' => zai true 3 t45 H (K' · H)) fun t46 =>
 zac H (fun K' => K' t1 H) fun t47 =>
 zay H (fun H K' => ACalls tP zkx [t46, t47] H K') fun t48 =>
 zac H (fun K' => zaA 3 [(.int .i64 0), (.int .i64 0), .snil] 1 [(0, t48)] (K' · H)) fun t49 =>
 zaJ zaD 3 40 t41 t49 H fun t50 H =>
 zac H (fun K' => zaf 2 t5 (K' · H)) fun t51 =>
 zas 1 t51 t50 H fun H =>
 zad .add false t6 (.int .i64 1) fun t39 =>
 Kb5 (zg6 t1 t2 t4 t5 t39) H)
 (zae true 3 t5 H fun t52 =>
 zas 3 t4 t52 H fun H =>
 zae true 3 t4 H fun r0 =>
 K r0 H)
def znL (t0 t1 : AV) (H : zaa) (K : Kt) : Prop :=
 zaH t0 H fun t2 H =>
 zaC [(.int .i64 0), (.int .i64 0), .snil] H fun t4 H =>
 zaf 0 t2 fun t7 =>
 zae false 1 t7 H fun t8 =>
 zad .eql false t8 (.int .i64 4) fun t9 =>
 zab t9 true H (fun K' => zaf 1 t2 (K' · H)) fun t11 H =>
 zab t9 true H (fun K' => zae false 1 t11 H (K' · H)) fun t12 H =>
 zab t9 true H (fun K' => zad .geq false t12 (.int .i64 0) (K' · H)) fun t13 H =>
 zah t9 t13 (.bool false) fun t14 =>
 zab t14 true H (fun K' => zaf 1 t2 (K' · H)) fun t16 H =>
 zab t14 true H (fun K' => zae false 1 t16 H (K' · H)) fun t17 H =>
 zab t14 true H (fun K' => K' t1 H) fun t18 H =>
 zab t14 true H (fun K' => zak 1 t18 (K' · H)) fun t19 H =>
 zab t14 true H (fun K' => zad .lss false t17 t19 (K' · H)) fun t20 H =>
 zah t14 t20 (.bool false) fun t21 =>
 zag t21
 (zaf 1 t2 fun t23 =>
 zae false 1 t23 H fun t24 =>
 zaj 3 t1 t24 fun t25 =>
 zae true 3 t25 H fun t26 =>
 ACalls tP zkd [t26] H fun t27 H =>
 zas 3 t4 t27 H fun H =>
 zae true 3 t4 H fun r0 =>
 K r0 H)
 (zaf 0 t2 fun t28 =>
 zae false 1 t28 H fun t29 =>
 zaf 1 t2 fun t30 =>
 zae false 1 t30 H fun t31 =>
 zaL [(.int .i64 0), (.int .i64 0), .snil] [(0, 1), (1, 1), (2, 1)] [(0, t29), (1, t31)] fun t32 =>
 zaC [(.int .i64 0), (.int .i64 0), .snil] H fun t5 H =>
 zas 3 t5 t32 H fun H =>
 zsr t1 t2 t4 t5 (.int .i64 0) H K)
theorem zPd (t1 t2 t4 t5 t6 : AV) (H : zaa) (K : Kt) (Kb5 : Lt) : awp tP zix zC8 (zat zC9 Kb5 (zC7 K)) (zg6 t1 t2 t4 t5 t6) H = znM t1 t2 t4 t5 t6 H K Kb5 := by kernel_rfl
theorem zPf {t1 t2 t4 t5 t6 : AV} {H : zaa} {K : Kt} (Inv : Nat → AV → zaa → Prop) (n : Nat) (h0 : HSc H → Inv n t6 H)
  (round : ∀ n t6 H', Inv n t6 H' → HSc H' → H.length ≤ H'.length → (zg6 t1 t2 t4 t5 t6).all (AV.sc H'.length) = true → ∀ Kb5 : Lt, (∀ F'' H'', (∃ n', n' < n ∧ Back H.length (fun F2 H2 => ∃ t6, F2 = zg6 t1 t2 t4 t5 t6 ∧ Inv n' t6 H2) F'' H'') → Kb5 F'' H'') → znM t1 t2 t4 t5 t6 H' K Kb5) : zsr t1 t2 t4 t5 t6 H K :=
 zav (M := zix) zC9 (fun n F H => ∃ t6, F = zg6 t1 t2 t4 t5 t6 ∧ Inv n t6 H) n (fun hs _ => ⟨t6, rfl, h0 hs⟩) (fun n F H' ⟨t6, hF, hI⟩ h1 h2 h3 => by subst hF; rw [zPd]; exact round n t6 H' hI h1 h2 h3 _ (fun _ _ h => h))
theorem zPe (t0 t1 : AV) (H : zaa) (K : Kt) : awp tP zix znN (zal tP zDa K) (t0 :: t1 :: List.replicate 51 .unk) H = znL t0 t1 H K := by kernel_rfl
theorem zPg {t0 t1 : AV} {H : zaa} {K : Kt} (h : HSc H → znL t0 t1 H K) : ACalls tP zkx [t0, t1] H K :=
 zaw (M := zix) Try.func100 (c := znN) (by kernel_rfl) (fun hs => (zPe t0 t1 H K).mpr (h hs))
def zhK : Nat → List Bool
 | 3 => rl false [1,4,24]
 | _ => []
noncomputable def zli : Code := Try.f115.body.getD .skip
noncomputable def zv6 : List ResultVar := Try.f115.results.toList
def zfJ (t1 t2 t3 t4 : AV) : List AV := ux 1 (t1 :: t2 :: t3 :: t4 :: ux 24 [])
def zv5 : List Bool := zhK 3
noncomputable def zv3 : Code := zap [1, 1, 0, 1, 0, 0] zli
def zv2 (K : Kt) : AExit → List AV → zaa → Prop := zaq tP zhK [1, 1, 0, 1, 0] zli (zal tP zv6 K)
def zv4 (t1 t2 t3 t4 : AV) (H : zaa) (K : Kt) : Prop := ALoop tP zv3 (zv2 K) (zfJ t1 t2 t3 t4) H
def zlh (t1 t2 t3 t4 : AV) (H : zaa) (K : Kt) (Kb3 : Lt) : Prop :=
 zaf 2 t1 fun t11 =>
 zae false 1 t11 H fun t12 =>
 zak 1 t12 fun t13 =>
 zad .lss false t4 t13 fun t14 =>
 zag t14
 (zac H (fun K' => zaf 2 t3 (K' · H)) fun t17 =>
 zac H (fun K' => zai false 1 t17 H (K' · H)) fun t18 =>
 zac H (fun K' => zaf 2 t1 (K' · H)) fun t19 =>
 zac H (fun K' => zai false 1 t19 H (K' · H)) fun t20 =>
 zac H (fun K' => K' t4 H) fun t21 =>
 zac H (fun K' => zaj 3 t20 t21 (K' · H)) fun t22 =>
 zac H (fun K' => zai true 3 t22 H (K' · H)) fun t23 =>
 zay H (fun H K' => ACalls tP zkd [t23] H K') fun t24 =>
 zac H (fun K' => zaA 3 [(.int .i64 0), (.int .i64 0), .snil] 1 [(0, t24)] (K' · H)) fun t25 =>
 zaJ zaD 3 40 t18 t25 H fun t26 H =>
 zac H (fun K' => zaf 2 t3 (K' · H)) fun t27 =>
 zas 1 t27 t26 H fun H =>
 zad .add false t4 (.int .i64 1) fun t16 =>
 Kb3 (zfJ t1 t2 t3 t16) H)
 (zae true 3 t3 H fun t28 =>
 zas 3 t2 t28 H fun H =>
 zae true 3 t2 H fun r0 =>
 K r0 H)
def zp6 (t0 : AV) (H : zaa) (K : Kt) : Prop :=
 zaH t0 H fun t1 H =>
 zaC [(.int .i64 0), (.int .i64 0), .snil] H fun t2 H =>
 zaf 0 t1 fun t5 =>
 zae false 1 t5 H fun t6 =>
 zaf 1 t1 fun t7 =>
 zae false 1 t7 H fun t8 =>
 zaL [(.int .i64 0), (.int .i64 0), .snil] [(0, 1), (1, 1), (2, 1)] [(0, t6), (1, t8)] fun t9 =>
 zaC [(.int .i64 0), (.int .i64 0), .snil] H fun t3 H =>
 zas 3 t3 t9 H fun H =>
 zv4 t1 t2 t3 (.int .i64 0) H K
theorem zIf (t1 t2 t3 t4 : AV) (H : zaa) (K : Kt) (Kb3 : Lt) : awp tP zhK zv3 (zat zv5 Kb3 (zv2 K)) (zfJ t1 t2 t3 t4) H = zlh t1 t2 t3 t4 H K Kb3 := by kernel_rfl
theorem zIh {t1 t2 t3 t4 : AV} {H : zaa} {K : Kt} (Inv : Nat → AV → zaa → Prop) (n : Nat) (h0 : HSc H → Inv n t4 H)
  (round : ∀ n t4 H', Inv n t4 H' → HSc H' → H.length ≤ H'.length → (zfJ t1 t2 t3 t4).all (AV.sc H'.length) = true → ∀ Kb3 : Lt, (∀ F'' H'', (∃ n', n' < n ∧ Back H.length (fun F2 H2 => ∃ t4, F2 = zfJ t1 t2 t3 t4 ∧ Inv n' t4 H2) F'' H'') → Kb3 F'' H'') → zlh t1 t2 t3 t4 H' K Kb3) : zv4 t1 t2 t3 t4 H K :=
 zav (M := zhK) zv5 (fun n F H => ∃ t4, F = zfJ t1 t2 t3 t4 ∧ Inv n t4 H) n (fun hs _ => ⟨t4, rfl, h0 hs⟩) (fun n F H' ⟨t4, hF, hI⟩ h1 h2 h3 => by subst hF; rw [zIf]; exact round n t4 H' hI h1 h2 h3 _ (fun _ _ h => h))
theorem zIg (t0 : AV) (H : zaa) (K : Kt) : awp tP zhK zli (zal tP zv6 K) (t0 :: List.replicate 28 .unk) H = zp6 t0 H K := by kernel_rfl
theorem zIi {t0 : AV} {H : zaa} {K : Kt} (h : HSc H → zp6 t0 H K) : ACalls tP zkd [t0] H K :=
 zaw (M := zhK) Try.func115 (c := zli) (by kernel_rfl) (fun hs => (zIg t0 H K).mpr (h hs))
def zdZ : Nat → List Bool
 | 6 => rl false [0,2,6,1,38,3,56]
 | 10 => rl false [0,2,6,2,37,3,28,3,25]
 | _ => []
noncomputable def znj : Code := Try.f85.body.getD .skip
noncomputable def zBQ : List ResultVar := Try.f85.results.toList
def zgX (t0 t1 t8 t47 t48 t49 : AV) : List AV := t0 :: t1 :: ux 6 (t8 :: ux 38 (t47 :: t48 :: t49 :: ux 56 []))
def zr5 : List Bool := zdZ 6
noncomputable def znk : Code := zap [1, 1, 1, 1, 0, 1, 0, 0] znj
def zr2 (K : Kt) : AExit → List AV → zaa → Prop := zaq tP zdZ [1, 1, 1, 1, 0, 1, 0] znj (zal tP zBQ K)
def zBO (t0 t1 t8 t47 t48 t49 : AV) (H : zaa) (K : Kt) : Prop := ALoop tP znk (zr2 K) (zgX t0 t1 t8 t47 t48 t49) H
def zgW (t0 t1 t8 t9 t47 t48 t49 t78 t79 t80 : AV) : List AV := t0 :: t1 :: ux 6 (t8 :: t9 :: ux 37 (t47 :: t48 :: t49 :: ux 28 (t78 :: t79 :: t80 :: ux 25 [])))
def zBP : List Bool := zdZ 10
noncomputable def zBN : Code := zap [1, 1, 0, 0, 1, 1, 1, 0, 0] znk
def zBM (K : Kt) (Kb6 : Lt) : AExit → List AV → zaa → Prop := zaq tP zdZ [1, 1, 0, 0, 1, 1, 1, 0] znk (zat zr5 Kb6 (zr2 K))
def zr4 (t0 t1 t8 t9 t47 t48 t49 t78 t79 t80 : AV) (H : zaa) (K : Kt) (Kb6 : Lt) : Prop := ALoop tP zBN (zBM K Kb6) (zgW t0 t1 t8 t9 t47 t48 t49 t78 t79 t80) H
def zr3 (t0 t1 t8 t9 t47 t48 t49 t78 t79 t80 : AV) (H : zaa) (K : Kt) (Kb6 : Lt) (Kb10 : Lt) : Prop :=
 zad .add false t80 (.int .i64 1) fun t103 =>
 Kb10 (zgW t0 t1 t8 t9 t47 t48 t49 t78 t79 t103) H
def zip (t0 t1 t8 t9 t47 t48 t49 t78 t79 t80 : AV) (H : zaa) (K : Kt) (Kb6 : Lt) (Kb10 : Lt) : Prop :=
 zr3 t0 t1 t8 t9 t47 t48 t49 t78 t79 t80 H K Kb6 Kb10
def zgV (t0 t1 t8 t9 t47 t48 t49 t78 t79 t80 : AV) (H : zaa) (K : Kt) (Kb6 : Lt) (Kb10 : Lt) : Prop :=
 zad .lss false t80 t79 fun t81 =>
 zag t81
 (zaj 3 t78 t80 fun t83 =>
 zae true 3 t83 H fun t84 =>
 zaC [(.int .i64 0), (.int .i64 0), .snil] H fun t12 H =>
 zas 3 t12 t84 H fun H =>
 zaf 0 t12 fun t85 =>
 zae false 1 t85 H fun t86 =>
 zad .neq false t86 (.int .i64 4) fun t87 =>
 zab t87 false H (fun K' => zaf 1 t12 (K' · H)) fun t89 H =>
 zab t87 false H (fun K' => zae false 1 t89 H (K' · H)) fun t90 H =>
 zab t87 false H (fun K' => K' t80 H) fun t91 H =>
 zab t87 false H (fun K' => zad .neq false t90 t91 (K' · H)) fun t92 H =>
 zah t87 (.bool true) t92 fun t93 =>
 zab t93 false H (fun K' => zaf 2 t12 (K' · H)) fun t95 H =>
 zab t93 false H (fun K' => zae false 1 t95 H (K' · H)) fun t96 H =>
 zab t93 false H (fun K' => zak 1 t96 (K' · H)) fun t97 H =>
 zab t93 false H (fun K' => zad .gtr false t97 (.int .i64 0) (K' · H)) fun t98 H =>
 zah t93 (.bool true) t98 fun t99 =>
 zag t99
 (zaj 1 t8 t9 fun t102 =>
 zas 1 t102 (.bool false) H fun H =>
 zip t0 t1 t8 t9 t47 t48 t49 t78 t79 t80 H K Kb6 Kb10)
 (zip t0 t1 t8 t9 t47 t48 t49 t78 t79 t80 H K Kb6 Kb10))
 (zad .add false t49 (.int .i64 1) fun t104 =>
 Kb6 (zgX t0 t1 t8 t47 t48 t104) H)
def zio (t0 t1 t8 t47 t48 t49 : AV) (H : zaa) (K : Kt) (Kb6 : Lt) : Prop :=
 zad .lss false t49 t48 fun t50 =>
 zag t50
 (zaj 3 t47 t49 fun t52 =>
 zae true 3 t52 H fun t53 =>
 zaC [(.int .i64 0), (.int .i64 0), .snil] H fun t10 H =>
 zas 3 t10 t53 H fun H =>
 zac H (fun K' => K' t8 H) fun t54 =>
 zac H (fun K' => K' t49 H) fun t55 =>
 zac H (fun K' => zaf 0 t10 (K' · H)) fun t56 =>
 zac H (fun K' => zai false 1 t56 H (K' · H)) fun t57 =>
 zac H (fun K' => zad .eql false t57 (.int .i64 5) (K' · H)) fun t58 =>
 zac H (fun K' => K' t58 H) fun t59 =>
 zab t59 true H (fun K' => zac H (fun K'' => zaf 1 t10 (K'' · H)) (K' · H)) fun t60 H =>
 zab t59 true H (fun K' => zac H (fun K'' => zai false 1 t60 H (K'' · H)) (K' · H)) fun t61 H =>
 zab t59 true H (fun K' => zac H (fun K'' => K'' t1 H) (K' · H)) fun t62 H =>
 zab t59 true H (fun K' => zac H (fun K'' => zad .eql false t61 t62 (K'' · H)) (K' · H)) fun t63 H =>
 zac H (fun K' => zah t59 t63 (.bool false) (K' · H)) fun t64 =>
 zac H (fun K' => K' t64 H) fun t65 =>
 zab t65 true H (fun K' => zac H (fun K'' => zaf 2 t10 (K'' · H)) (K' · H)) fun t66 H =>
 zab t65 true H (fun K' => zac H (fun K'' => zai false 1 t66 H (K'' · H)) (K' · H)) fun t67 H =>
 zab t65 true H (fun K' => zac H (fun K'' => zak 1 t67 (K'' · H)) (K' · H)) fun t68 H =>
 zab t65 true H (fun K' => zac H (fun K'' => K'' t0 H) (K' · H)) fun t69 H =>
 zab t65 true H (fun K' => zac H (fun K'' => K'' t1 H) (K' · H)) fun t70 H =>
 zab t65 true H (fun K' => zac H (fun K'' => zaj 3 t69 t70 (K'' · H)) (K' · H)) fun t71 H =>
 zab t65 true H (fun K' => zac H (fun K'' => zaf 1 t71 (K'' · H)) (K' · H)) fun t72 H =>
 zab t65 true H (fun K' => zac H (fun K'' => zai false 1 t72 H (K'' · H)) (K' · H)) fun t73 H =>
 zab t65 true H (fun K' => zac H (fun K'' => zad .eql false t68 t73 (K'' · H)) (K' · H)) fun t74 H =>
 zac H (fun K' => zah t65 t74 (.bool false) (K' · H)) fun t75 =>
 zac H (fun K' => zaj 1 t54 t55 (K' · H)) fun t76 =>
 zas 1 t76 t75 H fun H =>
 zaf 2 t10 fun t77 =>
 zae false 1 t77 H fun t78 =>
 zak 1 t78 fun t79 =>
 zr4 t0 t1 t8 t49 t47 t48 t49 t78 t79 (.int .i64 0) H K Kb6)
 (K t8 H)
def zr1 (t0 t1 t2 : AV) (H : zaa) (K : Kt) : Prop :=
 zad .lss false t1 (.int .i64 0) fun t14 =>
 zab t14 false H (fun K' => K' t1 H) fun t16 H =>
 zab t14 false H (fun K' => K' t0 H) fun t17 H =>
 zab t14 false H (fun K' => zak 1 t17 (K' · H)) fun t18 H =>
 zab t14 false H (fun K' => zad .geq false t16 t18 (K' · H)) fun t19 H =>
 zah t14 (.bool true) t19 fun t20 =>
 zab t20 false H (fun K' => K' t2 H) fun t22 H =>
 zab t20 false H (fun K' => zad .lss false t22 (.int .i64 0) (K' · H)) fun t23 H =>
 zah t20 (.bool true) t23 fun t24 =>
 zab t24 false H (fun K' => K' t2 H) fun t26 H =>
 zab t24 false H (fun K' => K' t0 H) fun t27 H =>
 zab t24 false H (fun K' => K' t1 H) fun t28 H =>
 zab t24 false H (fun K' => zaj 3 t27 t28 (K' · H)) fun t29 H =>
 zab t24 false H (fun K' => zaf 2 t29 (K' · H)) fun t30 H =>
 zab t24 false H (fun K' => zae false 1 t30 H (K' · H)) fun t31 H =>
 zab t24 false H (fun K' => zak 1 t31 (K' · H)) fun t32 H =>
 zab t24 false H (fun K' => zad .geq false t26 t32 (K' · H)) fun t33 H =>
 zah t24 (.bool true) t33 fun t34 =>
 zag t34
 (K .snil H)
 (zaj 3 t0 t1 fun t37 =>
 zaf 2 t37 fun t38 =>
 zae false 1 t38 H fun t39 =>
 zaj 2 t39 t2 fun t41 =>
 zaf 1 t41 fun t42 =>
 zae false 1 t42 H fun t43 =>
 zak 1 t43 fun t45 =>
 zbd 1 [(.bool false)] t45 t45 H fun t46 H =>
 zak 1 t43 fun t48 =>
 zBO t0 t1 t46 t43 t48 (.int .i64 0) H K)
theorem zNR (t0 t1 t8 t9 t47 t48 t49 t78 t79 t80 : AV) (H : zaa) (K : Kt) (Kb6 : Lt) (Kb10 : Lt) : awp tP zdZ zBN (zat zBP Kb10 (zBM K Kb6)) (zgW t0 t1 t8 t9 t47 t48 t49 t78 t79 t80) H = zgV t0 t1 t8 t9 t47 t48 t49 t78 t79 t80 H K Kb6 Kb10 := by kernel_rfl
theorem zNU {t0 t1 t8 t9 t47 t48 t49 t78 t79 t80 : AV} {H : zaa} {K : Kt} {Kb6 : Lt} (Inv : Nat → AV → zaa → Prop) (n : Nat) (h0 : HSc H → Inv n t80 H)
  (round : ∀ n t80 H', Inv n t80 H' → HSc H' → H.length ≤ H'.length → (zgW t0 t1 t8 t9 t47 t48 t49 t78 t79 t80).all (AV.sc H'.length) = true → ∀ Kb10 : Lt, (∀ F'' H'', (∃ n', n' < n ∧ Back H.length (fun F2 H2 => ∃ t80, F2 = zgW t0 t1 t8 t9 t47 t48 t49 t78 t79 t80 ∧ Inv n' t80 H2) F'' H'') → Kb10 F'' H'') → zgV t0 t1 t8 t9 t47 t48 t49 t78 t79 t80 H' K Kb6 Kb10) : zr4 t0 t1 t8 t9 t47 t48 t49 t78 t79 t80 H K Kb6 :=
 zav (M := zdZ) zBP (fun n F H => ∃ t80, F = zgW t0 t1 t8 t9 t47 t48 t49 t78 t79 t80 ∧ Inv n t80 H) n (fun hs _ => ⟨t80, rfl, h0 hs⟩) (fun n F H' ⟨t80, hF, hI⟩ h1 h2 h3 => by subst hF; rw [zNR]; exact round n t80 H' hI h1 h2 h3 _ (fun _ _ h => h))
theorem zNS (t0 t1 t8 t47 t48 t49 : AV) (H : zaa) (K : Kt) (Kb6 : Lt) : awp tP zdZ znk (zat zr5 Kb6 (zr2 K)) (zgX t0 t1 t8 t47 t48 t49) H = zio t0 t1 t8 t47 t48 t49 H K Kb6 := by kernel_rfl
theorem zNV {t0 t1 t8 t47 t48 t49 : AV} {H : zaa} {K : Kt} (Inv : Nat → AV → zaa → Prop) (n : Nat) (h0 : HSc H → Inv n t49 H)
  (round : ∀ n t49 H', Inv n t49 H' → HSc H' → H.length ≤ H'.length → (zgX t0 t1 t8 t47 t48 t49).all (AV.sc H'.length) = true → ∀ Kb6 : Lt, (∀ F'' H'', (∃ n', n' < n ∧ Back H.length (fun F2 H2 => ∃ t49, F2 = zgX t0 t1 t8 t47 t48 t49 ∧ Inv n' t49 H2) F'' H'') → Kb6 F'' H'') → zio t0 t1 t8 t47 t48 t49 H' K Kb6) : zBO t0 t1 t8 t47 t48 t49 H K :=
 zav (M := zdZ) zr5 (fun n F H => ∃ t49, F = zgX t0 t1 t8 t47 t48 t49 ∧ Inv n t49 H) n (fun hs _ => ⟨t49, rfl, h0 hs⟩) (fun n F H' ⟨t49, hF, hI⟩ h1 h2 h3 => by subst hF; rw [zNS]; exact round n t49 H' hI h1 h2 h3 _ (fun _ _ h => h))
theorem zNT (t0 t1 t2 : AV) (H : zaa) (K : Kt) : awp tP zdZ znj (zal tP zBQ K) (t0 :: t1 :: t2 :: List.replicate 103 .unk) H = zr1 t0 t1 t2 H K := by kernel_rfl
theorem zNW {t0 t1 t2 : AV} {H : zaa} {K : Kt} (h : HSc H → zr1 t0 t1 t2 H K) : ACalls tP zoX [t0, t1, t2] H K :=
 zaw (M := zdZ) Try.func85 (c := znj) (by kernel_rfl) (fun hs => (zNT t0 t1 t2 H K).mpr (h hs))
def zBR (_ : Nat) : List Bool := []
noncomputable def zBS : Code := Try.f86.body.getD .skip
noncomputable def zN0 : List ResultVar := Try.f86.results.toList
def zr6 (t0 t1 : AV) (H : zaa) (K : Kt) : Prop :=
 zaH t0 H fun t2 H =>
 zaH t1 H fun t3 H =>
 zaf 0 t2 fun t5 =>
 zae false 1 t5 H fun t6 =>
 zad .eql false t6 (.int .i64 5) fun t7 =>
 zab t7 true H (fun K' => zaf 1 t2 (K' · H)) fun t9 H =>
 zab t7 true H (fun K' => zae false 1 t9 H (K' · H)) fun t10 H =>
 zab t7 true H (fun K' => zae false 1 t3 H (K' · H)) fun t11 H =>
 zab t7 true H (fun K' => zad .eql false t10 t11 (K' · H)) fun t12 H =>
 zah t7 t12 (.bool false) fun t13 =>
 zab t13 false H (fun K' => zaf 2 t2 (K' · H)) fun t15 H =>
 zab t13 false H (fun K' => zae false 1 t15 H (K' · H)) fun t16 H =>
 zab t13 false H (fun K' => zcx zj8 [t3] (K' · H)) fun t17 H =>
 zab t13 false H (fun K' => ACalls tP zfm [t16, t17] H K') fun t18 H =>
 zah t13 (.bool true) t18 fun t19 =>
 K t19 H
theorem zNY (t0 t1 : AV) (H : zaa) (K : Kt) : awp tP zBR zBS (zal tP zN0 K) (t0 :: t1 :: List.replicate 18 .unk) H = zr6 t0 t1 H K := by kernel_rfl
theorem zNZ {t0 t1 : AV} {H : zaa} {K : Kt} (h : HSc H → zr6 t0 t1 H K) : ACalls tP zkt [t0, t1] H K :=
 zaw (M := zBR) Try.func86 (c := zBS) (by kernel_rfl) (fun hs => (zNY t0 t1 H K).mpr (h hs))
def zvc (_ : Nat) : List Bool := []
noncomputable def zvd : Code := Try.f103.body.getD .skip
noncomputable def zHo : List ResultVar := Try.f103.results.toList
def zpP (t0 t1 : AV) (H : zaa) (K : Kt) : Prop :=
 zaH t0 H fun t2 H =>
 zae true 3 t2 H fun t4 =>
 zae false 1 t1 H fun t5 =>
 ACalls tP zkt [t4, t5] H fun t6 H =>
 K t6 H
theorem zHm (t0 t1 : AV) (H : zaa) (K : Kt) : awp tP zvc zvd (zal tP zHo K) (t0 :: t1 :: List.replicate 5 .unk) H = zpP t0 t1 H K := by kernel_rfl
theorem zHn {t0 t1 : AV} {H : zaa} {K : Kt} (h : HSc H → zpP t0 t1 H K) : ACalls tP zj8 [t0, t1] H K :=
 zaw (M := zvc) Try.func103 (c := zvd) (by kernel_rfl) (fun hs => (zHm t0 t1 H K).mpr (h hs))
def zii : Nat → List Bool
 | 4 => rl false [3,1,3,1,50]
 | _ => []
noncomputable def zm1 : Code := Try.f78.body.getD .skip
noncomputable def zBk : List ResultVar := Try.f78.results.toList
def zgP (t3 t7 : AV) : List AV := ux 3 (t3 :: ux 3 (t7 :: ux 50 []))
def zBj : List Bool := zii 4
noncomputable def zBh : Code := zap [1, 1, 0, 1, 0, 0] zm1
def zBg (K : Kt) : AExit → List AV → zaa → Prop := zaq tP zii [1, 1, 0, 1, 0] zm1 (zal tP zBk K)
def zBi (t3 t7 : AV) (H : zaa) (K : Kt) : Prop := ALoop tP zBh (zBg K) (zgP t3 t7) H
def zgO (t3 t7 : AV) (H : zaa) (K : Kt) (Kb4 : Lt) : Prop :=
 zaf 2 t3 fun t25 =>
 zae false 1 t25 H fun t26 =>
 zak 1 t26 fun t27 =>
 zad .lss false t7 t27 fun t28 =>
 zag t28
 (zaf 2 t3 fun t31 =>
 zae false 1 t31 H fun t32 =>
 zaj 3 t32 t7 fun t34 =>
 zaf 0 t34 fun t35 =>
 zae false 1 t35 H fun t36 =>
 zad .neq false t36 (.int .i64 4) fun t37 =>
 zab t37 false H (fun K' => zaf 2 t3 (K' · H)) fun t39 H =>
 zab t37 false H (fun K' => zae false 1 t39 H (K' · H)) fun t40 H =>
 zab t37 false H (fun K' => K' t7 H) fun t41 H =>
 zab t37 false H (fun K' => zaj 3 t40 t41 (K' · H)) fun t42 H =>
 zab t37 false H (fun K' => zaf 1 t42 (K' · H)) fun t43 H =>
 zab t37 false H (fun K' => zae false 1 t43 H (K' · H)) fun t44 H =>
 zab t37 false H (fun K' => K' t7 H) fun t45 H =>
 zab t37 false H (fun K' => zad .neq false t44 t45 (K' · H)) fun t46 H =>
 zah t37 (.bool true) t46 fun t47 =>
 zab t47 false H (fun K' => zaf 2 t3 (K' · H)) fun t49 H =>
 zab t47 false H (fun K' => zae false 1 t49 H (K' · H)) fun t50 H =>
 zab t47 false H (fun K' => K' t7 H) fun t51 H =>
 zab t47 false H (fun K' => zaj 3 t50 t51 (K' · H)) fun t52 H =>
 zab t47 false H (fun K' => zaf 2 t52 (K' · H)) fun t53 H =>
 zab t47 false H (fun K' => zae false 1 t53 H (K' · H)) fun t54 H =>
 zab t47 false H (fun K' => zak 1 t54 (K' · H)) fun t55 H =>
 zab t47 false H (fun K' => zad .gtr false t55 (.int .i64 0) (K' · H)) fun t56 H =>
 zah t47 (.bool true) t56 fun t57 =>
 zag t57
 (K (.bool false) H)
 (zad .add false t7 (.int .i64 1) fun t30 =>
 Kb4 (zgP t3 t30) H))
 (K (.bool true) H)
def zrU (t0 t1 t2 : AV) (H : zaa) (K : Kt) : Prop :=
 zaH t0 H fun t3 H =>
 zaf 0 t3 fun t8 =>
 zae false 1 t8 H fun t9 =>
 zad .neq false t9 (.int .i64 5) fun t10 =>
 zab t10 false H (fun K' => zaf 1 t3 (K' · H)) fun t12 H =>
 zab t10 false H (fun K' => zae false 1 t12 H (K' · H)) fun t13 H =>
 zab t10 false H (fun K' => K' t1 H) fun t14 H =>
 zab t10 false H (fun K' => zad .neq false t13 t14 (K' · H)) fun t15 H =>
 zah t10 (.bool true) t15 fun t16 =>
 zab t16 false H (fun K' => zaf 2 t3 (K' · H)) fun t18 H =>
 zab t16 false H (fun K' => zae false 1 t18 H (K' · H)) fun t19 H =>
 zab t16 false H (fun K' => zak 1 t19 (K' · H)) fun t20 H =>
 zab t16 false H (fun K' => K' t2 H) fun t21 H =>
 zab t16 false H (fun K' => zad .neq false t20 t21 (K' · H)) fun t22 H =>
 zah t16 (.bool true) t22 fun t23 =>
 zag t23
 (K (.bool false) H)
 (zBi t3 (.int .i64 0) H K)
theorem zNl (t3 t7 : AV) (H : zaa) (K : Kt) (Kb4 : Lt) : awp tP zii zBh (zat zBj Kb4 (zBg K)) (zgP t3 t7) H = zgO t3 t7 H K Kb4 := by kernel_rfl
theorem zNn {t3 t7 : AV} {H : zaa} {K : Kt} (Inv : Nat → AV → zaa → Prop) (n : Nat) (h0 : HSc H → Inv n t7 H)
  (round : ∀ n t7 H', Inv n t7 H' → HSc H' → H.length ≤ H'.length → (zgP t3 t7).all (AV.sc H'.length) = true → ∀ Kb4 : Lt, (∀ F'' H'', (∃ n', n' < n ∧ Back H.length (fun F2 H2 => ∃ t7, F2 = zgP t3 t7 ∧ Inv n' t7 H2) F'' H'') → Kb4 F'' H'') → zgO t3 t7 H' K Kb4) : zBi t3 t7 H K :=
 zav (M := zii) zBj (fun n F H => ∃ t7, F = zgP t3 t7 ∧ Inv n t7 H) n (fun hs _ => ⟨t7, rfl, h0 hs⟩) (fun n F H' ⟨t7, hF, hI⟩ h1 h2 h3 => by subst hF; rw [zNl]; exact round n t7 H' hI h1 h2 h3 _ (fun _ _ h => h))
theorem zNm (t0 t1 t2 : AV) (H : zaa) (K : Kt) : awp tP zii zm1 (zal tP zBk K) (t0 :: t1 :: t2 :: List.replicate 55 .unk) H = zrU t0 t1 t2 H K := by kernel_rfl
theorem zNo {t0 t1 t2 : AV} {H : zaa} {K : Kt} (h : HSc H → zrU t0 t1 t2 H K) : ACalls tP zoV [t0, t1, t2] H K :=
 zaw (M := zii) Try.func78 (c := zm1) (by kernel_rfl) (fun hs => (zNm t0 t1 t2 H K).mpr (h hs))
end Go.Proofs.Ytkdmpbhbmmhijaa
