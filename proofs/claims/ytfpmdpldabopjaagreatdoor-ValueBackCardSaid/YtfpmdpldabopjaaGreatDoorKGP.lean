/- The shallow forms of functions of the program, printed by a program (absgen.py) off the translation, each tied to the model by the kernel. -/
import Derived.Test.YtfpmdpldabopjaaGreatDoorKNum
import Derived.Test.YtfpmdpldabopjaaGreatDoorProg
import Derived.KernelRfl
namespace Go.Proofs.YtfpmdpldabopjaaGreatDoor
open Go Go.Abs
set_option linter.unusedVariables false
set_option maxRecDepth 100000
/-! ### 7: amortcostlaw10.ValueNodes -/
/-! ### 32: value.Preorder -/
/-! ### 34: amortcostkeep.SameValues -/
def keep_SameValues_M : Nat → List Bool
  | 4 => rl false [0,2,10,2,13]
  | _ => []
noncomputable def keep_SameValues_c : Code := Tryz.f34.body.getD .skip
noncomputable def keep_SameValues_r : List ResultVar := Tryz.f34.results.toList
def keep_SameValues_fr4 (t0 t1 t12 t13 : AV) : List AV := t0 :: t1 :: ux 10 (t12 :: t13 :: ux 13 [])
def keep_SameValues_m4 : List Bool := keep_SameValues_M 4
noncomputable def keep_SameValues_c4 : Code := codeAt [1, 1, 0, 1, 0, 0] keep_SameValues_c
def keep_SameValues_Q4 (K : Kt) : AExit → List AV → Heap → Prop := contAt Tryz.prog keep_SameValues_M [1, 1, 0, 1, 0] keep_SameValues_c (retQ Tryz.prog keep_SameValues_r K)
def keep_SameValues_l4 (t0 t1 t12 t13 : AV) (H : Heap) (K : Kt) : Prop := ALoop Tryz.prog keep_SameValues_c4 (keep_SameValues_Q4 K) (keep_SameValues_fr4 t0 t1 t12 t13) H
def keep_SameValues_b4 (t0 t1 t12 t13 : AV) (H : Heap) (K : Kt) (Kb4 : Lt) : Prop :=
  aBin .lss false t13 t12 fun t14 =>
  aTest t14
  (aPure H (fun K' => K' t0 H) fun t16 =>
  aPure H (fun K' => K' t13 H) fun t17 =>
  aPure H (fun K' => aIdxA 3 t16 t17 (K' · H)) fun t18 =>
  aPure H (fun K' => aLoadC true 3 t18 H (K' · H)) fun t19 =>
  aPure H (fun K' => K' t1 H) fun t20 =>
  aPure H (fun K' => K' t13 H) fun t21 =>
  aPure H (fun K' => aIdxA 3 t20 t21 (K' · H)) fun t22 =>
  aPure H (fun K' => aLoadC true 3 t22 H (K' · H)) fun t23 =>
  aPureX H (fun H K' => ACalls Tryz.prog n_keep_SameValue [t19, t23] H K') fun t24 =>
  aPure H (fun K' => aUn .not t24 (K' · H)) fun t25 =>
  aTest t25
  (K (.bool false) H)
  (aBin .add false t13 (.int .i64 1) fun t26 =>
  Kb4 (keep_SameValues_fr4 t0 t1 t12 t26) H))
  (K (.bool true) H)
def keep_SameValues (t0 t1 : AV) (H : Heap) (K : Kt) : Prop :=
  aLen 1 t0 fun t7 =>
  aLen 1 t1 fun t9 =>
  aBin .neq false t7 t9 fun t10 =>
  aTest t10
  (K (.bool false) H)
  (aLen 1 t0 fun t12 =>
  keep_SameValues_l4 t0 t1 t12 (.int .i64 0) H K)
theorem keep_SameValues_b4_eq (t0 t1 t12 t13 : AV) (H : Heap) (K : Kt) (Kb4 : Lt) : awp Tryz.prog keep_SameValues_M keep_SameValues_c4 (roundQ keep_SameValues_m4 Kb4 (keep_SameValues_Q4 K)) (keep_SameValues_fr4 t0 t1 t12 t13) H = keep_SameValues_b4 t0 t1 t12 t13 H K Kb4 := by kernel_rfl
theorem keep_SameValues_loop4 {t0 t1 t12 t13 : AV} {H : Heap} {K : Kt} (Inv : Nat → AV → Heap → Prop) (n : Nat) (h0 : HSc H → Inv n t13 H)
    (round : ∀ n t13 H', Inv n t13 H' → HSc H' → H.length ≤ H'.length → (keep_SameValues_fr4 t0 t1 t12 t13).all (AV.sc H'.length) = true → ∀ Kb4 : Lt, (∀ F'' H'', (∃ n', n' < n ∧ Back H.length (fun F2 H2 => ∃ t13, F2 = keep_SameValues_fr4 t0 t1 t12 t13 ∧ Inv n' t13 H2) F'' H'') → Kb4 F'' H'') → keep_SameValues_b4 t0 t1 t12 t13 H' K Kb4) : keep_SameValues_l4 t0 t1 t12 t13 H K :=
  aloop (M := keep_SameValues_M) keep_SameValues_m4 (fun n F H => ∃ t13, F = keep_SameValues_fr4 t0 t1 t12 t13 ∧ Inv n t13 H) n (fun hs _ => ⟨t13, rfl, h0 hs⟩) (fun n F H' ⟨t13, hF, hI⟩ h1 h2 h3 => by subst hF; rw [keep_SameValues_b4_eq]; exact round n t13 H' hI h1 h2 h3 _ (fun _ _ h => h))
theorem keep_SameValues_eq (t0 t1 : AV) (H : Heap) (K : Kt) : awp Tryz.prog keep_SameValues_M keep_SameValues_c (retQ Tryz.prog keep_SameValues_r K) (t0 :: t1 :: List.replicate 25 .unk) H = keep_SameValues t0 t1 H K := by kernel_rfl
theorem keep_SameValues_ok {t0 t1 : AV} {H : Heap} {K : Kt} (h : HSc H → keep_SameValues t0 t1 H K) : ACalls Tryz.prog n_keep_SameValues [t0, t1] H K :=
  acalls_body (M := keep_SameValues_M) Tryz.func34 (c := keep_SameValues_c) (by kernel_rfl) (fun hs => (keep_SameValues_eq t0 t1 H K).mpr (h hs))
/-! ### 40: amortcostkeep.SameValue -/
def keep_SameValue_M (_ : Nat) : List Bool := []
noncomputable def keep_SameValue_c : Code := Tryz.f40.body.getD .skip
noncomputable def keep_SameValue_r : List ResultVar := Tryz.f40.results.toList
def keep_SameValue (t0 t1 : AV) (H : Heap) (K : Kt) : Prop :=
  aBox t0 H fun t2 H =>
  aBox t1 H fun t3 H =>
  aFld 0 t2 fun t5 =>
  aLoad false 1 t5 H fun t6 =>
  aFld 0 t3 fun t7 =>
  aLoad false 1 t7 H fun t8 =>
  aBin .eql false t6 t8 fun t9 =>
  aGuardJ t9 true H (fun K' => aFld 1 t2 (K' · H)) fun t11 H =>
  aGuardJ t9 true H (fun K' => aLoad false 1 t11 H (K' · H)) fun t12 H =>
  aGuardJ t9 true H (fun K' => aFld 1 t3 (K' · H)) fun t13 H =>
  aGuardJ t9 true H (fun K' => aLoad false 1 t13 H (K' · H)) fun t14 H =>
  aGuardJ t9 true H (fun K' => aBin .eql false t12 t14 (K' · H)) fun t15 H =>
  aPick t9 t15 (.bool false) fun t16 =>
  aGuardJ t16 true H (fun K' => aFld 2 t2 (K' · H)) fun t18 H =>
  aGuardJ t16 true H (fun K' => aLoad false 1 t18 H (K' · H)) fun t19 H =>
  aGuardJ t16 true H (fun K' => aFld 2 t3 (K' · H)) fun t20 H =>
  aGuardJ t16 true H (fun K' => aLoad false 1 t20 H (K' · H)) fun t21 H =>
  aGuardJ t16 true H (fun K' => ACalls Tryz.prog n_keep_SameValues [t19, t21] H K') fun t22 H =>
  aPick t16 t22 (.bool false) fun t23 =>
  K t23 H
theorem keep_SameValue_eq (t0 t1 : AV) (H : Heap) (K : Kt) : awp Tryz.prog keep_SameValue_M keep_SameValue_c (retQ Tryz.prog keep_SameValue_r K) (t0 :: t1 :: List.replicate 22 .unk) H = keep_SameValue t0 t1 H K := by kernel_rfl
theorem keep_SameValue_ok {t0 t1 : AV} {H : Heap} {K : Kt} (h : HSc H → keep_SameValue t0 t1 H K) : ACalls Tryz.prog n_keep_SameValue [t0, t1] H K :=
  acalls_body (M := keep_SameValue_M) Tryz.func40 (c := keep_SameValue_c) (by kernel_rfl) (fun hs => (keep_SameValue_eq t0 t1 H K).mpr (h hs))
/-! ### 68: value.Preorder$1 -/
/-! ### 69: value.copied -/
end Go.Proofs.YtfpmdpldabopjaaGreatDoor
