/- The shallow forms of functions of the program, printed by a program (absgen.py) off the translation, each tied to the model by the kernel. -/
import Derived.Test.YtfpmdpldabopjaaGreatDoorKNum
import Derived.Test.YtfpmdpldabopjaaGreatDoorProg
import Derived.KernelRfl
namespace Go.Proofs.YtfpmdpldabopjaaGreatDoor
open Go Go.Abs
set_option linter.unusedVariables false
set_option maxRecDepth 100000
/-! ### 9: amortcostlaw15.IndexBack -/
/-! ### 35: index.Parse -/
/-! ### 37: amortcostkeep.SameIndex -/
/-! ### 43: amortcostkeep.SameIndices -/
def keep_SameIndices_M : Nat → List Bool
  | 4 => rl false [0,2,10,2,13]
  | _ => []
noncomputable def keep_SameIndices_c : Code := Tryz.f43.body.getD .skip
noncomputable def keep_SameIndices_r : List ResultVar := Tryz.f43.results.toList
def keep_SameIndices_fr4 (t0 t1 t12 t13 : AV) : List AV := t0 :: t1 :: ux 10 (t12 :: t13 :: ux 13 [])
def keep_SameIndices_m4 : List Bool := keep_SameIndices_M 4
noncomputable def keep_SameIndices_c4 : Code := codeAt [1, 1, 0, 1, 0, 0] keep_SameIndices_c
def keep_SameIndices_Q4 (K : Kt) : AExit → List AV → Heap → Prop := contAt Tryz.prog keep_SameIndices_M [1, 1, 0, 1, 0] keep_SameIndices_c (retQ Tryz.prog keep_SameIndices_r K)
def keep_SameIndices_l4 (t0 t1 t12 t13 : AV) (H : Heap) (K : Kt) : Prop := ALoop Tryz.prog keep_SameIndices_c4 (keep_SameIndices_Q4 K) (keep_SameIndices_fr4 t0 t1 t12 t13) H
def keep_SameIndices_b4 (t0 t1 t12 t13 : AV) (H : Heap) (K : Kt) (Kb4 : Lt) : Prop :=
  aBin .lss false t13 t12 fun t14 =>
  aTest t14
  (aPure H (fun K' => K' t0 H) fun t16 =>
  aPure H (fun K' => K' t13 H) fun t17 =>
  aPure H (fun K' => aIdxA 2 t16 t17 (K' · H)) fun t18 =>
  aPure H (fun K' => aLoadC true 2 t18 H (K' · H)) fun t19 =>
  aPure H (fun K' => K' t1 H) fun t20 =>
  aPure H (fun K' => K' t13 H) fun t21 =>
  aPure H (fun K' => aIdxA 2 t20 t21 (K' · H)) fun t22 =>
  aPure H (fun K' => aLoadC true 2 t22 H (K' · H)) fun t23 =>
  aPureX H (fun H K' => ACalls Tryz.prog n_keep_SameIndex [t19, t23] H K') fun t24 =>
  aPure H (fun K' => aUn .not t24 (K' · H)) fun t25 =>
  aTest t25
  (K (.bool false) H)
  (aBin .add false t13 (.int .i64 1) fun t26 =>
  Kb4 (keep_SameIndices_fr4 t0 t1 t12 t26) H))
  (K (.bool true) H)
def keep_SameIndices (t0 t1 : AV) (H : Heap) (K : Kt) : Prop :=
  aLen 1 t0 fun t7 =>
  aLen 1 t1 fun t9 =>
  aBin .neq false t7 t9 fun t10 =>
  aTest t10
  (K (.bool false) H)
  (aLen 1 t0 fun t12 =>
  keep_SameIndices_l4 t0 t1 t12 (.int .i64 0) H K)
theorem keep_SameIndices_b4_eq (t0 t1 t12 t13 : AV) (H : Heap) (K : Kt) (Kb4 : Lt) : awp Tryz.prog keep_SameIndices_M keep_SameIndices_c4 (roundQ keep_SameIndices_m4 Kb4 (keep_SameIndices_Q4 K)) (keep_SameIndices_fr4 t0 t1 t12 t13) H = keep_SameIndices_b4 t0 t1 t12 t13 H K Kb4 := by kernel_rfl
theorem keep_SameIndices_loop4 {t0 t1 t12 t13 : AV} {H : Heap} {K : Kt} (Inv : Nat → AV → Heap → Prop) (n : Nat) (h0 : HSc H → Inv n t13 H)
    (round : ∀ n t13 H', Inv n t13 H' → HSc H' → H.length ≤ H'.length → (keep_SameIndices_fr4 t0 t1 t12 t13).all (AV.sc H'.length) = true → ∀ Kb4 : Lt, (∀ F'' H'', (∃ n', n' < n ∧ Back H.length (fun F2 H2 => ∃ t13, F2 = keep_SameIndices_fr4 t0 t1 t12 t13 ∧ Inv n' t13 H2) F'' H'') → Kb4 F'' H'') → keep_SameIndices_b4 t0 t1 t12 t13 H' K Kb4) : keep_SameIndices_l4 t0 t1 t12 t13 H K :=
  aloop (M := keep_SameIndices_M) keep_SameIndices_m4 (fun n F H => ∃ t13, F = keep_SameIndices_fr4 t0 t1 t12 t13 ∧ Inv n t13 H) n (fun hs _ => ⟨t13, rfl, h0 hs⟩) (fun n F H' ⟨t13, hF, hI⟩ h1 h2 h3 => by subst hF; rw [keep_SameIndices_b4_eq]; exact round n t13 H' hI h1 h2 h3 _ (fun _ _ h => h))
theorem keep_SameIndices_eq (t0 t1 : AV) (H : Heap) (K : Kt) : awp Tryz.prog keep_SameIndices_M keep_SameIndices_c (retQ Tryz.prog keep_SameIndices_r K) (t0 :: t1 :: List.replicate 25 .unk) H = keep_SameIndices t0 t1 H K := by kernel_rfl
theorem keep_SameIndices_ok {t0 t1 : AV} {H : Heap} {K : Kt} (h : HSc H → keep_SameIndices t0 t1 H K) : ACalls Tryz.prog n_keep_SameIndices [t0, t1] H K :=
  acalls_body (M := keep_SameIndices_M) Tryz.func43 (c := keep_SameIndices_c) (by kernel_rfl) (fun hs => (keep_SameIndices_eq t0 t1 H K).mpr (h hs))
/-! ### 71: (*index.reader).index -/
/-! ### 115: (*index.reader).row -/
/-! ### 117: (*index.reader).word -/
/-! ### 118: index.digit -/
/-! ### 119: (*index.reader).need -/
/-! ### 120: (*index.reader).take -/
/-! ### 121: (*index.reader).element -/
/-! ### 170: strings.CutPrefix -/
def strings_CutPrefix_M (_ : Nat) : List Bool := []
noncomputable def strings_CutPrefix_c : Code := Tryz.f170.body.getD .skip
noncomputable def strings_CutPrefix_r : List ResultVar := Tryz.f170.results.toList
def strings_CutPrefix (t0 t1 : AV) (H : Heap) (K : Kt) : Prop :=
  ACalls Tryz.prog n_internal_stringslite_CutPrefix [t0, t1] H fun t8 H =>
  aExt t8 0 fun t9 =>
  aExt t8 1 fun t10 =>
  aRet [t9, t10] (K · H)
theorem strings_CutPrefix_eq (t0 t1 : AV) (H : Heap) (K : Kt) : awp Tryz.prog strings_CutPrefix_M strings_CutPrefix_c (retQ Tryz.prog strings_CutPrefix_r K) (t0 :: t1 :: List.replicate 9 .unk) H = strings_CutPrefix t0 t1 H K := by kernel_rfl
theorem strings_CutPrefix_ok {t0 t1 : AV} {H : Heap} {K : Kt} (h : HSc H → strings_CutPrefix t0 t1 H K) : ACalls Tryz.prog n_strings_CutPrefix [t0, t1] H K :=
  acalls_body (M := strings_CutPrefix_M) Tryz.func170 (c := strings_CutPrefix_c) (by kernel_rfl) (fun hs => (strings_CutPrefix_eq t0 t1 H K).mpr (h hs))
end Go.Proofs.YtfpmdpldabopjaaGreatDoor
namespace Go.Proofs.YtfpmdpldabopjaaGreatDoor
open Go Go.Abs
set_option linter.unusedVariables false
set_option maxRecDepth 100000
/-! ### 171: index.letter -/
/-! ### 216: internal/stringslite.CutPrefix -/
def internal_stringslite_CutPrefix_M (_ : Nat) : List Bool := []
noncomputable def internal_stringslite_CutPrefix_c : Code := Tryz.f216.body.getD .skip
noncomputable def internal_stringslite_CutPrefix_r : List ResultVar := Tryz.f216.results.toList
def internal_stringslite_CutPrefix (t0 t1 : AV) (H : Heap) (K : Kt) : Prop :=
  ACalls Tryz.prog n_internal_stringslite_HasPrefix [t0, t1] H fun t8 H =>
  aUn .not t8 fun t9 =>
  aTest t9
  (aRet [t0, (.bool false)] (K · H))
  (aLen 0 t1 fun t13 =>
  aSlice 0 0 t0 (some t13) none fun t14 =>
  aRet [t14, (.bool true)] (K · H))
theorem internal_stringslite_CutPrefix_eq (t0 t1 : AV) (H : Heap) (K : Kt) : awp Tryz.prog internal_stringslite_CutPrefix_M internal_stringslite_CutPrefix_c (retQ Tryz.prog internal_stringslite_CutPrefix_r K) (t0 :: t1 :: List.replicate 13 .unk) H = internal_stringslite_CutPrefix t0 t1 H K := by kernel_rfl
theorem internal_stringslite_CutPrefix_ok {t0 t1 : AV} {H : Heap} {K : Kt} (h : HSc H → internal_stringslite_CutPrefix t0 t1 H K) : ACalls Tryz.prog n_internal_stringslite_CutPrefix [t0, t1] H K :=
  acalls_body (M := internal_stringslite_CutPrefix_M) Tryz.func216 (c := internal_stringslite_CutPrefix_c) (by kernel_rfl) (fun hs => (internal_stringslite_CutPrefix_eq t0 t1 H K).mpr (h hs))
/-! ### 243: internal/stringslite.HasPrefix -/
def internal_stringslite_HasPrefix_M (_ : Nat) : List Bool := []
noncomputable def internal_stringslite_HasPrefix_c : Code := Tryz.f243.body.getD .skip
noncomputable def internal_stringslite_HasPrefix_r : List ResultVar := Tryz.f243.results.toList
def internal_stringslite_HasPrefix (t0 t1 : AV) (H : Heap) (K : Kt) : Prop :=
  aLen 0 t0 fun t6 =>
  aLen 0 t1 fun t8 =>
  aBin .geq false t6 t8 fun t9 =>
  aGuardJ t9 true H (fun K' => K' t0 H) fun t11 H =>
  aGuardJ t9 true H (fun K' => K' t1 H) fun t12 H =>
  aGuardJ t9 true H (fun K' => aLen 0 t12 (K' · H)) fun t13 H =>
  aGuardJ t9 true H (fun K' => aSlice 0 0 t11 none (some t13) (K' · H)) fun t14 H =>
  aGuardJ t9 true H (fun K' => K' t1 H) fun t15 H =>
  aGuardJ t9 true H (fun K' => aBin .eql false t14 t15 (K' · H)) fun t16 H =>
  aPick t9 t16 (.bool false) fun t17 =>
  K t17 H
theorem internal_stringslite_HasPrefix_eq (t0 t1 : AV) (H : Heap) (K : Kt) : awp Tryz.prog internal_stringslite_HasPrefix_M internal_stringslite_HasPrefix_c (retQ Tryz.prog internal_stringslite_HasPrefix_r K) (t0 :: t1 :: List.replicate 16 .unk) H = internal_stringslite_HasPrefix t0 t1 H K := by kernel_rfl
theorem internal_stringslite_HasPrefix_ok {t0 t1 : AV} {H : Heap} {K : Kt} (h : HSc H → internal_stringslite_HasPrefix t0 t1 H K) : ACalls Tryz.prog n_internal_stringslite_HasPrefix [t0, t1] H K :=
  acalls_body (M := internal_stringslite_HasPrefix_M) Tryz.func243 (c := internal_stringslite_HasPrefix_c) (by kernel_rfl) (fun hs => (internal_stringslite_HasPrefix_eq t0 t1 H K).mpr (h hs))
end Go.Proofs.YtfpmdpldabopjaaGreatDoor
