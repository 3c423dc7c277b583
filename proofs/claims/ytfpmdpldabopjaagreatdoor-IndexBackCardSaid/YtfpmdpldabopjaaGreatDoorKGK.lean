/- The shallow forms of functions of the program, printed by a program (absgen.py) off the translation, each tied to the model by the kernel. -/
import Derived.Test.YtfpmdpldabopjaaGreatDoorKNum
import Derived.Test.YtfpmdpldabopjaaGreatDoorProg
import Derived.KernelRfl
namespace Go.Proofs.YtfpmdpldabopjaaGreatDoor
open Go Go.Abs
set_option linter.unusedVariables false
set_option maxRecDepth 100000
/-! ### 6: amortcostlaw15.IndexFormats -/
/-! ### 31: amortcostref15.Format -/
/-! ### 66: amortcostref15.format -/
/-! ### 111: index.writeRow -/
def index_writeRow_M : Nat → List Bool
  | 2 => rl false [0,2,1,1,8,3,19]
  | 200006 => rl false [0,1]
  | _ => []
noncomputable def index_writeRow_c : Code := Tryz.f111.body.getD .skip
noncomputable def index_writeRow_r : List ResultVar := Tryz.f111.results.toList
def index_writeRow_fr2 (t0 t1 t3 t12 t13 t14 : AV) : List AV := t0 :: t1 :: ux 1 (t3 :: ux 8 (t12 :: t13 :: t14 :: ux 19 []))
def index_writeRow_m2 : List Bool := index_writeRow_M 2
noncomputable def index_writeRow_c2 : Code := codeAt [1, 0, 1, 0, 0] index_writeRow_c
def index_writeRow_Q2 (K : Kt) : AExit → List AV → Heap → Prop := contAt Tryz.prog index_writeRow_M [1, 0, 1, 0] index_writeRow_c (retQ Tryz.prog index_writeRow_r K)
def index_writeRow_l2 (t0 t1 t3 t12 t13 t14 : AV) (H : Heap) (K : Kt) : Prop := ALoop Tryz.prog index_writeRow_c2 (index_writeRow_Q2 K) (index_writeRow_fr2 t0 t1 t3 t12 t13 t14) H
def index_writeRow_j1 (t0 t1 t3 t8 t9 t12 t13 t14 : AV) (H : Heap) (K : Kt) (Kb2 : Lt) : Prop :=
  aPure H (fun K' => K' t0 H) fun t23 =>
  aPure H (fun K' => K' t1 H) fun t24 =>
  aPure H (fun K' => aLoadC true 3 t9 H (K' · H)) fun t25 =>
  aPure H (fun K' => K' t3 H) fun t26 =>
  aPure H (fun K' => K' t8 H) fun t27 =>
  aPure H (fun K' => aIdxA 2 t26 t27 (K' · H)) fun t28 =>
  aPure H (fun K' => aLoadC true 2 t28 H (K' · H)) fun t29 =>
  aDet .w false H (fun K' => ACalls Tryz.prog n_index_write [t23, t24, t25, t29] H K') fun t30 H =>
  aBin .add false t14 (.int .i64 1) fun t31 =>
  Kb2 (index_writeRow_fr2 t0 t1 t3 t12 t13 t31) H
def index_writeRow_b2 (t0 t1 t3 t12 t13 t14 : AV) (H : Heap) (K : Kt) (Kb2 : Lt) : Prop :=
  aBin .lss false t14 t13 fun t15 =>
  aTest t15
  (aIdxA 3 t12 t14 fun t17 =>
  aLoad true 3 t17 H fun t18 =>
  aNew [(.int .i64 0), (.int .i64 0), .snil] H fun t9 H =>
  aStore 3 t9 t18 H fun H =>
  aBin .gtr false t14 (.int .i64 0) fun t20 =>
  aTest t20
  (ACalls Tryz.prog n_strings_Builder_WriteString [t0, (.str [44, 32])] H fun t22 H =>
  index_writeRow_j1 t0 t1 t3 t14 t9 t12 t13 t14 H K Kb2)
  (index_writeRow_j1 t0 t1 t3 t14 t9 t12 t13 t14 H K Kb2))
  (ACalls Tryz.prog n_strings_Builder_WriteString [t0, (.str [41])] H fun t33 H =>
  aRet [] (K · H))
def index_writeRow (t0 t1 t2 t3 : AV) (H : Heap) (K : Kt) : Prop :=
  ACalls Tryz.prog n_strings_Builder_WriteString [t0, (.str [40])] H fun t11 H =>
  aLen 1 t2 fun t13 =>
  index_writeRow_l2 t0 t1 t3 t2 t13 (.int .i64 0) H K
theorem index_writeRow_b2_eq (t0 t1 t3 t12 t13 t14 : AV) (H : Heap) (K : Kt) (Kb2 : Lt) : awp Tryz.prog index_writeRow_M index_writeRow_c2 (roundQ index_writeRow_m2 Kb2 (index_writeRow_Q2 K)) (index_writeRow_fr2 t0 t1 t3 t12 t13 t14) H = index_writeRow_b2 t0 t1 t3 t12 t13 t14 H K Kb2 := by kernel_rfl
theorem index_writeRow_loop2 {t0 t1 t3 t12 t13 t14 : AV} {H : Heap} {K : Kt} (Inv : Nat → AV → Heap → Prop) (n : Nat) (h0 : HSc H → Inv n t14 H)
    (round : ∀ n t14 H', Inv n t14 H' → HSc H' → H.length ≤ H'.length → (index_writeRow_fr2 t0 t1 t3 t12 t13 t14).all (AV.sc H'.length) = true → ∀ Kb2 : Lt, (∀ F'' H'', (∃ n', n' < n ∧ Back H.length (fun F2 H2 => ∃ t14, F2 = index_writeRow_fr2 t0 t1 t3 t12 t13 t14 ∧ Inv n' t14 H2) F'' H'') → Kb2 F'' H'') → index_writeRow_b2 t0 t1 t3 t12 t13 t14 H' K Kb2) : index_writeRow_l2 t0 t1 t3 t12 t13 t14 H K :=
  aloop (M := index_writeRow_M) index_writeRow_m2 (fun n F H => ∃ t14, F = index_writeRow_fr2 t0 t1 t3 t12 t13 t14 ∧ Inv n t14 H) n (fun hs _ => ⟨t14, rfl, h0 hs⟩) (fun n F H' ⟨t14, hF, hI⟩ h1 h2 h3 => by subst hF; rw [index_writeRow_b2_eq]; exact round n t14 H' hI h1 h2 h3 _ (fun _ _ h => h))
theorem index_writeRow_eq (t0 t1 t2 t3 : AV) (H : Heap) (K : Kt) : awp Tryz.prog index_writeRow_M index_writeRow_c (retQ Tryz.prog index_writeRow_r K) (t0 :: t1 :: t2 :: t3 :: List.replicate 30 .unk) H = index_writeRow t0 t1 t2 t3 H K := by kernel_rfl
theorem index_writeRow_ok {t0 t1 t2 t3 : AV} {H : Heap} {K : Kt} (h : HSc H → index_writeRow t0 t1 t2 t3 H K) : ACalls Tryz.prog n_index_writeRow [t0, t1, t2, t3] H K :=
  acalls_body (M := index_writeRow_M) Tryz.func111 (c := index_writeRow_c) (by kernel_rfl) (fun hs => (index_writeRow_eq t0 t1 t2 t3 H K).mpr (h hs))
/-! ### 113: amortcostref15.list -/
/-! ### 114: amortcostref15.number -/
end Go.Proofs.YtfpmdpldabopjaaGreatDoor
