/- The shallow forms of functions of the program, printed by a program (absgen.py) off the translation, each tied to the model by the kernel. -/
import Derived.Test.YtfpmdpldabopjaaGreatDoorKNum
import Derived.Test.YtfpmdpldabopjaaGreatDoorProg
import Derived.KernelRfl
namespace Go.Proofs.YtfpmdpldabopjaaGreatDoor
open Go Go.Abs
set_option linter.unusedVariables false
set_option maxRecDepth 100000
/-! ### 6: amortcostlaw15.IndexFormats -/
def law15_IndexFormats_M (_ : Nat) : List Bool := []
noncomputable def law15_IndexFormats_c : Code := Tryz.f6.body.getD .skip
noncomputable def law15_IndexFormats_r : List ResultVar := Tryz.f6.results.toList
def law15_IndexFormats (t0 t1 t2 : AV) (H : Heap) (K : Kt) : Prop :=
  aBox t1 H fun t4 H =>
  aBox t2 H fun t5 H =>
  aLoad true 3 t4 H fun t8 =>
  ACalls Tryz.prog n_law15_small [t0, t8] H fun t9 H =>
  aUn .not t9 fun t10 =>
  aGuardJ t10 false H (fun K' => aLoad true 2 t5 H (K' · H)) fun t12 H =>
  aGuardJ t10 false H (fun K' => ACalls Tryz.prog n_keep_Index [t12] H K') fun t13 H =>
  aGuardJ t10 false H (fun K' => aUn .not t13 (K' · H)) fun t14 H =>
  aPick t10 (.bool true) t14 fun t15 =>
  aTest t15
  (K (.bool true) H)
  (aPure H (fun K' => K' t0 H) fun t16 =>
  aPure H (fun K' => aLoadC true 3 t4 H (K' · H)) fun t17 =>
  aPure H (fun K' => aLoadC true 2 t5 H (K' · H)) fun t18 =>
  aPureX H (fun H K' => ACalls Tryz.prog n_index_Format [t16, t17, t18] H K') fun t19 =>
  aPure H (fun K' => K' t0 H) fun t20 =>
  aPure H (fun K' => aLoadC true 3 t4 H (K' · H)) fun t21 =>
  aPure H (fun K' => aLoadC true 2 t5 H (K' · H)) fun t22 =>
  aPureX H (fun H K' => ACalls Tryz.prog n_ref15_Format [t20, t21, t22] H K') fun t23 =>
  aPure H (fun K' => aBin .eql false t19 t23 (K' · H)) fun t24 =>
  aPure H (fun K' => K' t24 H) fun t25 =>
  aGuardJ t25 true H (fun K' => aPureX H (fun H K'' => ACalls Tryz.prog n_law15_awake [] H K'') (K' · H)) fun t26 H =>
  aPure H (fun K' => aPick t25 t26 (.bool false) (K' · H)) fun t27 =>
  aPure H (fun K' => K' t27 H) fun t6 =>
  K t6 H)
theorem law15_IndexFormats_eq (t0 t1 t2 : AV) (H : Heap) (K : Kt) : awp Tryz.prog law15_IndexFormats_M law15_IndexFormats_c (retQ Tryz.prog law15_IndexFormats_r K) (t0 :: t1 :: t2 :: List.replicate 25 .unk) H = law15_IndexFormats t0 t1 t2 H K := by kernel_rfl
theorem law15_IndexFormats_ok {t0 t1 t2 : AV} {H : Heap} {K : Kt} (h : HSc H → law15_IndexFormats t0 t1 t2 H K) : ACalls Tryz.prog n_law15_IndexFormats [t0, t1, t2] H K :=
  acalls_body (M := law15_IndexFormats_M) Tryz.func6 (c := law15_IndexFormats_c) (by kernel_rfl) (fun hs => (law15_IndexFormats_eq t0 t1 t2 H K).mpr (h hs))
/-! ### 31: amortcostref15.Format -/
def ref15_Format_M (_ : Nat) : List Bool := []
noncomputable def ref15_Format_c : Code := Tryz.f31.body.getD .skip
noncomputable def ref15_Format_r : List ResultVar := Tryz.f31.results.toList
def ref15_Format (t0 t1 t2 : AV) (H : Heap) (K : Kt) : Prop :=
  aBox t1 H fun t4 H =>
  aBox t2 H fun t5 H =>
  aLoad true 3 t4 H fun t8 =>
  aLoad true 2 t5 H fun t9 =>
  ACalls Tryz.prog n_ref15_Valid [t0, t8, t9] H fun t10 H =>
  aUn .not t10 fun t11 =>
  aTest t11
  (K (.str []) H)
  (aLoad true 3 t4 H fun t13 =>
  aLoad true 2 t5 H fun t14 =>
  ACalls Tryz.prog n_ref15_format [t0, t13, t14] H fun t15 H =>
  K t15 H)
theorem ref15_Format_eq (t0 t1 t2 : AV) (H : Heap) (K : Kt) : awp Tryz.prog ref15_Format_M ref15_Format_c (retQ Tryz.prog ref15_Format_r K) (t0 :: t1 :: t2 :: List.replicate 13 .unk) H = ref15_Format t0 t1 t2 H K := by kernel_rfl
theorem ref15_Format_ok {t0 t1 t2 : AV} {H : Heap} {K : Kt} (h : HSc H → ref15_Format t0 t1 t2 H K) : ACalls Tryz.prog n_ref15_Format [t0, t1, t2] H K :=
  acalls_body (M := ref15_Format_M) Tryz.func31 (c := ref15_Format_c) (by kernel_rfl) (fun hs => (ref15_Format_eq t0 t1 t2 H K).mpr (h hs))
/-! ### 66: amortcostref15.format -/
def ref15_format_M : Nat → List Bool
  | 9 => rl false [0,1,3,1,2,1,24,3,46]
  | _ => []
noncomputable def ref15_format_c : Code := Tryz.f66.body.getD .skip
noncomputable def ref15_format_r : List ResultVar := Tryz.f66.results.toList
def ref15_format_fr9 (t0 t4 t7 t32 t33 t34 : AV) : List AV := t0 :: ux 3 (t4 :: ux 2 (t7 :: ux 24 (t32 :: t33 :: t34 :: ux 46 [])))
def ref15_format_m9 : List Bool := ref15_format_M 9
noncomputable def ref15_format_c9 : Code := codeAt [1, 0, 1, 0, 1, 1, 1, 1, 1, 0, 1, 0, 1, 0, 0] ref15_format_c
def ref15_format_Q9 (K : Kt) : AExit → List AV → Heap → Prop := contAt Tryz.prog ref15_format_M [1, 0, 1, 0, 1, 1, 1, 1, 1, 0, 1, 0, 1, 0] ref15_format_c (retQ Tryz.prog ref15_format_r K)
def ref15_format_l9 (t0 t4 t7 t32 t33 t34 : AV) (H : Heap) (K : Kt) : Prop := ALoop Tryz.prog ref15_format_c9 (ref15_format_Q9 K) (ref15_format_fr9 t0 t4 t7 t32 t33 t34) H
def ref15_format_j3 (t0 t4 t7 t32 t33 t34 : AV) (H : Heap) (K : Kt) (Kb9 : Lt) : Prop :=
  aBin .add false t34 (.int .i64 1) fun t77 =>
  Kb9 (ref15_format_fr9 t0 t4 t7 t32 t33 t77) H
def ref15_format_j2 (t0 t4 t7 t32 t33 t34 : AV) (H : Heap) (K : Kt) (Kb9 : Lt) : Prop :=
  ref15_format_j3 t0 t4 t7 t32 t33 t34 H K Kb9
def ref15_format_j1 (t0 t4 t7 t9 t32 t33 t34 : AV) (H : Heap) (K : Kt) (Kb9 : Lt) : Prop :=
  aPure H (fun K' => K' t7 H) fun t43 =>
  aPure H (fun K' => K' t0 H) fun t44 =>
  aPure H (fun K' => aFld 1 t4 (K' · H)) fun t45 =>
  aPure H (fun K' => aLoadC false 1 t45 H (K' · H)) fun t46 =>
  aPure H (fun K' => aIdxA 3 t44 t46 (K' · H)) fun t47 =>
  aPure H (fun K' => aFld 2 t47 (K' · H)) fun t48 =>
  aPure H (fun K' => aLoadC false 1 t48 H (K' · H)) fun t49 =>
  aPure H (fun K' => aFld 0 t9 (K' · H)) fun t50 =>
  aPure H (fun K' => aLoadC false 1 t50 H (K' · H)) fun t51 =>
  aPure H (fun K' => aIdxA 2 t49 t51 (K' · H)) fun t52 =>
  aPure H (fun K' => aFld 0 t52 (K' · H)) fun t53 =>
  aPure H (fun K' => aLoadC false 1 t53 H (K' · H)) fun t54 =>
  aPure H (fun K' => aBin .add false t43 t54 (K' · H)) fun t55 =>
  aPure H (fun K' => K' t55 H) fun t7 =>
  aFld 1 t9 fun t56 =>
  aLoad false 1 t56 H fun t57 =>
  aLen 1 t57 fun t58 =>
  aBin .gtr false t58 (.int .i64 0) fun t59 =>
  aTest t59
  (aLoad true 3 t4 H fun t62 =>
  aFld 0 t9 fun t63 =>
  aLoad false 1 t63 H fun t64 =>
  ACalls Tryz.prog n_ref15_PayloadTypes [t0, t62, t64] H fun t65 H =>
  aExt t65 0 fun t66 =>
  aExt t65 1 fun t67 =>
  aFld 1 t9 fun t71 =>
  aLoad false 1 t71 H fun t72 =>
  ACalls Tryz.prog n_ref15_list [t0, t66, t72] H fun t73 H =>
  aBin .add false (.str [40]) t73 fun t74 =>
  aBin .add false t74 (.str [41]) fun t75 =>
  aBin .add false t7 t75 fun t76 =>
  ref15_format_j2 t0 t4 t76 t32 t33 t34 H K Kb9)
  (ref15_format_j2 t0 t4 t7 t32 t33 t34 H K Kb9)
def ref15_format_b9 (t0 t4 t7 t32 t33 t34 : AV) (H : Heap) (K : Kt) (Kb9 : Lt) : Prop :=
  aBin .lss false t34 t33 fun t35 =>
  aTest t35
  (aIdxA 2 t32 t34 fun t37 =>
  aLoad true 2 t37 H fun t38 =>
  aNew [(.int .i64 0), .snil] H fun t9 H =>
  aStore 2 t9 t38 H fun H =>
  aBin .gtr false t34 (.int .i64 0) fun t40 =>
  aTest t40
  (aBin .add false t7 (.str [44, 32]) fun t42 =>
  ref15_format_j1 t0 t4 t42 t9 t32 t33 t34 H K Kb9)
  (ref15_format_j1 t0 t4 t7 t9 t32 t33 t34 H K Kb9))
  (aBin .add false (.str [91]) t7 fun t79 =>
  aBin .add false t79 (.str [93]) fun t80 =>
  K t80 H)
def ref15_format (t0 t1 t2 : AV) (H : Heap) (K : Kt) : Prop :=
  aBox t1 H fun t4 H =>
  aBox t2 H fun t5 H =>
  aFld 0 t4 fun t12 =>
  aLoad false 1 t12 H fun t13 =>
  aBin .eql false t13 (.int .i64 6) fun t15 =>
  aTest t15
  (aFld 2 t4 fun t17 =>
  aLoad false 1 t17 H fun t18 =>
  aFld 1 t5 fun t19 =>
  aLoad false 1 t19 H fun t20 =>
  ACalls Tryz.prog n_ref15_list [t0, t18, t20] H fun t21 H =>
  aBin .add false (.str [40]) t21 fun t22 =>
  aBin .add false t22 (.str [41]) fun t23 =>
  K t23 H)
  (aBin .eql false t13 (.int .i64 7) fun t25 =>
  aTest t25
  (aFld 0 t5 fun t26 =>
  aLoad false 1 t26 H fun t27 =>
  ACalls Tryz.prog n_ref15_number [t27] H fun t28 H =>
  K t28 H)
  (aBin .eql false t13 (.int .i64 5) fun t30 =>
  aTest t30
  (aFld 1 t5 fun t31 =>
  aLoad false 1 t31 H fun t32 =>
  aLen 1 t32 fun t33 =>
  ref15_format_l9 t0 t4 (.str []) t32 t33 (.int .i64 0) H K)
  (K (.str [42]) H)))
theorem ref15_format_b9_eq (t0 t4 t7 t32 t33 t34 : AV) (H : Heap) (K : Kt) (Kb9 : Lt) : awp Tryz.prog ref15_format_M ref15_format_c9 (roundQ ref15_format_m9 Kb9 (ref15_format_Q9 K)) (ref15_format_fr9 t0 t4 t7 t32 t33 t34) H = ref15_format_b9 t0 t4 t7 t32 t33 t34 H K Kb9 := by kernel_rfl
theorem ref15_format_loop9 {t0 t4 t7 t32 t33 t34 : AV} {H : Heap} {K : Kt} (Inv : Nat → AV → AV → Heap → Prop) (n : Nat) (h0 : HSc H → Inv n t7 t34 H)
    (round : ∀ n t7 t34 H', Inv n t7 t34 H' → HSc H' → H.length ≤ H'.length → (ref15_format_fr9 t0 t4 t7 t32 t33 t34).all (AV.sc H'.length) = true → ∀ Kb9 : Lt, (∀ F'' H'', (∃ n', n' < n ∧ Back H.length (fun F2 H2 => ∃ t7 t34, F2 = ref15_format_fr9 t0 t4 t7 t32 t33 t34 ∧ Inv n' t7 t34 H2) F'' H'') → Kb9 F'' H'') → ref15_format_b9 t0 t4 t7 t32 t33 t34 H' K Kb9) : ref15_format_l9 t0 t4 t7 t32 t33 t34 H K :=
  aloop (M := ref15_format_M) ref15_format_m9 (fun n F H => ∃ t7 t34, F = ref15_format_fr9 t0 t4 t7 t32 t33 t34 ∧ Inv n t7 t34 H) n (fun hs _ => ⟨t7, t34, rfl, h0 hs⟩) (fun n F H' ⟨t7, t34, hF, hI⟩ h1 h2 h3 => by subst hF; rw [ref15_format_b9_eq]; exact round n t7 t34 H' hI h1 h2 h3 _ (fun _ _ h => h))
theorem ref15_format_eq (t0 t1 t2 : AV) (H : Heap) (K : Kt) : awp Tryz.prog ref15_format_M ref15_format_c (retQ Tryz.prog ref15_format_r K) (t0 :: t1 :: t2 :: List.replicate 78 .unk) H = ref15_format t0 t1 t2 H K := by kernel_rfl
theorem ref15_format_ok {t0 t1 t2 : AV} {H : Heap} {K : Kt} (h : HSc H → ref15_format t0 t1 t2 H K) : ACalls Tryz.prog n_ref15_format [t0, t1, t2] H K :=
  acalls_body (M := ref15_format_M) Tryz.func66 (c := ref15_format_c) (by kernel_rfl) (fun hs => (ref15_format_eq t0 t1 t2 H K).mpr (h hs))
/-! ### 111: index.writeRow -/
def index_writeRow_M : Nat → List Bool
  | 2 => rl false [0,2,1,1,8,3,19]
  | 200006 => rl false [0,1]
  | _ => []
noncomputable def index_writeRow_c : Code := Tryz.f111.body.getD .skip
noncomputable def index_writeRow_r : List ResultVar := Tryz.f111.results.toList
def index_writeRow_fr2 (t0 t1 t3 t12 t13 t14 : AV) : List AV := t0 :: t1 :: ux 1 (t3 :: ux 8 (t12 :: t13 :: t14 :: ux 19 []))
def index_writeRow_m2 : List Bool := index_writeRow_M 2
noncomputable def index_writeRow_c2 : Code := codeAt [1, 0, 1, 0, 0] index_writeRow_c
def index_writeRow_Q2 (K : Kt) : AExit → List AV → Heap → Prop := contAt Tryz.prog index_writeRow_M [1, 0, 1, 0] index_writeRow_c (retQ Tryz.prog index_writeRow_r K)
def index_writeRow_l2 (t0 t1 t3 t12 t13 t14 : AV) (H : Heap) (K : Kt) : Prop := ALoop Tryz.prog index_writeRow_c2 (index_writeRow_Q2 K) (index_writeRow_fr2 t0 t1 t3 t12 t13 t14) H
def index_writeRow_j1 (t0 t1 t3 t8 t9 t12 t13 t14 : AV) (H : Heap) (K : Kt) (Kb2 : Lt) : Prop :=
  aPure H (fun K' => K' t0 H) fun t23 =>
  aPure H (fun K' => K' t1 H) fun t24 =>
  aPure H (fun K' => aLoadC true 3 t9 H (K' · H)) fun t25 =>
  aPure H (fun K' => K' t3 H) fun t26 =>
  aPure H (fun K' => K' t8 H) fun t27 =>
  aPure H (fun K' => aIdxA 2 t26 t27 (K' · H)) fun t28 =>
  aPure H (fun K' => aLoadC true 2 t28 H (K' · H)) fun t29 =>
  aDet .w false H (fun K' => ACalls Tryz.prog n_index_write [t23, t24, t25, t29] H K') fun t30 H =>
  aBin .add false t14 (.int .i64 1) fun t31 =>
  Kb2 (index_writeRow_fr2 t0 t1 t3 t12 t13 t31) H
def index_writeRow_b2 (t0 t1 t3 t12 t13 t14 : AV) (H : Heap) (K : Kt) (Kb2 : Lt) : Prop :=
  aBin .lss false t14 t13 fun t15 =>
  aTest t15
  (aIdxA 3 t12 t14 fun t17 =>
  aLoad true 3 t17 H fun t18 =>
  aNew [(.int .i64 0), (.int .i64 0), .snil] H fun t9 H =>
  aStore 3 t9 t18 H fun H =>
  aBin .gtr false t14 (.int .i64 0) fun t20 =>
  aTest t20
  (ACalls Tryz.prog n_strings_Builder_WriteString [t0, (.str [44, 32])] H fun t22 H =>
  index_writeRow_j1 t0 t1 t3 t14 t9 t12 t13 t14 H K Kb2)
  (index_writeRow_j1 t0 t1 t3 t14 t9 t12 t13 t14 H K Kb2))
  (ACalls Tryz.prog n_strings_Builder_WriteString [t0, (.str [41])] H fun t33 H =>
  aRet [] (K · H))
def index_writeRow (t0 t1 t2 t3 : AV) (H : Heap) (K : Kt) : Prop :=
  ACalls Tryz.prog n_strings_Builder_WriteString [t0, (.str [40])] H fun t11 H =>
  aLen 1 t2 fun t13 =>
  index_writeRow_l2 t0 t1 t3 t2 t13 (.int .i64 0) H K
theorem index_writeRow_b2_eq (t0 t1 t3 t12 t13 t14 : AV) (H : Heap) (K : Kt) (Kb2 : Lt) : awp Tryz.prog index_writeRow_M index_writeRow_c2 (roundQ index_writeRow_m2 Kb2 (index_writeRow_Q2 K)) (index_writeRow_fr2 t0 t1 t3 t12 t13 t14) H = index_writeRow_b2 t0 t1 t3 t12 t13 t14 H K Kb2 := by kernel_rfl
theorem index_writeRow_loop2 {t0 t1 t3 t12 t13 t14 : AV} {H : Heap} {K : Kt} (Inv : Nat → AV → Heap → Prop) (n : Nat) (h0 : HSc H → Inv n t14 H)
    (round : ∀ n t14 H', Inv n t14 H' → HSc H' → H.length ≤ H'.length → (index_writeRow_fr2 t0 t1 t3 t12 t13 t14).all (AV.sc H'.length) = true → ∀ Kb2 : Lt, (∀ F'' H'', (∃ n', n' < n ∧ Back H.length (fun F2 H2 => ∃ t14, F2 = index_writeRow_fr2 t0 t1 t3 t12 t13 t14 ∧ Inv n' t14 H2) F'' H'') → Kb2 F'' H'') → index_writeRow_b2 t0 t1 t3 t12 t13 t14 H' K Kb2) : index_writeRow_l2 t0 t1 t3 t12 t13 t14 H K :=
  aloop (M := index_writeRow_M) index_writeRow_m2 (fun n F H => ∃ t14, F = index_writeRow_fr2 t0 t1 t3 t12 t13 t14 ∧ Inv n t14 H) n (fun hs _ => ⟨t14, rfl, h0 hs⟩) (fun n F H' ⟨t14, hF, hI⟩ h1 h2 h3 => by subst hF; rw [index_writeRow_b2_eq]; exact round n t14 H' hI h1 h2 h3 _ (fun _ _ h => h))
theorem index_writeRow_eq (t0 t1 t2 t3 : AV) (H : Heap) (K : Kt) : awp Tryz.prog index_writeRow_M index_writeRow_c (retQ Tryz.prog index_writeRow_r K) (t0 :: t1 :: t2 :: t3 :: List.replicate 30 .unk) H = index_writeRow t0 t1 t2 t3 H K := by kernel_rfl
theorem index_writeRow_ok {t0 t1 t2 t3 : AV} {H : Heap} {K : Kt} (h : HSc H → index_writeRow t0 t1 t2 t3 H K) : ACalls Tryz.prog n_index_writeRow [t0, t1, t2, t3] H K :=
  acalls_body (M := index_writeRow_M) Tryz.func111 (c := index_writeRow_c) (by kernel_rfl) (fun hs => (index_writeRow_eq t0 t1 t2 t3 H K).mpr (h hs))
/-! ### 113: amortcostref15.list -/
def ref15_list_M : Nat → List Bool
  | 3 => rl false [0,3,4,1,2,2,20]
  | _ => []
noncomputable def ref15_list_c : Code := Tryz.f113.body.getD .skip
noncomputable def ref15_list_r : List ResultVar := Tryz.f113.results.toList
def ref15_list_fr3 (t0 t1 t2 t7 t10 t11 : AV) : List AV := t0 :: t1 :: t2 :: ux 4 (t7 :: ux 2 (t10 :: t11 :: ux 20 []))
def ref15_list_m3 : List Bool := ref15_list_M 3
noncomputable def ref15_list_c3 : Code := codeAt [1, 1, 0, 1, 0, 0] ref15_list_c
def ref15_list_Q3 (K : Kt) : AExit → List AV → Heap → Prop := contAt Tryz.prog ref15_list_M [1, 1, 0, 1, 0] ref15_list_c (retQ Tryz.prog ref15_list_r K)
def ref15_list_l3 (t0 t1 t2 t7 t10 t11 : AV) (H : Heap) (K : Kt) : Prop := ALoop Tryz.prog ref15_list_c3 (ref15_list_Q3 K) (ref15_list_fr3 t0 t1 t2 t7 t10 t11) H
def ref15_list_j1 (t0 t1 t2 t7 t8 t10 t11 : AV) (H : Heap) (K : Kt) (Kb3 : Lt) : Prop :=
  aPure H (fun K' => K' t7 H) fun t18 =>
  aPure H (fun K' => K' t0 H) fun t19 =>
  aPure H (fun K' => K' t1 H) fun t20 =>
  aPure H (fun K' => K' t8 H) fun t21 =>
  aPure H (fun K' => aIdxA 3 t20 t21 (K' · H)) fun t22 =>
  aPure H (fun K' => aLoadC true 3 t22 H (K' · H)) fun t23 =>
  aPure H (fun K' => K' t2 H) fun t24 =>
  aPure H (fun K' => K' t8 H) fun t25 =>
  aPure H (fun K' => aIdxA 2 t24 t25 (K' · H)) fun t26 =>
  aPure H (fun K' => aLoadC true 2 t26 H (K' · H)) fun t27 =>
  aPureX H (fun H K' => ACalls Tryz.prog n_ref15_format [t19, t23, t27] H K') fun t28 =>
  aPure H (fun K' => aBin .add false t18 t28 (K' · H)) fun t29 =>
  aPure H (fun K' => K' t29 H) fun t7 =>
  aBin .add false t11 (.int .i64 1) fun t30 =>
  Kb3 (ref15_list_fr3 t0 t1 t2 t7 t10 t30) H
def ref15_list_b3 (t0 t1 t2 t7 t10 t11 : AV) (H : Heap) (K : Kt) (Kb3 : Lt) : Prop :=
  aBin .lss false t11 t10 fun t12 =>
  aTest t12
  (aBin .gtr false t11 (.int .i64 0) fun t15 =>
  aTest t15
  (aBin .add false t7 (.str [44, 32]) fun t17 =>
  ref15_list_j1 t0 t1 t2 t17 t11 t10 t11 H K Kb3)
  (ref15_list_j1 t0 t1 t2 t7 t11 t10 t11 H K Kb3))
  (K t7 H)
def ref15_list (t0 t1 t2 : AV) (H : Heap) (K : Kt) : Prop :=
  aLen 1 t2 fun t10 =>
  ref15_list_l3 t0 t1 t2 (.str []) t10 (.int .i64 0) H K
theorem ref15_list_b3_eq (t0 t1 t2 t7 t10 t11 : AV) (H : Heap) (K : Kt) (Kb3 : Lt) : awp Tryz.prog ref15_list_M ref15_list_c3 (roundQ ref15_list_m3 Kb3 (ref15_list_Q3 K)) (ref15_list_fr3 t0 t1 t2 t7 t10 t11) H = ref15_list_b3 t0 t1 t2 t7 t10 t11 H K Kb3 := by kernel_rfl
theorem ref15_list_loop3 {t0 t1 t2 t7 t10 t11 : AV} {H : Heap} {K : Kt} (Inv : Nat → AV → AV → Heap → Prop) (n : Nat) (h0 : HSc H → Inv n t7 t11 H)
    (round : ∀ n t7 t11 H', Inv n t7 t11 H' → HSc H' → H.length ≤ H'.length → (ref15_list_fr3 t0 t1 t2 t7 t10 t11).all (AV.sc H'.length) = true → ∀ Kb3 : Lt, (∀ F'' H'', (∃ n', n' < n ∧ Back H.length (fun F2 H2 => ∃ t7 t11, F2 = ref15_list_fr3 t0 t1 t2 t7 t10 t11 ∧ Inv n' t7 t11 H2) F'' H'') → Kb3 F'' H'') → ref15_list_b3 t0 t1 t2 t7 t10 t11 H' K Kb3) : ref15_list_l3 t0 t1 t2 t7 t10 t11 H K :=
  aloop (M := ref15_list_M) ref15_list_m3 (fun n F H => ∃ t7 t11, F = ref15_list_fr3 t0 t1 t2 t7 t10 t11 ∧ Inv n t7 t11 H) n (fun hs _ => ⟨t7, t11, rfl, h0 hs⟩) (fun n F H' ⟨t7, t11, hF, hI⟩ h1 h2 h3 => by subst hF; rw [ref15_list_b3_eq]; exact round n t7 t11 H' hI h1 h2 h3 _ (fun _ _ h => h))
theorem ref15_list_eq (t0 t1 t2 : AV) (H : Heap) (K : Kt) : awp Tryz.prog ref15_list_M ref15_list_c (retQ Tryz.prog ref15_list_r K) (t0 :: t1 :: t2 :: List.replicate 29 .unk) H = ref15_list t0 t1 t2 H K := by kernel_rfl
theorem ref15_list_ok {t0 t1 t2 : AV} {H : Heap} {K : Kt} (h : HSc H → ref15_list t0 t1 t2 H K) : ACalls Tryz.prog n_ref15_list [t0, t1, t2] H K :=
  acalls_body (M := ref15_list_M) Tryz.func113 (c := ref15_list_c) (by kernel_rfl) (fun hs => (ref15_list_eq t0 t1 t2 H K).mpr (h hs))
/-! ### 114: amortcostref15.number -/
def ref15_number_M : Nat → List Bool
  | 3 => rl false [0,1,2,1,21]
  | _ => []
noncomputable def ref15_number_c : Code := Tryz.f114.body.getD .skip
noncomputable def ref15_number_r : List ResultVar := Tryz.f114.results.toList
def ref15_number_fr3 (t0 t3 : AV) : List AV := t0 :: ux 2 (t3 :: ux 21 [])
def ref15_number_m3 : List Bool := ref15_number_M 3
noncomputable def ref15_number_c3 : Code := codeAt [1, 1, 0, 1, 0, 0] ref15_number_c
def ref15_number_Q3 (K : Kt) : AExit → List AV → Heap → Prop := contAt Tryz.prog ref15_number_M [1, 1, 0, 1, 0] ref15_number_c (retQ Tryz.prog ref15_number_r K)
def ref15_number_l3 (t0 t3 : AV) (H : Heap) (K : Kt) : Prop := ALoop Tryz.prog ref15_number_c3 (ref15_number_Q3 K) (ref15_number_fr3 t0 t3) H
def ref15_number_b3 (t0 t3 : AV) (H : Heap) (K : Kt) (Kb3 : Lt) : Prop :=
  aBin .gtr false t0 (.int .i64 0) fun t13 =>
  aTest t13
  (aBin .rem false t0 (.int .i64 10) fun t17 =>
  aBin .add false (.int .i64 48) t17 fun t18 =>
  aConv .u8 t18 fun t19 =>
  aBuildS 1 [(.int .u8 0)] 1 [(0, t19)] fun t20 =>
  aConvB t20 fun t21 =>
  aBin .add false t21 t3 fun t23 =>
  aBin .quo false t0 (.int .i64 10) fun t15 =>
  Kb3 (ref15_number_fr3 t15 t23) H)
  (K t3 H)
def ref15_number (t0 : AV) (H : Heap) (K : Kt) : Prop :=
  aBin .rem false t0 (.int .i64 10) fun t5 =>
  aBin .add false (.int .i64 48) t5 fun t6 =>
  aConv .u8 t6 fun t7 =>
  aBuildS 1 [(.int .u8 0)] 1 [(0, t7)] fun t8 =>
  aConvB t8 fun t9 =>
  aBin .quo false t0 (.int .i64 10) fun t11 =>
  ref15_number_l3 t11 t9 H K
theorem ref15_number_b3_eq (t0 t3 : AV) (H : Heap) (K : Kt) (Kb3 : Lt) : awp Tryz.prog ref15_number_M ref15_number_c3 (roundQ ref15_number_m3 Kb3 (ref15_number_Q3 K)) (ref15_number_fr3 t0 t3) H = ref15_number_b3 t0 t3 H K Kb3 := by kernel_rfl
theorem ref15_number_loop3 {t0 t3 : AV} {H : Heap} {K : Kt} (Inv : Nat → AV → AV → Heap → Prop) (n : Nat) (h0 : HSc H → Inv n t0 t3 H)
    (round : ∀ n t0 t3 H', Inv n t0 t3 H' → HSc H' → H.length ≤ H'.length → (ref15_number_fr3 t0 t3).all (AV.sc H'.length) = true → ∀ Kb3 : Lt, (∀ F'' H'', (∃ n', n' < n ∧ Back H.length (fun F2 H2 => ∃ t0 t3, F2 = ref15_number_fr3 t0 t3 ∧ Inv n' t0 t3 H2) F'' H'') → Kb3 F'' H'') → ref15_number_b3 t0 t3 H' K Kb3) : ref15_number_l3 t0 t3 H K :=
  aloop (M := ref15_number_M) ref15_number_m3 (fun n F H => ∃ t0 t3, F = ref15_number_fr3 t0 t3 ∧ Inv n t0 t3 H) n (fun hs _ => ⟨t0, t3, rfl, h0 hs⟩) (fun n F H' ⟨t0, t3, hF, hI⟩ h1 h2 h3 => by subst hF; rw [ref15_number_b3_eq]; exact round n t0 t3 H' hI h1 h2 h3 _ (fun _ _ h => h))
theorem ref15_number_eq (t0 : AV) (H : Heap) (K : Kt) : awp Tryz.prog ref15_number_M ref15_number_c (retQ Tryz.prog ref15_number_r K) (t0 :: List.replicate 24 .unk) H = ref15_number t0 H K := by kernel_rfl
theorem ref15_number_ok {t0 : AV} {H : Heap} {K : Kt} (h : HSc H → ref15_number t0 H K) : ACalls Tryz.prog n_ref15_number [t0] H K :=
  acalls_body (M := ref15_number_M) Tryz.func114 (c := ref15_number_c) (by kernel_rfl) (fun hs => (ref15_number_eq t0 H K).mpr (h hs))
end Go.Proofs.YtfpmdpldabopjaaGreatDoor
