/- The shallow forms of functions of the program, printed by a program (absgen.py) off the translation, each tied to the model by the kernel. -/
import Derived.Test.YtfpmdpldabopjaaGreatDoorKNum
import Derived.Test.YtfpmdpldabopjaaGreatDoorProg
import Derived.KernelRfl
namespace Go.Proofs.YtfpmdpldabopjaaGreatDoor
open Go Go.Abs
set_option linter.unusedVariables false
set_option maxRecDepth 100000
/-! ### 4: amortcostlaw10.ValueFormats -/
def law10_ValueFormats_M (_ : Nat) : List Bool := []
noncomputable def law10_ValueFormats_c : Code := Tryz.f4.body.getD .skip
noncomputable def law10_ValueFormats_r : List ResultVar := Tryz.f4.results.toList
def law10_ValueFormats (t0 t1 t2 : AV) (H : Heap) (K : Kt) : Prop :=
  aBox t1 H fun t4 H =>
  aBox t2 H fun t5 H =>
  ACalls Tryz.prog n_keep_Data [t0] H fun t8 H =>
  aUn .not t8 fun t9 =>
  aGuardJ t9 false H (fun K' => aLoad true 3 t4 H (K' · H)) fun t11 H =>
  aGuardJ t9 false H (fun K' => ACalls Tryz.prog n_keep_Value [t11] H K') fun t12 H =>
  aGuardJ t9 false H (fun K' => aUn .not t12 (K' · H)) fun t13 H =>
  aPick t9 (.bool true) t13 fun t14 =>
  aGuardJ t14 false H (fun K' => aLoad true 3 t5 H (K' · H)) fun t16 H =>
  aGuardJ t14 false H (fun K' => ACalls Tryz.prog n_keep_Type [t16] H K') fun t17 H =>
  aGuardJ t14 false H (fun K' => aUn .not t17 (K' · H)) fun t18 H =>
  aPick t14 (.bool true) t18 fun t19 =>
  aTest t19
  (K (.bool true) H)
  (aPure H (fun K' => K' t0 H) fun t20 =>
  aPure H (fun K' => aLoadC true 3 t4 H (K' · H)) fun t21 =>
  aPure H (fun K' => aLoadC true 3 t5 H (K' · H)) fun t22 =>
  aPureX H (fun H K' => ACalls Tryz.prog n_value_Format [t20, t21, t22] H K') fun t23 =>
  aPure H (fun K' => K' t0 H) fun t24 =>
  aPure H (fun K' => aLoadC true 3 t4 H (K' · H)) fun t25 =>
  aPure H (fun K' => aLoadC true 3 t5 H (K' · H)) fun t26 =>
  aPureX H (fun H K' => ACalls Tryz.prog n_ref10_Format [t24, t25, t26] H K') fun t27 =>
  aPure H (fun K' => aBin .eql false t23 t27 (K' · H)) fun t28 =>
  aPure H (fun K' => K' t28 H) fun t29 =>
  aGuardJ t29 true H (fun K' => aPureX H (fun H K'' => ACalls Tryz.prog n_law10_awake [] H K'') (K' · H)) fun t30 H =>
  aPure H (fun K' => aPick t29 t30 (.bool false) (K' · H)) fun t31 =>
  aPure H (fun K' => K' t31 H) fun t6 =>
  K t6 H)
theorem law10_ValueFormats_eq (t0 t1 t2 : AV) (H : Heap) (K : Kt) : awp Tryz.prog law10_ValueFormats_M law10_ValueFormats_c (retQ Tryz.prog law10_ValueFormats_r K) (t0 :: t1 :: t2 :: List.replicate 29 .unk) H = law10_ValueFormats t0 t1 t2 H K := by kernel_rfl
theorem law10_ValueFormats_ok {t0 t1 t2 : AV} {H : Heap} {K : Kt} (h : HSc H → law10_ValueFormats t0 t1 t2 H K) : ACalls Tryz.prog n_law10_ValueFormats [t0, t1, t2] H K :=
  acalls_body (M := law10_ValueFormats_M) Tryz.func4 (c := law10_ValueFormats_c) (by kernel_rfl) (fun hs => (law10_ValueFormats_eq t0 t1 t2 H K).mpr (h hs))
/-! ### 22: amortcostref10.Format -/
def ref10_Format_M (_ : Nat) : List Bool := []
noncomputable def ref10_Format_c : Code := Tryz.f22.body.getD .skip
noncomputable def ref10_Format_r : List ResultVar := Tryz.f22.results.toList
def ref10_Format (t0 t1 t2 : AV) (H : Heap) (K : Kt) : Prop :=
  aBox t1 H fun t4 H =>
  aBox t2 H fun t5 H =>
  aLoad true 3 t4 H fun t8 =>
  aLoad true 3 t5 H fun t9 =>
  ACalls Tryz.prog n_ref10_HasType [t0, t8, t9] H fun t10 H =>
  aUn .not t10 fun t11 =>
  aTest t11
  (K (.str []) H)
  (aLoad true 3 t4 H fun t13 =>
  aLoad true 3 t5 H fun t14 =>
  ACalls Tryz.prog n_ref10_format [t0, t13, t14] H fun t15 H =>
  K t15 H)
theorem ref10_Format_eq (t0 t1 t2 : AV) (H : Heap) (K : Kt) : awp Tryz.prog ref10_Format_M ref10_Format_c (retQ Tryz.prog ref10_Format_r K) (t0 :: t1 :: t2 :: List.replicate 13 .unk) H = ref10_Format t0 t1 t2 H K := by kernel_rfl
theorem ref10_Format_ok {t0 t1 t2 : AV} {H : Heap} {K : Kt} (h : HSc H → ref10_Format t0 t1 t2 H K) : ACalls Tryz.prog n_ref10_Format [t0, t1, t2] H K :=
  acalls_body (M := ref10_Format_M) Tryz.func22 (c := ref10_Format_c) (by kernel_rfl) (fun hs => (ref10_Format_eq t0 t1 t2 H K).mpr (h hs))
/-! ### 59: amortcostref10.format -/
def ref10_format_M : Nat → List Bool
  | 22 => rl false [0,1,3,2,4,1,64,2,30]
  | _ => []
noncomputable def ref10_format_c : Code := Tryz.f59.body.getD .skip
noncomputable def ref10_format_r : List ResultVar := Tryz.f59.results.toList
def ref10_format_fr22 (t0 t4 t5 t10 t75 t76 : AV) : List AV := t0 :: ux 3 (t4 :: t5 :: ux 4 (t10 :: ux 64 (t75 :: t76 :: ux 30 [])))
def ref10_format_m22 : List Bool := ref10_format_M 22
noncomputable def ref10_format_c22 : Code := codeAt [1, 0, 1, 0, 1, 1, 1, 1, 1, 1, 1, 1, 1, 1, 1, 0, 1, 0, 1, 0, 0] ref10_format_c
def ref10_format_Q22 (K : Kt) : AExit → List AV → Heap → Prop := contAt Tryz.prog ref10_format_M [1, 0, 1, 0, 1, 1, 1, 1, 1, 1, 1, 1, 1, 1, 1, 0, 1, 0, 1, 0] ref10_format_c (retQ Tryz.prog ref10_format_r K)
def ref10_format_l22 (t0 t4 t5 t10 t75 t76 : AV) (H : Heap) (K : Kt) : Prop := ALoop Tryz.prog ref10_format_c22 (ref10_format_Q22 K) (ref10_format_fr22 t0 t4 t5 t10 t75 t76) H
def ref10_format_b22 (t0 t4 t5 t10 t75 t76 : AV) (H : Heap) (K : Kt) (Kb22 : Lt) : Prop :=
  aBin .lss false t76 t75 fun t77 =>
  aTest t77
  (aFld 2 t5 fun t79 =>
  aLoad false 1 t79 H fun t80 =>
  aIdxA 3 t80 (.int .i64 0) fun t81 =>
  aLoad true 3 t81 H fun t82 =>
  aBuildS 3 [(.int .i64 0), (.int .i64 0), .snil] 1 [(0, t82)] fun t83 =>
  aAppend e_api_Type 3 40 t10 t83 H fun t84 H =>
  aBin .add false t76 (.int .i64 1) fun t85 =>
  Kb22 (ref10_format_fr22 t0 t4 t5 t84 t75 t85) H)
  (aFld 0 t5 fun t86 =>
  aLoad false 1 t86 H fun t87 =>
  aBin .eql false t87 (.int .i64 8) fun t88 =>
  aTest t88
  (aFld 2 t4 fun t90 =>
  aLoad false 1 t90 H fun t91 =>
  ACalls Tryz.prog n_ref10_list [t0, t91, t10] H fun t93 H =>
  aBin .add false (.str [114, 101, 102, 40]) t93 fun t94 =>
  aBin .add false t94 (.str [41]) fun t95 =>
  K t95 H)
  (aFld 2 t4 fun t97 =>
  aLoad false 1 t97 H fun t98 =>
  ACalls Tryz.prog n_ref10_list [t0, t98, t10] H fun t100 H =>
  aBin .add false (.str [91]) t100 fun t101 =>
  aBin .add false t101 (.str [93]) fun t102 =>
  K t102 H))
def ref10_format_j1 (t0 t4 t5 t70 : AV) (H : Heap) (K : Kt) : Prop :=
  aTest t70
  (aFld 2 t4 fun t73 =>
  aLoad false 1 t73 H fun t74 =>
  aLen 1 t74 fun t75 =>
  ref10_format_l22 t0 t4 t5 .snil t75 (.int .i64 0) H K)
  (aFld 1 t4 fun t103 =>
  aLoad false 1 t103 H fun t104 =>
  ACalls Tryz.prog n_ref10_number [t104] H fun t105 H =>
  aBin .add false (.str [102, 110, 35]) t105 fun t106 =>
  K t106 H)
def ref10_format (t0 t1 t2 : AV) (H : Heap) (K : Kt) : Prop :=
  aBox t1 H fun t4 H =>
  aBox t2 H fun t5 H =>
  aFld 0 t5 fun t11 =>
  aLoad false 1 t11 H fun t12 =>
  aBin .eql false t12 (.int .i64 3) fun t14 =>
  aTest t14
  (K (.str [40, 41]) H)
  (aBin .eql false t12 (.int .i64 2) fun t16 =>
  aTest t16
  (aFld 1 t4 fun t17 =>
  aLoad false 1 t17 H fun t18 =>
  aBin .eql false t18 (.int .i64 1) fun t19 =>
  aTest t19
  (K (.str [116, 114, 117, 101]) H)
  (K (.str [102, 97, 108, 115, 101]) H))
  (aBin .eql false t12 (.int .i64 1) fun t21 =>
  aTest t21
  (aFld 1 t4 fun t22 =>
  aLoad false 1 t22 H fun t23 =>
  ACalls Tryz.prog n_ref10_number [t23] H fun t24 H =>
  K t24 H)
  (aBin .eql false t12 (.int .i64 6) fun t26 =>
  aTest t26
  (aFld 2 t4 fun t28 =>
  aLoad false 1 t28 H fun t29 =>
  aFld 2 t5 fun t30 =>
  aLoad false 1 t30 H fun t31 =>
  ACalls Tryz.prog n_ref10_list [t0, t29, t31] H fun t32 H =>
  aBin .add false (.str [40]) t32 fun t33 =>
  aBin .add false t33 (.str [41]) fun t34 =>
  K t34 H)
  (aBin .eql false t12 (.int .i64 5) fun t36 =>
  aTest t36
  (aPure H (fun K' => K' t0 H) fun t37 =>
  aPure H (fun K' => aFld 1 t5 (K' · H)) fun t38 =>
  aPure H (fun K' => aLoadC false 1 t38 H (K' · H)) fun t39 =>
  aPure H (fun K' => aIdxA 3 t37 t39 (K' · H)) fun t40 =>
  aPure H (fun K' => aFld 2 t40 (K' · H)) fun t41 =>
  aPure H (fun K' => aLoadC false 1 t41 H (K' · H)) fun t42 =>
  aPure H (fun K' => aFld 1 t4 (K' · H)) fun t43 =>
  aPure H (fun K' => aLoadC false 1 t43 H (K' · H)) fun t44 =>
  aPure H (fun K' => aIdxA 2 t42 t44 (K' · H)) fun t45 =>
  aPure H (fun K' => aFld 0 t45 (K' · H)) fun t46 =>
  aPure H (fun K' => aLoadC false 1 t46 H (K' · H)) fun t47 =>
  aPure H (fun K' => K' t47 H) fun t7 =>
  aFld 2 t4 fun t48 =>
  aLoad false 1 t48 H fun t49 =>
  aLen 1 t49 fun t50 =>
  aBin .eql false t50 (.int .i64 0) fun t51 =>
  aTest t51
  (K t7 H)
  (aLoad true 3 t5 H fun t55 =>
  aFld 1 t4 fun t56 =>
  aLoad false 1 t56 H fun t57 =>
  ACalls Tryz.prog n_ref6_Fields [t0, t55, t57] H fun t58 H =>
  aExt t58 0 fun t59 =>
  aExt t58 1 fun t60 =>
  aBin .add false t7 (.str [40]) fun t62 =>
  aFld 2 t4 fun t64 =>
  aLoad false 1 t64 H fun t65 =>
  ACalls Tryz.prog n_ref10_list [t0, t65, t59] H fun t67 H =>
  aBin .add false t62 t67 fun t68 =>
  aBin .add false t68 (.str [41]) fun t69 =>
  K t69 H))
  (aBin .eql false t12 (.int .i64 7) fun t71 =>
  aTest t71
  (ref10_format_j1 t0 t4 t5 t71 H K)
  (aBin .eql false t12 (.int .i64 8) fun t72 =>
  ref10_format_j1 t0 t4 t5 t72 H K))))))
theorem ref10_format_b22_eq (t0 t4 t5 t10 t75 t76 : AV) (H : Heap) (K : Kt) (Kb22 : Lt) : awp Tryz.prog ref10_format_M ref10_format_c22 (roundQ ref10_format_m22 Kb22 (ref10_format_Q22 K)) (ref10_format_fr22 t0 t4 t5 t10 t75 t76) H = ref10_format_b22 t0 t4 t5 t10 t75 t76 H K Kb22 := by kernel_rfl
theorem ref10_format_loop22 {t0 t4 t5 t10 t75 t76 : AV} {H : Heap} {K : Kt} (Inv : Nat → AV → AV → Heap → Prop) (n : Nat) (h0 : HSc H → Inv n t10 t76 H)
    (round : ∀ n t10 t76 H', Inv n t10 t76 H' → HSc H' → H.length ≤ H'.length → (ref10_format_fr22 t0 t4 t5 t10 t75 t76).all (AV.sc H'.length) = true → ∀ Kb22 : Lt, (∀ F'' H'', (∃ n', n' < n ∧ Back H.length (fun F2 H2 => ∃ t10 t76, F2 = ref10_format_fr22 t0 t4 t5 t10 t75 t76 ∧ Inv n' t10 t76 H2) F'' H'') → Kb22 F'' H'') → ref10_format_b22 t0 t4 t5 t10 t75 t76 H' K Kb22) : ref10_format_l22 t0 t4 t5 t10 t75 t76 H K :=
  aloop (M := ref10_format_M) ref10_format_m22 (fun n F H => ∃ t10 t76, F = ref10_format_fr22 t0 t4 t5 t10 t75 t76 ∧ Inv n t10 t76 H) n (fun hs _ => ⟨t10, t76, rfl, h0 hs⟩) (fun n F H' ⟨t10, t76, hF, hI⟩ h1 h2 h3 => by subst hF; rw [ref10_format_b22_eq]; exact round n t10 t76 H' hI h1 h2 h3 _ (fun _ _ h => h))
theorem ref10_format_eq (t0 t1 t2 : AV) (H : Heap) (K : Kt) : awp Tryz.prog ref10_format_M ref10_format_c (retQ Tryz.prog ref10_format_r K) (t0 :: t1 :: t2 :: List.replicate 104 .unk) H = ref10_format t0 t1 t2 H K := by kernel_rfl
theorem ref10_format_ok {t0 t1 t2 : AV} {H : Heap} {K : Kt} (h : HSc H → ref10_format t0 t1 t2 H K) : ACalls Tryz.prog n_ref10_format [t0, t1, t2] H K :=
  acalls_body (M := ref10_format_M) Tryz.func59 (c := ref10_format_c) (by kernel_rfl) (fun hs => (ref10_format_eq t0 t1 t2 H K).mpr (h hs))
/-! ### 102: value.writeAll -/
def value_writeAll_M : Nat → List Bool
  | 1 => rl false [0,2,1,1,6,3,16]
  | 200005 => rl false [0,3]
  | _ => []
noncomputable def value_writeAll_c : Code := Tryz.f102.body.getD .skip
noncomputable def value_writeAll_r : List ResultVar := Tryz.f102.results.toList
def value_writeAll_fr1 (t0 t1 t3 t10 t11 t12 : AV) : List AV := t0 :: t1 :: ux 1 (t3 :: ux 6 (t10 :: t11 :: t12 :: ux 16 []))
def value_writeAll_m1 : List Bool := value_writeAll_M 1
noncomputable def value_writeAll_c1 : Code := codeAt [1, 0, 0] value_writeAll_c
def value_writeAll_Q1 (K : Kt) : AExit → List AV → Heap → Prop := contAt Tryz.prog value_writeAll_M [1, 0] value_writeAll_c (retQ Tryz.prog value_writeAll_r K)
def value_writeAll_l1 (t0 t1 t3 t10 t11 t12 : AV) (H : Heap) (K : Kt) : Prop := ALoop Tryz.prog value_writeAll_c1 (value_writeAll_Q1 K) (value_writeAll_fr1 t0 t1 t3 t10 t11 t12) H
def value_writeAll_j1 (t0 t1 t3 t8 t9 t10 t11 t12 : AV) (H : Heap) (K : Kt) (Kb1 : Lt) : Prop :=
  aPure H (fun K' => K' t0 H) fun t21 =>
  aPure H (fun K' => K' t1 H) fun t22 =>
  aPure H (fun K' => aLoadC true 3 t9 H (K' · H)) fun t23 =>
  aPure H (fun K' => K' t3 H) fun t24 =>
  aPure H (fun K' => K' t8 H) fun t25 =>
  aPureX H (fun H K' => aCallV Tryz.prog t24 [t25] H K') fun t26 =>
  aDet .c false H (fun K' => ACalls Tryz.prog n_value_write [t21, t22, t23, t26] H K') fun t27 H =>
  aBin .add false t12 (.int .i64 1) fun t28 =>
  Kb1 (value_writeAll_fr1 t0 t1 t3 t10 t11 t28) H
def value_writeAll_b1 (t0 t1 t3 t10 t11 t12 : AV) (H : Heap) (K : Kt) (Kb1 : Lt) : Prop :=
  aBin .lss false t12 t11 fun t13 =>
  aTest t13
  (aIdxA 3 t10 t12 fun t15 =>
  aLoad true 3 t15 H fun t16 =>
  aNew [(.int .i64 0), (.int .i64 0), .snil] H fun t9 H =>
  aStore 3 t9 t16 H fun H =>
  aBin .gtr false t12 (.int .i64 0) fun t18 =>
  aTest t18
  (ACalls Tryz.prog n_strings_Builder_WriteString [t0, (.str [44, 32])] H fun t20 H =>
  value_writeAll_j1 t0 t1 t3 t12 t9 t10 t11 t12 H K Kb1)
  (value_writeAll_j1 t0 t1 t3 t12 t9 t10 t11 t12 H K Kb1))
  (aRet [] (K · H))
def value_writeAll (t0 t1 t2 t3 : AV) (H : Heap) (K : Kt) : Prop :=
  aLen 1 t2 fun t11 =>
  value_writeAll_l1 t0 t1 t3 t2 t11 (.int .i64 0) H K
theorem value_writeAll_b1_eq (t0 t1 t3 t10 t11 t12 : AV) (H : Heap) (K : Kt) (Kb1 : Lt) : awp Tryz.prog value_writeAll_M value_writeAll_c1 (roundQ value_writeAll_m1 Kb1 (value_writeAll_Q1 K)) (value_writeAll_fr1 t0 t1 t3 t10 t11 t12) H = value_writeAll_b1 t0 t1 t3 t10 t11 t12 H K Kb1 := by kernel_rfl
theorem value_writeAll_loop1 {t0 t1 t3 t10 t11 t12 : AV} {H : Heap} {K : Kt} (Inv : Nat → AV → Heap → Prop) (n : Nat) (h0 : HSc H → Inv n t12 H)
    (round : ∀ n t12 H', Inv n t12 H' → HSc H' → H.length ≤ H'.length → (value_writeAll_fr1 t0 t1 t3 t10 t11 t12).all (AV.sc H'.length) = true → ∀ Kb1 : Lt, (∀ F'' H'', (∃ n', n' < n ∧ Back H.length (fun F2 H2 => ∃ t12, F2 = value_writeAll_fr1 t0 t1 t3 t10 t11 t12 ∧ Inv n' t12 H2) F'' H'') → Kb1 F'' H'') → value_writeAll_b1 t0 t1 t3 t10 t11 t12 H' K Kb1) : value_writeAll_l1 t0 t1 t3 t10 t11 t12 H K :=
  aloop (M := value_writeAll_M) value_writeAll_m1 (fun n F H => ∃ t12, F = value_writeAll_fr1 t0 t1 t3 t10 t11 t12 ∧ Inv n t12 H) n (fun hs _ => ⟨t12, rfl, h0 hs⟩) (fun n F H' ⟨t12, hF, hI⟩ h1 h2 h3 => by subst hF; rw [value_writeAll_b1_eq]; exact round n t12 H' hI h1 h2 h3 _ (fun _ _ h => h))
theorem value_writeAll_eq (t0 t1 t2 t3 : AV) (H : Heap) (K : Kt) : awp Tryz.prog value_writeAll_M value_writeAll_c (retQ Tryz.prog value_writeAll_r K) (t0 :: t1 :: t2 :: t3 :: List.replicate 25 .unk) H = value_writeAll t0 t1 t2 t3 H K := by kernel_rfl
theorem value_writeAll_ok {t0 t1 t2 t3 : AV} {H : Heap} {K : Kt} (h : HSc H → value_writeAll t0 t1 t2 t3 H K) : ACalls Tryz.prog n_value_writeAll [t0, t1, t2, t3] H K :=
  acalls_body (M := value_writeAll_M) Tryz.func102 (c := value_writeAll_c) (by kernel_rfl) (fun hs => (value_writeAll_eq t0 t1 t2 t3 H K).mpr (h hs))
/-! ### 103: value.write$1 -/
def value_write_1_M (_ : Nat) : List Bool := []
noncomputable def value_write_1_c : Code := Tryz.f103.body.getD .skip
noncomputable def value_write_1_r : List ResultVar := Tryz.f103.results.toList
def value_write_1 (t0 t1 : AV) (H : Heap) (K : Kt) : Prop :=
  aNew [(.int .i64 0), (.int .i64 0), .snil] H fun t3 H =>
  aFld 2 t1 fun t4 =>
  aLoad false 1 t4 H fun t5 =>
  aIdxA 3 t5 t0 fun t7 =>
  aLoad true 3 t7 H fun t8 =>
  aStore 3 t3 t8 H fun H =>
  aLoad true 3 t3 H fun r0 =>
  K r0 H
theorem value_write_1_eq (t0 t1 : AV) (H : Heap) (K : Kt) : awp Tryz.prog value_write_1_M value_write_1_c (retQ Tryz.prog value_write_1_r K) (t0 :: t1 :: List.replicate 7 .unk) H = value_write_1 t0 t1 H K := by kernel_rfl
theorem value_write_1_ok {t0 t1 : AV} {H : Heap} {K : Kt} (h : HSc H → value_write_1 t0 t1 H K) : ACalls Tryz.prog n_value_write_1 [t0, t1] H K :=
  acalls_body (M := value_write_1_M) Tryz.func103 (c := value_write_1_c) (by kernel_rfl) (fun hs => (value_write_1_eq t0 t1 H K).mpr (h hs))
/-! ### 104: value.write$2 -/
def value_write_2_M (_ : Nat) : List Bool := []
noncomputable def value_write_2_c : Code := Tryz.f104.body.getD .skip
noncomputable def value_write_2_r : List ResultVar := Tryz.f104.results.toList
def value_write_2 (t0 t1 : AV) (H : Heap) (K : Kt) : Prop :=
  aNew [(.int .i64 0), (.int .i64 0), .snil] H fun t3 H =>
  aLoad false 1 t1 H fun t4 =>
  aIdxA 3 t4 t0 fun t6 =>
  aLoad true 3 t6 H fun t7 =>
  aStore 3 t3 t7 H fun H =>
  aLoad true 3 t3 H fun r0 =>
  K r0 H
theorem value_write_2_eq (t0 t1 : AV) (H : Heap) (K : Kt) : awp Tryz.prog value_write_2_M value_write_2_c (retQ Tryz.prog value_write_2_r K) (t0 :: t1 :: List.replicate 6 .unk) H = value_write_2 t0 t1 H K := by kernel_rfl
theorem value_write_2_ok {t0 t1 : AV} {H : Heap} {K : Kt} (h : HSc H → value_write_2 t0 t1 H K) : ACalls Tryz.prog n_value_write_2 [t0, t1] H K :=
  acalls_body (M := value_write_2_M) Tryz.func104 (c := value_write_2_c) (by kernel_rfl) (fun hs => (value_write_2_eq t0 t1 H K).mpr (h hs))
/-! ### 105: value.write$3 -/
def value_write_3_M (_ : Nat) : List Bool := []
noncomputable def value_write_3_c : Code := Tryz.f105.body.getD .skip
noncomputable def value_write_3_r : List ResultVar := Tryz.f105.results.toList
def value_write_3 (t0 t1 : AV) (H : Heap) (K : Kt) : Prop :=
  aNew [(.int .i64 0), (.int .i64 0), .snil] H fun t3 H =>
  aFld 2 t1 fun t4 =>
  aLoad false 1 t4 H fun t5 =>
  aIdxA 3 t5 (.int .i64 0) fun t6 =>
  aLoad true 3 t6 H fun t7 =>
  aStore 3 t3 t7 H fun H =>
  aLoad true 3 t3 H fun r0 =>
  K r0 H
theorem value_write_3_eq (t0 t1 : AV) (H : Heap) (K : Kt) : awp Tryz.prog value_write_3_M value_write_3_c (retQ Tryz.prog value_write_3_r K) (t0 :: t1 :: List.replicate 6 .unk) H = value_write_3 t0 t1 H K := by kernel_rfl
theorem value_write_3_ok {t0 t1 : AV} {H : Heap} {K : Kt} (h : HSc H → value_write_3 t0 t1 H K) : ACalls Tryz.prog n_value_write_3 [t0, t1] H K :=
  acalls_body (M := value_write_3_M) Tryz.func105 (c := value_write_3_c) (by kernel_rfl) (fun hs => (value_write_3_eq t0 t1 H K).mpr (h hs))
/-! ### 106: amortcostref10.number -/
def ref10_number_M : Nat → List Bool
  | 5 => rl false [0,1,2,1,27]
  | _ => []
noncomputable def ref10_number_c : Code := Tryz.f106.body.getD .skip
noncomputable def ref10_number_r : List ResultVar := Tryz.f106.results.toList
def ref10_number_fr5 (t0 t3 : AV) : List AV := t0 :: ux 2 (t3 :: ux 27 [])
def ref10_number_m5 : List Bool := ref10_number_M 5
noncomputable def ref10_number_c5 : Code := codeAt [1, 1, 1, 0, 1, 0, 0] ref10_number_c
def ref10_number_Q5 (K : Kt) : AExit → List AV → Heap → Prop := contAt Tryz.prog ref10_number_M [1, 1, 1, 0, 1, 0] ref10_number_c (retQ Tryz.prog ref10_number_r K)
def ref10_number_l5 (t0 t3 : AV) (H : Heap) (K : Kt) : Prop := ALoop Tryz.prog ref10_number_c5 (ref10_number_Q5 K) (ref10_number_fr5 t0 t3) H
def ref10_number_b5 (t0 t3 : AV) (H : Heap) (K : Kt) (Kb5 : Lt) : Prop :=
  aBin .gtr false t0 (.int .i64 0) fun t19 =>
  aTest t19
  (aBin .rem false t0 (.int .i64 10) fun t23 =>
  aBin .add false (.int .i64 48) t23 fun t24 =>
  aConv .u8 t24 fun t25 =>
  aBuildS 1 [(.int .u8 0)] 1 [(0, t25)] fun t26 =>
  aConvB t26 fun t27 =>
  aBin .add false t27 t3 fun t29 =>
  aBin .quo false t0 (.int .i64 10) fun t21 =>
  Kb5 (ref10_number_fr5 t21 t29) H)
  (K t3 H)
def ref10_number (t0 : AV) (H : Heap) (K : Kt) : Prop :=
  aBin .lss false t0 (.int .i64 0) fun t5 =>
  aTest t5
  (aUn .neg t0 fun t7 =>
  ACalls Tryz.prog n_ref10_number [t7] H fun t8 H =>
  aBin .add false (.str [45]) t8 fun t9 =>
  K t9 H)
  (aBin .rem false t0 (.int .i64 10) fun t11 =>
  aBin .add false (.int .i64 48) t11 fun t12 =>
  aConv .u8 t12 fun t13 =>
  aBuildS 1 [(.int .u8 0)] 1 [(0, t13)] fun t14 =>
  aConvB t14 fun t15 =>
  aBin .quo false t0 (.int .i64 10) fun t17 =>
  ref10_number_l5 t17 t15 H K)
theorem ref10_number_b5_eq (t0 t3 : AV) (H : Heap) (K : Kt) (Kb5 : Lt) : awp Tryz.prog ref10_number_M ref10_number_c5 (roundQ ref10_number_m5 Kb5 (ref10_number_Q5 K)) (ref10_number_fr5 t0 t3) H = ref10_number_b5 t0 t3 H K Kb5 := by kernel_rfl
theorem ref10_number_loop5 {t0 t3 : AV} {H : Heap} {K : Kt} (Inv : Nat → AV → AV → Heap → Prop) (n : Nat) (h0 : HSc H → Inv n t0 t3 H)
    (round : ∀ n t0 t3 H', Inv n t0 t3 H' → HSc H' → H.length ≤ H'.length → (ref10_number_fr5 t0 t3).all (AV.sc H'.length) = true → ∀ Kb5 : Lt, (∀ F'' H'', (∃ n', n' < n ∧ Back H.length (fun F2 H2 => ∃ t0 t3, F2 = ref10_number_fr5 t0 t3 ∧ Inv n' t0 t3 H2) F'' H'') → Kb5 F'' H'') → ref10_number_b5 t0 t3 H' K Kb5) : ref10_number_l5 t0 t3 H K :=
  aloop (M := ref10_number_M) ref10_number_m5 (fun n F H => ∃ t0 t3, F = ref10_number_fr5 t0 t3 ∧ Inv n t0 t3 H) n (fun hs _ => ⟨t0, t3, rfl, h0 hs⟩) (fun n F H' ⟨t0, t3, hF, hI⟩ h1 h2 h3 => by subst hF; rw [ref10_number_b5_eq]; exact round n t0 t3 H' hI h1 h2 h3 _ (fun _ _ h => h))
theorem ref10_number_eq (t0 : AV) (H : Heap) (K : Kt) : awp Tryz.prog ref10_number_M ref10_number_c (retQ Tryz.prog ref10_number_r K) (t0 :: List.replicate 30 .unk) H = ref10_number t0 H K := by kernel_rfl
theorem ref10_number_ok {t0 : AV} {H : Heap} {K : Kt} (h : HSc H → ref10_number t0 H K) : ACalls Tryz.prog n_ref10_number [t0] H K :=
  acalls_body (M := ref10_number_M) Tryz.func106 (c := ref10_number_c) (by kernel_rfl) (fun hs => (ref10_number_eq t0 H K).mpr (h hs))
/-! ### 107: amortcostref10.list -/
def ref10_list_M : Nat → List Bool
  | 3 => rl false [0,3,4,2,23]
  | _ => []
noncomputable def ref10_list_c : Code := Tryz.f107.body.getD .skip
noncomputable def ref10_list_r : List ResultVar := Tryz.f107.results.toList
def ref10_list_fr3 (t0 t1 t2 t7 t8 : AV) : List AV := t0 :: t1 :: t2 :: ux 4 (t7 :: t8 :: ux 23 [])
def ref10_list_m3 : List Bool := ref10_list_M 3
noncomputable def ref10_list_c3 : Code := codeAt [1, 1, 0, 1, 0, 0] ref10_list_c
def ref10_list_Q3 (K : Kt) : AExit → List AV → Heap → Prop := contAt Tryz.prog ref10_list_M [1, 1, 0, 1, 0] ref10_list_c (retQ Tryz.prog ref10_list_r K)
def ref10_list_l3 (t0 t1 t2 t7 t8 : AV) (H : Heap) (K : Kt) : Prop := ALoop Tryz.prog ref10_list_c3 (ref10_list_Q3 K) (ref10_list_fr3 t0 t1 t2 t7 t8) H
def ref10_list_j1 (t0 t1 t2 t7 t8 : AV) (H : Heap) (K : Kt) (Kb3 : Lt) : Prop :=
  aPure H (fun K' => K' t7 H) fun t19 =>
  aPure H (fun K' => K' t0 H) fun t20 =>
  aPure H (fun K' => K' t1 H) fun t21 =>
  aPure H (fun K' => K' t8 H) fun t22 =>
  aPure H (fun K' => aIdxA 3 t21 t22 (K' · H)) fun t23 =>
  aPure H (fun K' => aLoadC true 3 t23 H (K' · H)) fun t24 =>
  aPure H (fun K' => K' t2 H) fun t25 =>
  aPure H (fun K' => K' t8 H) fun t26 =>
  aPure H (fun K' => aIdxA 3 t25 t26 (K' · H)) fun t27 =>
  aPure H (fun K' => aLoadC true 3 t27 H (K' · H)) fun t28 =>
  aPureX H (fun H K' => ACalls Tryz.prog n_ref10_format [t20, t24, t28] H K') fun t29 =>
  aPure H (fun K' => aBin .add false t19 t29 (K' · H)) fun t30 =>
  aPure H (fun K' => K' t30 H) fun t7 =>
  aBin .add false t8 (.int .i64 1) fun t14 =>
  Kb3 (ref10_list_fr3 t0 t1 t2 t7 t14) H
def ref10_list_b3 (t0 t1 t2 t7 t8 : AV) (H : Heap) (K : Kt) (Kb3 : Lt) : Prop :=
  aLen 1 t1 fun t11 =>
  aBin .lss false t8 t11 fun t12 =>
  aTest t12
  (aBin .gtr false t8 (.int .i64 0) fun t16 =>
  aTest t16
  (aBin .add false t7 (.str [44, 32]) fun t18 =>
  ref10_list_j1 t0 t1 t2 t18 t8 H K Kb3)
  (ref10_list_j1 t0 t1 t2 t7 t8 H K Kb3))
  (K t7 H)
def ref10_list (t0 t1 t2 : AV) (H : Heap) (K : Kt) : Prop :=
  ref10_list_l3 t0 t1 t2 (.str []) (.int .i64 0) H K
theorem ref10_list_b3_eq (t0 t1 t2 t7 t8 : AV) (H : Heap) (K : Kt) (Kb3 : Lt) : awp Tryz.prog ref10_list_M ref10_list_c3 (roundQ ref10_list_m3 Kb3 (ref10_list_Q3 K)) (ref10_list_fr3 t0 t1 t2 t7 t8) H = ref10_list_b3 t0 t1 t2 t7 t8 H K Kb3 := by kernel_rfl
theorem ref10_list_loop3 {t0 t1 t2 t7 t8 : AV} {H : Heap} {K : Kt} (Inv : Nat → AV → AV → Heap → Prop) (n : Nat) (h0 : HSc H → Inv n t7 t8 H)
    (round : ∀ n t7 t8 H', Inv n t7 t8 H' → HSc H' → H.length ≤ H'.length → (ref10_list_fr3 t0 t1 t2 t7 t8).all (AV.sc H'.length) = true → ∀ Kb3 : Lt, (∀ F'' H'', (∃ n', n' < n ∧ Back H.length (fun F2 H2 => ∃ t7 t8, F2 = ref10_list_fr3 t0 t1 t2 t7 t8 ∧ Inv n' t7 t8 H2) F'' H'') → Kb3 F'' H'') → ref10_list_b3 t0 t1 t2 t7 t8 H' K Kb3) : ref10_list_l3 t0 t1 t2 t7 t8 H K :=
  aloop (M := ref10_list_M) ref10_list_m3 (fun n F H => ∃ t7 t8, F = ref10_list_fr3 t0 t1 t2 t7 t8 ∧ Inv n t7 t8 H) n (fun hs _ => ⟨t7, t8, rfl, h0 hs⟩) (fun n F H' ⟨t7, t8, hF, hI⟩ h1 h2 h3 => by subst hF; rw [ref10_list_b3_eq]; exact round n t7 t8 H' hI h1 h2 h3 _ (fun _ _ h => h))
theorem ref10_list_eq (t0 t1 t2 : AV) (H : Heap) (K : Kt) : awp Tryz.prog ref10_list_M ref10_list_c (retQ Tryz.prog ref10_list_r K) (t0 :: t1 :: t2 :: List.replicate 29 .unk) H = ref10_list t0 t1 t2 H K := by kernel_rfl
theorem ref10_list_ok {t0 t1 t2 : AV} {H : Heap} {K : Kt} (h : HSc H → ref10_list t0 t1 t2 H K) : ACalls Tryz.prog n_ref10_list [t0, t1, t2] H K :=
  acalls_body (M := ref10_list_M) Tryz.func107 (c := ref10_list_c) (by kernel_rfl) (fun hs => (ref10_list_eq t0 t1 t2 H K).mpr (h hs))
end Go.Proofs.YtfpmdpldabopjaaGreatDoor
