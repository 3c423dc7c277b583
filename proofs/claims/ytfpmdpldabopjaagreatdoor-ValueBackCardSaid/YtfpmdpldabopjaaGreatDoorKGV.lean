/- The shallow forms of functions of the program, printed by a program (absgen.py) off the translation, each tied to the model by the kernel. -/
import Derived.Test.YtfpmdpldabopjaaGreatDoorKNum
import Derived.Test.YtfpmdpldabopjaaGreatDoorProg
import Derived.KernelRfl
namespace Go.Proofs.YtfpmdpldabopjaaGreatDoor
open Go Go.Abs
set_option linter.unusedVariables false
set_option maxRecDepth 100000
/-! ### 11: amortcostlaw10.ValueBack -/
def law10_ValueBack_M (_ : Nat) : List Bool := []
noncomputable def law10_ValueBack_c : Code := Tryz.f11.body.getD .skip
noncomputable def law10_ValueBack_r : List ResultVar := Tryz.f11.results.toList
def law10_ValueBack (t0 t1 t2 : AV) (H : Heap) (K : Kt) : Prop :=
  aBox t1 H fun t4 H =>
  aBox t2 H fun t5 H =>
  ACalls Tryz.prog n_keep_Data [t0] H fun t10 H =>
  aUn .not t10 fun t11 =>
  aGuardJ t11 false H (fun K' => aLoad true 3 t4 H (K' · H)) fun t13 H =>
  aGuardJ t11 false H (fun K' => ACalls Tryz.prog n_keep_Value [t13] H K') fun t14 H =>
  aGuardJ t11 false H (fun K' => aUn .not t14 (K' · H)) fun t15 H =>
  aPick t11 (.bool true) t15 fun t16 =>
  aGuardJ t16 false H (fun K' => aLoad true 3 t5 H (K' · H)) fun t18 H =>
  aGuardJ t16 false H (fun K' => ACalls Tryz.prog n_keep_Type [t18] H K') fun t19 H =>
  aGuardJ t16 false H (fun K' => aUn .not t19 (K' · H)) fun t20 H =>
  aPick t16 (.bool true) t20 fun t21 =>
  aGuardJ t21 false H (fun K' => K' t0 H) fun t23 H =>
  aGuardJ t21 false H (fun K' => aLoad true 3 t4 H (K' · H)) fun t24 H =>
  aGuardJ t21 false H (fun K' => aLoad true 3 t5 H (K' · H)) fun t25 H =>
  aGuardJ t21 false H (fun K' => ACalls Tryz.prog n_ref10_HasType [t23, t24, t25] H K') fun t26 H =>
  aGuardJ t21 false H (fun K' => aUn .not t26 (K' · H)) fun t27 H =>
  aPick t21 (.bool true) t27 fun t28 =>
  aTest t28
  (K (.bool true) H)
  (aPure H (fun K' => K' t0 H) fun t30 =>
  aPure H (fun K' => aLoadC true 3 t5 H (K' · H)) fun t31 =>
  aPure H (fun K' => K' t0 H) fun t32 =>
  aPure H (fun K' => aLoadC true 3 t4 H (K' · H)) fun t33 =>
  aPure H (fun K' => aLoadC true 3 t5 H (K' · H)) fun t34 =>
  aPureX H (fun H K' => ACalls Tryz.prog n_value_Format [t32, t33, t34] H K') fun t35 =>
  aPureX H (fun H K' => ACalls Tryz.prog n_value_Parse [t30, t31, t35] H K') fun t36 =>
  aPure H (fun K' => K' t36 H) fun t29 =>
  aPure H (fun K' => aExt t29 0 (K' · H)) fun t37 =>
  aPure H (fun K' => aExt t29 1 (K' · H)) fun t38 =>
  aNew [(.int .i64 0), (.int .i64 0), .snil] H fun t7 H =>
  aStore 3 t7 t37 H fun H =>
  aPure H (fun K' => K' t38 H) fun t8 =>
  aGuardJ t8 true H (fun K' => aLoad true 3 t4 H (K' · H)) fun t41 H =>
  aGuardJ t8 true H (fun K' => aLoad true 3 t7 H (K' · H)) fun t42 H =>
  aGuardJ t8 true H (fun K' => ACalls Tryz.prog n_keep_SameValue [t41, t42] H K') fun t43 H =>
  aPick t8 t43 (.bool false) fun t44 =>
  aGuardJ t44 true H (fun K' => ACalls Tryz.prog n_law10_awake [] H K') fun t46 H =>
  aPick t44 t46 (.bool false) fun t47 =>
  K t47 H)
theorem law10_ValueBack_eq (t0 t1 t2 : AV) (H : Heap) (K : Kt) : awp Tryz.prog law10_ValueBack_M law10_ValueBack_c (retQ Tryz.prog law10_ValueBack_r K) (t0 :: t1 :: t2 :: List.replicate 45 .unk) H = law10_ValueBack t0 t1 t2 H K := by kernel_rfl
theorem law10_ValueBack_ok {t0 t1 t2 : AV} {H : Heap} {K : Kt} (h : HSc H → law10_ValueBack t0 t1 t2 H K) : ACalls Tryz.prog n_law10_ValueBack [t0, t1, t2] H K :=
  acalls_body (M := law10_ValueBack_M) Tryz.func11 (c := law10_ValueBack_c) (by kernel_rfl) (fun hs => (law10_ValueBack_eq t0 t1 t2 H K).mpr (h hs))
/-! ### 38: value.Parse -/
def value_Parse_M (_ : Nat) : List Bool := []
noncomputable def value_Parse_c : Code := Tryz.f38.body.getD .skip
noncomputable def value_Parse_r : List ResultVar := Tryz.f38.results.toList
def value_Parse (t0 t1 t2 : AV) (H : Heap) (K : Kt) : Prop :=
  aBox t1 H fun t4 H =>
  aNew [(.int .i64 0), (.int .i64 0), .snil] H fun t6 H =>
  aLoad true 3 t4 H fun t11 =>
  ACalls Tryz.prog n_value_known [t0, t11] H fun t12 H =>
  aUn .not t12 fun t13 =>
  aTest t13
  (aBuild [(.int .i64 0), (.int .i64 0), .snil] [(0, 1), (1, 1), (2, 1)] [] fun t14 =>
  aStore 3 t6 t14 H fun H =>
  aLoad true 3 t6 H fun r0 =>
  aRet [r0, (.bool false)] (K · H))
  (aBuild [.snil, (.str []), (.int .i64 0), (.bool false)] [(0, 1), (1, 1), (2, 1), (3, 1)] [(0, t0), (1, t2), (2, (.int .i64 5000))] fun t17 =>
  aBox t17 H fun t18 H =>
  aLoad true 3 t4 H fun t20 =>
  ACalls Tryz.prog n_value_reader_value [t18, t20] H fun t21 H =>
  aNew [(.int .i64 0), (.int .i64 0), .snil] H fun t9 H =>
  aStore 3 t9 t21 H fun H =>
  aNil t18 fun t23 =>
  aFld 3 t23 fun t24 =>
  aLoad false 1 t24 H fun t25 =>
  aGuardJ t25 false H (fun K' => K' t18 H) fun t27 H =>
  aGuardJ t25 false H (fun K' => aNil t27 (K' · H)) fun t28 H =>
  aGuardJ t25 false H (fun K' => aFld 1 t28 (K' · H)) fun t29 H =>
  aGuardJ t25 false H (fun K' => aLoad false 1 t29 H (K' · H)) fun t30 H =>
  aGuardJ t25 false H (fun K' => aBin .neq false t30 (.str []) (K' · H)) fun t31 H =>
  aPick t25 (.bool true) t31 fun t32 =>
  aGuardJ t32 false H (fun K' => K' t0 H) fun t34 H =>
  aGuardJ t32 false H (fun K' => aLoad true 3 t9 H (K' · H)) fun t35 H =>
  aGuardJ t32 false H (fun K' => aLoad true 3 t4 H (K' · H)) fun t36 H =>
  aGuardJ t32 false H (fun K' => ACalls Tryz.prog n_value_Format [t34, t35, t36] H K') fun t37 H =>
  aGuardJ t32 false H (fun K' => K' t2 H) fun t38 H =>
  aGuardJ t32 false H (fun K' => aBin .neq false t37 t38 (K' · H)) fun t39 H =>
  aPick t32 (.bool true) t39 fun t40 =>
  aTest t40
  (aBuild [(.int .i64 0), (.int .i64 0), .snil] [(0, 1), (1, 1), (2, 1)] [] fun t41 =>
  aStore 3 t6 t41 H fun H =>
  aLoad true 3 t6 H fun r0 =>
  aRet [r0, (.bool false)] (K · H))
  (aLoad true 3 t9 H fun t42 =>
  aStore 3 t6 t42 H fun H =>
  aLoad true 3 t6 H fun r0 =>
  aRet [r0, (.bool true)] (K · H)))
theorem value_Parse_eq (t0 t1 t2 : AV) (H : Heap) (K : Kt) : awp Tryz.prog value_Parse_M value_Parse_c (retQ Tryz.prog value_Parse_r K) (t0 :: t1 :: t2 :: List.replicate 40 .unk) H = value_Parse t0 t1 t2 H K := by kernel_rfl
theorem value_Parse_ok {t0 t1 t2 : AV} {H : Heap} {K : Kt} (h : HSc H → value_Parse t0 t1 t2 H K) : ACalls Tryz.prog n_value_Parse [t0, t1, t2] H K :=
  acalls_body (M := value_Parse_M) Tryz.func38 (c := value_Parse_c) (by kernel_rfl) (fun hs => (value_Parse_eq t0 t1 t2 H K).mpr (h hs))
/-! ### 73: (*value.reader).value -/
def value_reader_value_M (_ : Nat) : List Bool := []
noncomputable def value_reader_value_c : Code := Tryz.f73.body.getD .skip
noncomputable def value_reader_value_r : List ResultVar := Tryz.f73.results.toList
def value_reader_value (t0 t1 : AV) (H : Heap) (K : Kt) : Prop :=
  aBox t1 H fun t3 H =>
  aNew [(.int .i64 0), (.int .i64 0), .snil] H fun t4 H =>
  aNil t0 fun t6 =>
  aFld 2 t6 fun t7 =>
  aLoad false 1 t7 H fun t8 =>
  aBin .sub false t8 (.int .i64 1) fun t9 =>
  aNil t0 fun t10 =>
  aFld 2 t10 fun t11 =>
  aStore 1 t11 t9 H fun H =>
  aNil t0 fun t13 =>
  aFld 3 t13 fun t14 =>
  aLoad false 1 t14 H fun t15 =>
  aGuardJ t15 false H (fun K' => K' t0 H) fun t17 H =>
  aGuardJ t15 false H (fun K' => aNil t17 (K' · H)) fun t18 H =>
  aGuardJ t15 false H (fun K' => aFld 2 t18 (K' · H)) fun t19 H =>
  aGuardJ t15 false H (fun K' => aLoad false 1 t19 H (K' · H)) fun t20 H =>
  aGuardJ t15 false H (fun K' => aBin .lss false t20 (.int .i64 0) (K' · H)) fun t21 H =>
  aPick t15 (.bool true) t21 fun t22 =>
  aTest t22
  (ACalls Tryz.prog n_value_reader_fail [t0] H fun t24 H =>
  aBuild [(.int .i64 0), (.int .i64 0), .snil] [(0, 1), (1, 1), (2, 1)] [] fun t25 =>
  aStore 3 t4 t25 H fun H =>
  aLoad true 3 t4 H fun r0 =>
  K r0 H)
  (aFld 0 t3 fun t26 =>
  aLoad false 1 t26 H fun t27 =>
  aBin .eql false t27 (.int .i64 1) fun t29 =>
  aTest t29
  (ACalls Tryz.prog n_value_reader_number [t0] H fun t31 H =>
  aBuild [(.int .i64 0), (.int .i64 0), .snil] [(0, 1), (1, 1), (2, 1)] [(0, (.int .i64 3)), (1, t31)] fun t32 =>
  aStore 3 t4 t32 H fun H =>
  aLoad true 3 t4 H fun r0 =>
  K r0 H)
  (aBin .eql false t27 (.int .i64 2) fun t34 =>
  aTest t34
  (ACalls Tryz.prog n_value_reader_accept [t0, (.str [116, 114, 117, 101])] H fun t36 H =>
  aTest t36
  (aBuild [(.int .i64 0), (.int .i64 0), .snil] [(0, 1), (1, 1), (2, 1)] [(0, (.int .i64 2)), (1, (.int .i64 1))] fun t37 =>
  aStore 3 t4 t37 H fun H =>
  aLoad true 3 t4 H fun r0 =>
  K r0 H)
  (ACalls Tryz.prog n_value_reader_expect [t0, (.str [102, 97, 108, 115, 101])] H fun t39 H =>
  aBuild [(.int .i64 0), (.int .i64 0), .snil] [(0, 1), (1, 1), (2, 1)] [(0, (.int .i64 2))] fun t40 =>
  aStore 3 t4 t40 H fun H =>
  aLoad true 3 t4 H fun r0 =>
  K r0 H))
  (aBin .eql false t27 (.int .i64 3) fun t42 =>
  aTest t42
  (ACalls Tryz.prog n_value_reader_expect [t0, (.str [40, 41])] H fun t44 H =>
  aBuild [(.int .i64 0), (.int .i64 0), .snil] [(0, 1), (1, 1), (2, 1)] [(0, (.int .i64 1))] fun t45 =>
  aStore 3 t4 t45 H fun H =>
  aLoad true 3 t4 H fun r0 =>
  K r0 H)
  (aBin .eql false t27 (.int .i64 6) fun t47 =>
  aTest t47
  (aFld 2 t3 fun t49 =>
  aLoad false 1 t49 H fun t50 =>
  ACalls Tryz.prog n_value_reader_list [t0, t50] H fun t51 H =>
  aBuild [(.int .i64 0), (.int .i64 0), .snil] [(0, 1), (1, 1), (2, 1)] [(0, (.int .i64 4)), (2, t51)] fun t52 =>
  aStore 3 t4 t52 H fun H =>
  aLoad true 3 t4 H fun r0 =>
  K r0 H)
  (aBin .eql false t27 (.int .i64 5) fun t54 =>
  aTest t54
  (aLoad true 3 t3 H fun t56 =>
  ACalls Tryz.prog n_value_reader_cons [t0, t56] H fun t57 H =>
  aStore 3 t4 t57 H fun H =>
  aLoad true 3 t4 H fun r0 =>
  K r0 H)
  (aBin .eql false t27 (.int .i64 7) fun t59 =>
  aTest t59
  (aFld 2 t3 fun t61 =>
  aLoad false 1 t61 H fun t62 =>
  aIdxA 3 t62 (.int .i64 0) fun t63 =>
  aLoad true 3 t63 H fun t64 =>
  ACalls Tryz.prog n_value_reader_array [t0, t64] H fun t65 H =>
  aStore 3 t4 t65 H fun H =>
  aLoad true 3 t4 H fun r0 =>
  K r0 H)
  (aBin .eql false t27 (.int .i64 8) fun t67 =>
  aTest t67
  (ACalls Tryz.prog n_value_reader_expect [t0, (.str [114, 101, 102])] H fun t69 H =>
  aFld 2 t3 fun t71 =>
  aLoad false 1 t71 H fun t72 =>
  ACalls Tryz.prog n_value_reader_list [t0, t72] H fun t73 H =>
  aBuild [(.int .i64 0), (.int .i64 0), .snil] [(0, 1), (1, 1), (2, 1)] [(0, (.int .i64 7)), (2, t73)] fun t74 =>
  aStore 3 t4 t74 H fun H =>
  aLoad true 3 t4 H fun r0 =>
  K r0 H)
  (ACalls Tryz.prog n_value_reader_expect [t0, (.str [102, 110, 35])] H fun t76 H =>
  ACalls Tryz.prog n_value_reader_number [t0] H fun t78 H =>
  aBuild [(.int .i64 0), (.int .i64 0), .snil] [(0, 1), (1, 1), (2, 1)] [(0, (.int .i64 8)), (1, t78)] fun t79 =>
  aStore 3 t4 t79 H fun H =>
  aLoad true 3 t4 H fun r0 =>
  K r0 H))))))))
theorem value_reader_value_eq (t0 t1 : AV) (H : Heap) (K : Kt) : awp Tryz.prog value_reader_value_M value_reader_value_c (retQ Tryz.prog value_reader_value_r K) (t0 :: t1 :: List.replicate 78 .unk) H = value_reader_value t0 t1 H K := by kernel_rfl
theorem value_reader_value_ok {t0 t1 : AV} {H : Heap} {K : Kt} (h : HSc H → value_reader_value t0 t1 H K) : ACalls Tryz.prog n_value_reader_value [t0, t1] H K :=
  acalls_body (M := value_reader_value_M) Tryz.func73 (c := value_reader_value_c) (by kernel_rfl) (fun hs => (value_reader_value_eq t0 t1 H K).mpr (h hs))
/-! ### 127: (*value.reader).fail -/
def value_reader_fail_M (_ : Nat) : List Bool := []
noncomputable def value_reader_fail_c : Code := Tryz.f127.body.getD .skip
noncomputable def value_reader_fail_r : List ResultVar := Tryz.f127.results.toList
def value_reader_fail (t0 : AV) (H : Heap) (K : Kt) : Prop :=
  aNil t0 fun t4 =>
  aFld 3 t4 fun t5 =>
  aStore 1 t5 (.bool true) H fun H =>
  aNil t0 fun t6 =>
  aFld 1 t6 fun t7 =>
  aStore 1 t7 (.str []) H fun H =>
  aRet [] (K · H)
theorem value_reader_fail_eq (t0 : AV) (H : Heap) (K : Kt) : awp Tryz.prog value_reader_fail_M value_reader_fail_c (retQ Tryz.prog value_reader_fail_r K) (t0 :: List.replicate 7 .unk) H = value_reader_fail t0 H K := by kernel_rfl
theorem value_reader_fail_ok {t0 : AV} {H : Heap} {K : Kt} (h : HSc H → value_reader_fail t0 H K) : ACalls Tryz.prog n_value_reader_fail [t0] H K :=
  acalls_body (M := value_reader_fail_M) Tryz.func127 (c := value_reader_fail_c) (by kernel_rfl) (fun hs => (value_reader_fail_eq t0 H K).mpr (h hs))
/-! ### 128: (*value.reader).number -/
def value_reader_number_M : Nat → List Bool
  | 2 => rl false [0,1,2,1,62]
  | _ => []
noncomputable def value_reader_number_c : Code := Tryz.f128.body.getD .skip
noncomputable def value_reader_number_r : List ResultVar := Tryz.f128.results.toList
def value_reader_number_fr2 (t0 t3 : AV) : List AV := t0 :: ux 2 (t3 :: ux 62 [])
def value_reader_number_m2 : List Bool := value_reader_number_M 2
noncomputable def value_reader_number_c2 : Code := codeAt [1, 1, 0, 0, 0] value_reader_number_c
def value_reader_number_Q2 (K : Kt) : AExit → List AV → Heap → Prop := contAt Tryz.prog value_reader_number_M [1, 1, 0, 0] value_reader_number_c (retQ Tryz.prog value_reader_number_r K)
def value_reader_number_l2 (t0 t3 : AV) (H : Heap) (K : Kt) : Prop := ALoop Tryz.prog value_reader_number_c2 (value_reader_number_Q2 K) (value_reader_number_fr2 t0 t3) H
def value_reader_number_b2 (t0 t3 : AV) (H : Heap) (K : Kt) (Kb2 : Lt) : Prop :=
  aNil t0 fun t8 =>
  aFld 1 t8 fun t9 =>
  aLoad false 1 t9 H fun t10 =>
  aLen 0 t10 fun t11 =>
  aBin .lss false t3 t11 fun t12 =>
  aGuardJ t12 true H (fun K' => K' t0 H) fun t14 H =>
  aGuardJ t12 true H (fun K' => aNil t14 (K' · H)) fun t15 H =>
  aGuardJ t12 true H (fun K' => aFld 1 t15 (K' · H)) fun t16 H =>
  aGuardJ t12 true H (fun K' => aLoad false 1 t16 H (K' · H)) fun t17 H =>
  aGuardJ t12 true H (fun K' => K' t3 H) fun t18 H =>
  aGuardJ t12 true H (fun K' => aIdxS t17 t18 (K' · H)) fun t19 H =>
  aGuardJ t12 true H (fun K' => aBin .eql false t19 (.int .u8 45) (K' · H)) fun t20 H =>
  aGuardJ t12 true H (fun K' => K' t20 H) fun t21 H =>
  aGuardJ t21 false H (fun K' => K' t0 H) fun t22 H =>
  aGuardJ t21 false H (fun K' => aNil t22 (K' · H)) fun t23 H =>
  aGuardJ t21 false H (fun K' => aFld 1 t23 (K' · H)) fun t24 H =>
  aGuardJ t21 false H (fun K' => aLoad false 1 t24 H (K' · H)) fun t25 H =>
  aGuardJ t21 false H (fun K' => K' t3 H) fun t26 H =>
  aGuardJ t21 false H (fun K' => aIdxS t25 t26 (K' · H)) fun t27 H =>
  aGuardJ t21 false H (fun K' => aBin .geq false t27 (.int .u8 48) (K' · H)) fun t28 H =>
  aGuardJ t21 false H (fun K' => K' t28 H) fun t29 H =>
  aGuardJ t29 true H (fun K' => K' t0 H) fun t30 H =>
  aGuardJ t29 true H (fun K' => aNil t30 (K' · H)) fun t31 H =>
  aGuardJ t29 true H (fun K' => aFld 1 t31 (K' · H)) fun t32 H =>
  aGuardJ t29 true H (fun K' => aLoad false 1 t32 H (K' · H)) fun t33 H =>
  aGuardJ t29 true H (fun K' => K' t3 H) fun t34 H =>
  aGuardJ t29 true H (fun K' => aIdxS t33 t34 (K' · H)) fun t35 H =>
  aGuardJ t29 true H (fun K' => aBin .leq false t35 (.int .u8 57) (K' · H)) fun t36 H =>
  aGuardJ t21 false H (fun K' => aPick t29 t36 (.bool false) (K' · H)) fun t37 H =>
  aGuardJ t12 true H (fun K' => aPick t21 (.bool true) t37 (K' · H)) fun t38 H =>
  aPick t12 t38 (.bool false) fun t39 =>
  aTest t39
  (aBin .add false t3 (.int .i64 1) fun t41 =>
  Kb2 (value_reader_number_fr2 t0 t41) H)
  (aNil t0 fun t44 =>
  aFld 1 t44 fun t45 =>
  aLoad false 1 t45 H fun t46 =>
  aSlice 0 0 t46 none (some t3) fun t48 =>
  ACalls Tryz.prog n_strconv_ParseInt [t48, (.int .i64 10), (.int .i64 64)] H fun t49 H =>
  aExt t49 0 fun t50 =>
  aExt t49 1 fun t51 =>
  aNilCmp true .neq t51 fun t53 =>
  aTest t53
  (ACalls Tryz.prog n_value_reader_fail [t0] H fun t55 H =>
  K (.int .i64 0) H)
  (aNil t0 fun t58 =>
  aFld 1 t58 fun t59 =>
  aLoad false 1 t59 H fun t60 =>
  aSlice 0 0 t60 (some t3) none fun t62 =>
  aNil t0 fun t63 =>
  aFld 1 t63 fun t64 =>
  aStore 1 t64 t62 H fun H =>
  K t50 H))
def value_reader_number (t0 : AV) (H : Heap) (K : Kt) : Prop :=
  value_reader_number_l2 t0 (.int .i64 0) H K
theorem value_reader_number_b2_eq (t0 t3 : AV) (H : Heap) (K : Kt) (Kb2 : Lt) : awp Tryz.prog value_reader_number_M value_reader_number_c2 (roundQ value_reader_number_m2 Kb2 (value_reader_number_Q2 K)) (value_reader_number_fr2 t0 t3) H = value_reader_number_b2 t0 t3 H K Kb2 := by kernel_rfl
theorem value_reader_number_loop2 {t0 t3 : AV} {H : Heap} {K : Kt} (Inv : Nat → AV → Heap → Prop) (n : Nat) (h0 : HSc H → Inv n t3 H)
    (round : ∀ n t3 H', Inv n t3 H' → HSc H' → H.length ≤ H'.length → (value_reader_number_fr2 t0 t3).all (AV.sc H'.length) = true → ∀ Kb2 : Lt, (∀ F'' H'', (∃ n', n' < n ∧ Back H.length (fun F2 H2 => ∃ t3, F2 = value_reader_number_fr2 t0 t3 ∧ Inv n' t3 H2) F'' H'') → Kb2 F'' H'') → value_reader_number_b2 t0 t3 H' K Kb2) : value_reader_number_l2 t0 t3 H K :=
  aloop (M := value_reader_number_M) value_reader_number_m2 (fun n F H => ∃ t3, F = value_reader_number_fr2 t0 t3 ∧ Inv n t3 H) n (fun hs _ => ⟨t3, rfl, h0 hs⟩) (fun n F H' ⟨t3, hF, hI⟩ h1 h2 h3 => by subst hF; rw [value_reader_number_b2_eq]; exact round n t3 H' hI h1 h2 h3 _ (fun _ _ h => h))
theorem value_reader_number_eq (t0 : AV) (H : Heap) (K : Kt) : awp Tryz.prog value_reader_number_M value_reader_number_c (retQ Tryz.prog value_reader_number_r K) (t0 :: List.replicate 65 .unk) H = value_reader_number t0 H K := by kernel_rfl
theorem value_reader_number_ok {t0 : AV} {H : Heap} {K : Kt} (h : HSc H → value_reader_number t0 H K) : ACalls Tryz.prog n_value_reader_number [t0] H K :=
  acalls_body (M := value_reader_number_M) Tryz.func128 (c := value_reader_number_c) (by kernel_rfl) (fun hs => (value_reader_number_eq t0 H K).mpr (h hs))
/-! ### 129: (*value.reader).accept -/
def value_reader_accept_M (_ : Nat) : List Bool := []
noncomputable def value_reader_accept_c : Code := Tryz.f129.body.getD .skip
noncomputable def value_reader_accept_r : List ResultVar := Tryz.f129.results.toList
def value_reader_accept_j1 (t6 : AV) (H : Heap) (K : Kt) : Prop :=
  K t6 H
def value_reader_accept (t0 t1 : AV) (H : Heap) (K : Kt) : Prop :=
  aNil t0 fun t9 =>
  aFld 1 t9 fun t10 =>
  aLoad false 1 t10 H fun t11 =>
  ACalls Tryz.prog n_strings_CutPrefix [t11, t1] H fun t13 H =>
  aExt t13 0 fun t14 =>
  aExt t13 1 fun t15 =>
  aTest t15
  (aNil t0 fun t19 =>
  aFld 1 t19 fun t20 =>
  aStore 1 t20 t14 H fun H =>
  value_reader_accept_j1 t15 H K)
  (value_reader_accept_j1 t15 H K)
theorem value_reader_accept_eq (t0 t1 : AV) (H : Heap) (K : Kt) : awp Tryz.prog value_reader_accept_M value_reader_accept_c (retQ Tryz.prog value_reader_accept_r K) (t0 :: t1 :: List.replicate 20 .unk) H = value_reader_accept t0 t1 H K := by kernel_rfl
theorem value_reader_accept_ok {t0 t1 : AV} {H : Heap} {K : Kt} (h : HSc H → value_reader_accept t0 t1 H K) : ACalls Tryz.prog n_value_reader_accept [t0, t1] H K :=
  acalls_body (M := value_reader_accept_M) Tryz.func129 (c := value_reader_accept_c) (by kernel_rfl) (fun hs => (value_reader_accept_eq t0 t1 H K).mpr (h hs))
/-! ### 130: (*value.reader).expect -/
def value_reader_expect_M (_ : Nat) : List Bool := []
noncomputable def value_reader_expect_c : Code := Tryz.f130.body.getD .skip
noncomputable def value_reader_expect_r : List ResultVar := Tryz.f130.results.toList
def value_reader_expect (t0 t1 : AV) (H : Heap) (K : Kt) : Prop :=
  ACalls Tryz.prog n_value_reader_accept [t0, t1] H fun t6 H =>
  aUn .not t6 fun t7 =>
  aTest t7
  (ACalls Tryz.prog n_value_reader_fail [t0] H fun t9 H =>
  aRet [] (K · H))
  (aRet [] (K · H))
theorem value_reader_expect_eq (t0 t1 : AV) (H : Heap) (K : Kt) : awp Tryz.prog value_reader_expect_M value_reader_expect_c (retQ Tryz.prog value_reader_expect_r K) (t0 :: t1 :: List.replicate 8 .unk) H = value_reader_expect t0 t1 H K := by kernel_rfl
theorem value_reader_expect_ok {t0 t1 : AV} {H : Heap} {K : Kt} (h : HSc H → value_reader_expect t0 t1 H K) : ACalls Tryz.prog n_value_reader_expect [t0, t1] H K :=
  acalls_body (M := value_reader_expect_M) Tryz.func130 (c := value_reader_expect_c) (by kernel_rfl) (fun hs => (value_reader_expect_eq t0 t1 H K).mpr (h hs))
/-! ### 131: (*value.reader).list -/
def value_reader_list_M : Nat → List Bool
  | 4 => rl false [0,1,4,1,4,3,18]
  | _ => []
noncomputable def value_reader_list_c : Code := Tryz.f131.body.getD .skip
noncomputable def value_reader_list_r : List ResultVar := Tryz.f131.results.toList
def value_reader_list_fr4 (t0 t5 t10 t11 t12 : AV) : List AV := t0 :: ux 4 (t5 :: ux 4 (t10 :: t11 :: t12 :: ux 18 []))
def value_reader_list_m4 : List Bool := value_reader_list_M 4
noncomputable def value_reader_list_c4 : Code := codeAt [1, 1, 1, 0, 1, 0, 0] value_reader_list_c
def value_reader_list_Q4 (K : Kt) : AExit → List AV → Heap → Prop := contAt Tryz.prog value_reader_list_M [1, 1, 1, 0, 1, 0] value_reader_list_c (retQ Tryz.prog value_reader_list_r K)
def value_reader_list_l4 (t0 t5 t10 t11 t12 : AV) (H : Heap) (K : Kt) : Prop := ALoop Tryz.prog value_reader_list_c4 (value_reader_list_Q4 K) (value_reader_list_fr4 t0 t5 t10 t11 t12) H
def value_reader_list_j1 (t0 t5 t7 t10 t11 t12 : AV) (H : Heap) (K : Kt) (Kb4 : Lt) : Prop :=
  aLoad true 3 t7 H fun t23 =>
  ACalls Tryz.prog n_value_reader_value [t0, t23] H fun t24 H =>
  aBuildS 3 [(.int .i64 0), (.int .i64 0), .snil] 1 [(0, t24)] fun t25 =>
  aAppend e_api_Value 3 40 t5 t25 H fun t26 H =>
  aBin .add false t12 (.int .i64 1) fun t27 =>
  Kb4 (value_reader_list_fr4 t0 t26 t10 t11 t27) H
def value_reader_list_b4 (t0 t5 t10 t11 t12 : AV) (H : Heap) (K : Kt) (Kb4 : Lt) : Prop :=
  aBin .lss false t12 t11 fun t13 =>
  aTest t13
  (aIdxA 3 t10 t12 fun t15 =>
  aLoad true 3 t15 H fun t16 =>
  aNew [(.int .i64 0), (.int .i64 0), .snil] H fun t7 H =>
  aStore 3 t7 t16 H fun H =>
  aBin .gtr false t12 (.int .i64 0) fun t18 =>
  aTest t18
  (ACalls Tryz.prog n_value_reader_expect [t0, (.str [44, 32])] H fun t20 H =>
  value_reader_list_j1 t0 t5 t7 t10 t11 t12 H K Kb4)
  (value_reader_list_j1 t0 t5 t7 t10 t11 t12 H K Kb4))
  (ACalls Tryz.prog n_value_reader_expect [t0, (.str [41])] H fun t29 H =>
  K t5 H)
def value_reader_list (t0 t1 : AV) (H : Heap) (K : Kt) : Prop :=
  ACalls Tryz.prog n_value_reader_expect [t0, (.str [40])] H fun t9 H =>
  aLen 1 t1 fun t11 =>
  value_reader_list_l4 t0 .snil t1 t11 (.int .i64 0) H K
theorem value_reader_list_b4_eq (t0 t5 t10 t11 t12 : AV) (H : Heap) (K : Kt) (Kb4 : Lt) : awp Tryz.prog value_reader_list_M value_reader_list_c4 (roundQ value_reader_list_m4 Kb4 (value_reader_list_Q4 K)) (value_reader_list_fr4 t0 t5 t10 t11 t12) H = value_reader_list_b4 t0 t5 t10 t11 t12 H K Kb4 := by kernel_rfl
theorem value_reader_list_loop4 {t0 t5 t10 t11 t12 : AV} {H : Heap} {K : Kt} (Inv : Nat → AV → AV → Heap → Prop) (n : Nat) (h0 : HSc H → Inv n t5 t12 H)
    (round : ∀ n t5 t12 H', Inv n t5 t12 H' → HSc H' → H.length ≤ H'.length → (value_reader_list_fr4 t0 t5 t10 t11 t12).all (AV.sc H'.length) = true → ∀ Kb4 : Lt, (∀ F'' H'', (∃ n', n' < n ∧ Back H.length (fun F2 H2 => ∃ t5 t12, F2 = value_reader_list_fr4 t0 t5 t10 t11 t12 ∧ Inv n' t5 t12 H2) F'' H'') → Kb4 F'' H'') → value_reader_list_b4 t0 t5 t10 t11 t12 H' K Kb4) : value_reader_list_l4 t0 t5 t10 t11 t12 H K :=
  aloop (M := value_reader_list_M) value_reader_list_m4 (fun n F H => ∃ t5 t12, F = value_reader_list_fr4 t0 t5 t10 t11 t12 ∧ Inv n t5 t12 H) n (fun hs _ => ⟨t5, t12, rfl, h0 hs⟩) (fun n F H' ⟨t5, t12, hF, hI⟩ h1 h2 h3 => by subst hF; rw [value_reader_list_b4_eq]; exact round n t5 t12 H' hI h1 h2 h3 _ (fun _ _ h => h))
theorem value_reader_list_eq (t0 t1 : AV) (H : Heap) (K : Kt) : awp Tryz.prog value_reader_list_M value_reader_list_c (retQ Tryz.prog value_reader_list_r K) (t0 :: t1 :: List.replicate 29 .unk) H = value_reader_list t0 t1 H K := by kernel_rfl
theorem value_reader_list_ok {t0 t1 : AV} {H : Heap} {K : Kt} (h : HSc H → value_reader_list t0 t1 H K) : ACalls Tryz.prog n_value_reader_list [t0, t1] H K :=
  acalls_body (M := value_reader_list_M) Tryz.func131 (c := value_reader_list_c) (by kernel_rfl) (fun hs => (value_reader_list_eq t0 t1 H K).mpr (h hs))
end Go.Proofs.YtfpmdpldabopjaaGreatDoor
namespace Go.Proofs.YtfpmdpldabopjaaGreatDoor
open Go Go.Abs
set_option linter.unusedVariables false
set_option maxRecDepth 100000
/-! ### 132: (*value.reader).cons -/
def value_reader_cons_M : Nat → List Bool
  | 2 => rl false [0,1,2,3,86]
  | 7 => rl false [0,1,2,2,1,1,48,3,34]
  | _ => []
noncomputable def value_reader_cons_c : Code := Tryz.f132.body.getD .skip
noncomputable def value_reader_cons_r : List ResultVar := Tryz.f132.results.toList
def value_reader_cons_fr2 (t0 t3 t4 t5 : AV) : List AV := t0 :: ux 2 (t3 :: t4 :: t5 :: ux 86 [])
def value_reader_cons_m2 : List Bool := value_reader_cons_M 2
noncomputable def value_reader_cons_c2 : Code := codeAt [1, 1, 0, 0, 0] value_reader_cons_c
def value_reader_cons_Q2 (K : Kt) : AExit → List AV → Heap → Prop := contAt Tryz.prog value_reader_cons_M [1, 1, 0, 0] value_reader_cons_c (retQ Tryz.prog value_reader_cons_r K)
def value_reader_cons_l2 (t0 t3 t4 t5 : AV) (H : Heap) (K : Kt) : Prop := ALoop Tryz.prog value_reader_cons_c2 (value_reader_cons_Q2 K) (value_reader_cons_fr2 t0 t3 t4 t5) H
def value_reader_cons_fr7 (t0 t3 t4 t6 t55 t56 t57 : AV) : List AV := t0 :: ux 2 (t3 :: t4 :: ux 1 (t6 :: ux 48 (t55 :: t56 :: t57 :: ux 34 [])))
def value_reader_cons_m7 : List Bool := value_reader_cons_M 7
noncomputable def value_reader_cons_c7 : Code := codeAt [1, 1, 1, 1, 1, 0, 1, 0, 0] value_reader_cons_c
def value_reader_cons_Q7 (K : Kt) : AExit → List AV → Heap → Prop := contAt Tryz.prog value_reader_cons_M [1, 1, 1, 1, 1, 0, 1, 0] value_reader_cons_c (retQ Tryz.prog value_reader_cons_r K)
def value_reader_cons_l7 (t0 t3 t4 t6 t55 t56 t57 : AV) (H : Heap) (K : Kt) : Prop := ALoop Tryz.prog value_reader_cons_c7 (value_reader_cons_Q7 K) (value_reader_cons_fr7 t0 t3 t4 t6 t55 t56 t57) H
def value_reader_cons_j2 (t0 t4 : AV) (H : Heap) (K : Kt) : Prop :=
  ACalls Tryz.prog n_value_reader_fail [t0] H fun t90 H =>
  aBuild [(.int .i64 0), (.int .i64 0), .snil] [(0, 1), (1, 1), (2, 1)] [] fun t91 =>
  aStore 3 t4 t91 H fun H =>
  aLoad true 3 t4 H fun r0 =>
  K r0 H
def value_reader_cons_j1 (t0 t4 : AV) (H : Heap) (K : Kt) : Prop :=
  value_reader_cons_j2 t0 t4 H K
def value_reader_cons_j3 (t4 t11 : AV) (H : Heap) (K : Kt) (Kb7 : Lt) : Prop :=
  aLoad true 3 t11 H fun t87 =>
  aStore 3 t4 t87 H fun H =>
  aLoad true 3 t4 H fun r0 =>
  K r0 H
def value_reader_cons_b7 (t0 t3 t4 t6 t55 t56 t57 : AV) (H : Heap) (K : Kt) (Kb7 : Lt) : Prop :=
  aBin .lss false t57 t56 fun t58 =>
  aTest t58
  (aIdxA 2 t55 t57 fun t60 =>
  aLoad true 2 t60 H fun t61 =>
  aNew [(.str []), .snil] H fun t8 H =>
  aStore 2 t8 t61 H fun H =>
  aFld 0 t8 fun t62 =>
  aLoad false 1 t62 H fun t63 =>
  aBin .neq false t63 t6 fun t65 =>
  aTest t65
  (aBin .add false t57 (.int .i64 1) fun t88 =>
  Kb7 (value_reader_cons_fr7 t0 t3 t4 t6 t55 t56 t88) H)
  (aPure H (fun K' => K' t0 H) fun t67 =>
  aPure H (fun K' => aNil t67 (K' · H)) fun t68 =>
  aPure H (fun K' => aFld 0 t68 (K' · H)) fun t69 =>
  aPure H (fun K' => aLoadC false 1 t69 H (K' · H)) fun t70 =>
  aPure H (fun K' => aLoadC true 3 t3 H (K' · H)) fun t71 =>
  aPure H (fun K' => K' t57 H) fun t72 =>
  aPureX H (fun H K' => ACalls Tryz.prog n_typing_Fields [t70, t71, t72] H K') fun t73 =>
  aPure H (fun K' => K' t73 H) fun t66 =>
  aPure H (fun K' => aExt t66 0 (K' · H)) fun t74 =>
  aPure H (fun K' => aExt t66 1 (K' · H)) fun t75 =>
  aPure H (fun K' => K' t74 H) fun t9 =>
  aPure H (fun K' => K' t75 H) fun t10 =>
  aUn .not t10 fun t77 =>
  aTest t77
  (value_reader_cons_j1 t0 t4 H K)
  (aBuild [(.int .i64 0), (.int .i64 0), .snil] [(0, 1), (1, 1), (2, 1)] [(0, (.int .i64 5)), (1, t57)] fun t79 =>
  aNew [(.int .i64 0), (.int .i64 0), .snil] H fun t11 H =>
  aStore 3 t11 t79 H fun H =>
  aLen 1 t9 fun t81 =>
  aBin .gtr false t81 (.int .i64 0) fun t82 =>
  aTest t82
  (ACalls Tryz.prog n_value_reader_list [t0, t9] H fun t85 H =>
  aFld 2 t11 fun t86 =>
  aStore 1 t86 t85 H fun H =>
  value_reader_cons_j3 t4 t11 H K Kb7)
  (value_reader_cons_j3 t4 t11 H K Kb7))))
  (value_reader_cons_j1 t0 t4 H K)
def value_reader_cons_b2 (t0 t3 t4 t5 : AV) (H : Heap) (K : Kt) (Kb2 : Lt) : Prop :=
  aNil t0 fun t14 =>
  aFld 1 t14 fun t15 =>
  aLoad false 1 t15 H fun t16 =>
  aLen 0 t16 fun t17 =>
  aBin .lss false t5 t17 fun t18 =>
  aGuardJ t18 true H (fun K' => K' t0 H) fun t20 H =>
  aGuardJ t18 true H (fun K' => aNil t20 (K' · H)) fun t21 H =>
  aGuardJ t18 true H (fun K' => aFld 1 t21 (K' · H)) fun t22 H =>
  aGuardJ t18 true H (fun K' => aLoad false 1 t22 H (K' · H)) fun t23 H =>
  aGuardJ t18 true H (fun K' => K' t5 H) fun t24 H =>
  aGuardJ t18 true H (fun K' => aIdxS t23 t24 (K' · H)) fun t25 H =>
  aGuardJ t18 true H (fun K' => aConv .i32 t25 (K' · H)) fun t26 H =>
  aGuardJ t18 true H (fun K' => ACalls Tryz.prog n_strings_ContainsRune [(.str [40, 41, 44, 32, 91, 93]), t26] H K') fun t27 H =>
  aGuardJ t18 true H (fun K' => aUn .not t27 (K' · H)) fun t28 H =>
  aPick t18 t28 (.bool false) fun t29 =>
  aTest t29
  (aBin .add false t5 (.int .i64 1) fun t31 =>
  Kb2 (value_reader_cons_fr2 t0 t3 t4 t31) H)
  (aNil t0 fun t33 =>
  aFld 1 t33 fun t34 =>
  aLoad false 1 t34 H fun t35 =>
  aSlice 0 0 t35 none (some t5) fun t37 =>
  aNil t0 fun t40 =>
  aFld 1 t40 fun t41 =>
  aLoad false 1 t41 H fun t42 =>
  aSlice 0 0 t42 (some t5) none fun t44 =>
  aNil t0 fun t45 =>
  aFld 1 t45 fun t46 =>
  aStore 1 t46 t44 H fun H =>
  aPure H (fun K' => K' t0 H) fun t47 =>
  aPure H (fun K' => aNil t47 (K' · H)) fun t48 =>
  aPure H (fun K' => aFld 0 t48 (K' · H)) fun t49 =>
  aPure H (fun K' => aLoadC false 1 t49 H (K' · H)) fun t50 =>
  aPure H (fun K' => aFld 1 t3 (K' · H)) fun t51 =>
  aPure H (fun K' => aLoadC false 1 t51 H (K' · H)) fun t52 =>
  aPure H (fun K' => aIdxA 3 t50 t52 (K' · H)) fun t53 =>
  aPure H (fun K' => aFld 2 t53 (K' · H)) fun t54 =>
  aPure H (fun K' => aLoadC false 1 t54 H (K' · H)) fun t55 =>
  aPure H (fun K' => aLen 1 t55 (K' · H)) fun t56 =>
  aPure H (fun K' => K' (.int .i64 0) H) fun t57 =>
  value_reader_cons_l7 t0 t3 t4 t37 t55 t56 t57 H K)
def value_reader_cons (t0 t1 : AV) (H : Heap) (K : Kt) : Prop :=
  aBox t1 H fun t3 H =>
  aNew [(.int .i64 0), (.int .i64 0), .snil] H fun t4 H =>
  value_reader_cons_l2 t0 t3 t4 (.int .i64 0) H K
theorem value_reader_cons_b7_eq (t0 t3 t4 t6 t55 t56 t57 : AV) (H : Heap) (K : Kt) (Kb7 : Lt) : awp Tryz.prog value_reader_cons_M value_reader_cons_c7 (roundQ value_reader_cons_m7 Kb7 (value_reader_cons_Q7 K)) (value_reader_cons_fr7 t0 t3 t4 t6 t55 t56 t57) H = value_reader_cons_b7 t0 t3 t4 t6 t55 t56 t57 H K Kb7 := by kernel_rfl
theorem value_reader_cons_loop7 {t0 t3 t4 t6 t55 t56 t57 : AV} {H : Heap} {K : Kt} (Inv : Nat → AV → Heap → Prop) (n : Nat) (h0 : HSc H → Inv n t57 H)
    (round : ∀ n t57 H', Inv n t57 H' → HSc H' → H.length ≤ H'.length → (value_reader_cons_fr7 t0 t3 t4 t6 t55 t56 t57).all (AV.sc H'.length) = true → ∀ Kb7 : Lt, (∀ F'' H'', (∃ n', n' < n ∧ Back H.length (fun F2 H2 => ∃ t57, F2 = value_reader_cons_fr7 t0 t3 t4 t6 t55 t56 t57 ∧ Inv n' t57 H2) F'' H'') → Kb7 F'' H'') → value_reader_cons_b7 t0 t3 t4 t6 t55 t56 t57 H' K Kb7) : value_reader_cons_l7 t0 t3 t4 t6 t55 t56 t57 H K :=
  aloop (M := value_reader_cons_M) value_reader_cons_m7 (fun n F H => ∃ t57, F = value_reader_cons_fr7 t0 t3 t4 t6 t55 t56 t57 ∧ Inv n t57 H) n (fun hs _ => ⟨t57, rfl, h0 hs⟩) (fun n F H' ⟨t57, hF, hI⟩ h1 h2 h3 => by subst hF; rw [value_reader_cons_b7_eq]; exact round n t57 H' hI h1 h2 h3 _ (fun _ _ h => h))
theorem value_reader_cons_b2_eq (t0 t3 t4 t5 : AV) (H : Heap) (K : Kt) (Kb2 : Lt) : awp Tryz.prog value_reader_cons_M value_reader_cons_c2 (roundQ value_reader_cons_m2 Kb2 (value_reader_cons_Q2 K)) (value_reader_cons_fr2 t0 t3 t4 t5) H = value_reader_cons_b2 t0 t3 t4 t5 H K Kb2 := by kernel_rfl
theorem value_reader_cons_loop2 {t0 t3 t4 t5 : AV} {H : Heap} {K : Kt} (Inv : Nat → AV → Heap → Prop) (n : Nat) (h0 : HSc H → Inv n t5 H)
    (round : ∀ n t5 H', Inv n t5 H' → HSc H' → H.length ≤ H'.length → (value_reader_cons_fr2 t0 t3 t4 t5).all (AV.sc H'.length) = true → ∀ Kb2 : Lt, (∀ F'' H'', (∃ n', n' < n ∧ Back H.length (fun F2 H2 => ∃ t5, F2 = value_reader_cons_fr2 t0 t3 t4 t5 ∧ Inv n' t5 H2) F'' H'') → Kb2 F'' H'') → value_reader_cons_b2 t0 t3 t4 t5 H' K Kb2) : value_reader_cons_l2 t0 t3 t4 t5 H K :=
  aloop (M := value_reader_cons_M) value_reader_cons_m2 (fun n F H => ∃ t5, F = value_reader_cons_fr2 t0 t3 t4 t5 ∧ Inv n t5 H) n (fun hs _ => ⟨t5, rfl, h0 hs⟩) (fun n F H' ⟨t5, hF, hI⟩ h1 h2 h3 => by subst hF; rw [value_reader_cons_b2_eq]; exact round n t5 H' hI h1 h2 h3 _ (fun _ _ h => h))
theorem value_reader_cons_eq (t0 t1 : AV) (H : Heap) (K : Kt) : awp Tryz.prog value_reader_cons_M value_reader_cons_c (retQ Tryz.prog value_reader_cons_r K) (t0 :: t1 :: List.replicate 90 .unk) H = value_reader_cons t0 t1 H K := by kernel_rfl
theorem value_reader_cons_ok {t0 t1 : AV} {H : Heap} {K : Kt} (h : HSc H → value_reader_cons t0 t1 H K) : ACalls Tryz.prog n_value_reader_cons [t0, t1] H K :=
  acalls_body (M := value_reader_cons_M) Tryz.func132 (c := value_reader_cons_c) (by kernel_rfl) (fun hs => (value_reader_cons_eq t0 t1 H K).mpr (h hs))
/-! ### 133: (*value.reader).array -/
def value_reader_array_M : Nat → List Bool
  | 200005 => rl false [0,13]
  | 6 => rl false [0,1,2,3,27]
  | 200007 => rl false [0,13]
  | _ => []
noncomputable def value_reader_array_c : Code := Tryz.f133.body.getD .skip
noncomputable def value_reader_array_r : List ResultVar := Tryz.f133.results.toList
def value_reader_array_fr6 (t0 t3 t4 t5 : AV) : List AV := t0 :: ux 2 (t3 :: t4 :: t5 :: ux 27 [])
def value_reader_array_m6 : List Bool := value_reader_array_M 6
noncomputable def value_reader_array_c6 : Code := codeAt [1, 1, 1, 1, 1, 0, 0, 0] value_reader_array_c
def value_reader_array_Q6 (K : Kt) : AExit → List AV → Heap → Prop := contAt Tryz.prog value_reader_array_M [1, 1, 1, 1, 1, 0, 0] value_reader_array_c (retQ Tryz.prog value_reader_array_r K)
def value_reader_array_l6 (t0 t3 t4 t5 : AV) (H : Heap) (K : Kt) : Prop := ALoop Tryz.prog value_reader_array_c6 (value_reader_array_Q6 K) (value_reader_array_fr6 t0 t3 t4 t5) H
def value_reader_array_j2 (t0 t3 t4 t5 : AV) (H : Heap) (K : Kt) (Kb6 : Lt) : Prop :=
  Kb6 (value_reader_array_fr6 t0 t3 t4 t5) H
def value_reader_array_b6 (t0 t3 t4 t5 : AV) (H : Heap) (K : Kt) (Kb6 : Lt) : Prop :=
  ACalls Tryz.prog n_value_reader_accept [t0, (.str [44, 32])] H fun t21 H =>
  aTest t21
  ((aFld 2 t5 fun t22 =>
  (aLoad false 1 t22 H fun t23 =>
  (aLoad true 3 t3 H fun t25 =>
  ACalls Tryz.prog n_value_reader_value [t0, t25] H fun t26 H =>
  aBuildS 3 [(.int .i64 0), (.int .i64 0), .snil] 1 [(0, t26)] fun t27 =>
  aAppend e_api_Value 3 40 t23 t27 H fun t28 H =>
  aFld 2 t5 fun t29 =>
  aStore 1 t29 t28 H fun H =>
  value_reader_array_j2 t0 t3 t4 t5 H K Kb6) ∧ (aLoad true 3 t3 H fun t25 =>
  ACalls Tryz.prog n_value_reader_value [t0, t25] H fun t26 H =>
  aBuildS 3 [(.int .i64 0), (.int .i64 0), .snil] 1 [(0, t26)] fun t27 =>
  aAppend e_api_Value 3 40 t23 t27 H fun t28 H =>
  aFld 2 t5 fun t29 =>
  aStore 1 t29 t28 H fun H =>
  value_reader_array_j2 t0 t3 t4 t5 H K Kb6)) ∧ ((aLoad false 1 t22 H fun t23 =>
  aLoad true 3 t3 H fun t25 =>
  ACalls Tryz.prog n_value_reader_value [t0, t25] H fun t26 H =>
  aBuildS 3 [(.int .i64 0), (.int .i64 0), .snil] 1 [(0, t26)] fun t27 =>
  aAppend e_api_Value 3 40 t23 t27 H fun t28 H =>
  aFld 2 t5 fun t29 =>
  aStore 1 t29 t28 H fun H =>
  value_reader_array_j2 t0 t3 t4 t5 H K Kb6) ∧ (aLoad true 3 t3 H fun t25 =>
  (aLoad false 1 t22 H fun t23 =>
  ACalls Tryz.prog n_value_reader_value [t0, t25] H fun t26 H =>
  aBuildS 3 [(.int .i64 0), (.int .i64 0), .snil] 1 [(0, t26)] fun t27 =>
  aAppend e_api_Value 3 40 t23 t27 H fun t28 H =>
  aFld 2 t5 fun t29 =>
  aStore 1 t29 t28 H fun H =>
  value_reader_array_j2 t0 t3 t4 t5 H K Kb6) ∧ (ACalls Tryz.prog n_value_reader_value [t0, t25] H fun t26 H =>
  (aLoad false 1 t22 H fun t23 =>
  aBuildS 3 [(.int .i64 0), (.int .i64 0), .snil] 1 [(0, t26)] fun t27 =>
  aAppend e_api_Value 3 40 t23 t27 H fun t28 H =>
  aFld 2 t5 fun t29 =>
  aStore 1 t29 t28 H fun H =>
  value_reader_array_j2 t0 t3 t4 t5 H K Kb6) ∧ (aBuildS 3 [(.int .i64 0), (.int .i64 0), .snil] 1 [(0, t26)] fun t27 =>
  aLoad false 1 t22 H fun t23 =>
  aAppend e_api_Value 3 40 t23 t27 H fun t28 H =>
  aFld 2 t5 fun t29 =>
  aStore 1 t29 t28 H fun H =>
  value_reader_array_j2 t0 t3 t4 t5 H K Kb6)))) ∧ (aLoad true 3 t3 H fun t25 =>
  (aLoad false 1 t22 H fun t23 =>
  ACalls Tryz.prog n_value_reader_value [t0, t25] H fun t26 H =>
  aBuildS 3 [(.int .i64 0), (.int .i64 0), .snil] 1 [(0, t26)] fun t27 =>
  aAppend e_api_Value 3 40 t23 t27 H fun t28 H =>
  aFld 2 t5 fun t29 =>
  aStore 1 t29 t28 H fun H =>
  value_reader_array_j2 t0 t3 t4 t5 H K Kb6) ∧ ((aLoad false 1 t22 H fun t23 =>
  ACalls Tryz.prog n_value_reader_value [t0, t25] H fun t26 H =>
  aBuildS 3 [(.int .i64 0), (.int .i64 0), .snil] 1 [(0, t26)] fun t27 =>
  aAppend e_api_Value 3 40 t23 t27 H fun t28 H =>
  aFld 2 t5 fun t29 =>
  aStore 1 t29 t28 H fun H =>
  value_reader_array_j2 t0 t3 t4 t5 H K Kb6) ∧ (ACalls Tryz.prog n_value_reader_value [t0, t25] H fun t26 H =>
  (aLoad false 1 t22 H fun t23 =>
  aBuildS 3 [(.int .i64 0), (.int .i64 0), .snil] 1 [(0, t26)] fun t27 =>
  aAppend e_api_Value 3 40 t23 t27 H fun t28 H =>
  aFld 2 t5 fun t29 =>
  aStore 1 t29 t28 H fun H =>
  value_reader_array_j2 t0 t3 t4 t5 H K Kb6) ∧ (aBuildS 3 [(.int .i64 0), (.int .i64 0), .snil] 1 [(0, t26)] fun t27 =>
  aLoad false 1 t22 H fun t23 =>
  aAppend e_api_Value 3 40 t23 t27 H fun t28 H =>
  aFld 2 t5 fun t29 =>
  aStore 1 t29 t28 H fun H =>
  value_reader_array_j2 t0 t3 t4 t5 H K Kb6))))) ∧ ((aFld 2 t5 fun t22 =>
  (aLoad false 1 t22 H fun t23 =>
  aLoad true 3 t3 H fun t25 =>
  ACalls Tryz.prog n_value_reader_value [t0, t25] H fun t26 H =>
  aBuildS 3 [(.int .i64 0), (.int .i64 0), .snil] 1 [(0, t26)] fun t27 =>
  aAppend e_api_Value 3 40 t23 t27 H fun t28 H =>
  aFld 2 t5 fun t29 =>
  aStore 1 t29 t28 H fun H =>
  value_reader_array_j2 t0 t3 t4 t5 H K Kb6) ∧ (aLoad true 3 t3 H fun t25 =>
  (aLoad false 1 t22 H fun t23 =>
  ACalls Tryz.prog n_value_reader_value [t0, t25] H fun t26 H =>
  aBuildS 3 [(.int .i64 0), (.int .i64 0), .snil] 1 [(0, t26)] fun t27 =>
  aAppend e_api_Value 3 40 t23 t27 H fun t28 H =>
  aFld 2 t5 fun t29 =>
  aStore 1 t29 t28 H fun H =>
  value_reader_array_j2 t0 t3 t4 t5 H K Kb6) ∧ (ACalls Tryz.prog n_value_reader_value [t0, t25] H fun t26 H =>
  (aLoad false 1 t22 H fun t23 =>
  aBuildS 3 [(.int .i64 0), (.int .i64 0), .snil] 1 [(0, t26)] fun t27 =>
  aAppend e_api_Value 3 40 t23 t27 H fun t28 H =>
  aFld 2 t5 fun t29 =>
  aStore 1 t29 t28 H fun H =>
  value_reader_array_j2 t0 t3 t4 t5 H K Kb6) ∧ (aBuildS 3 [(.int .i64 0), (.int .i64 0), .snil] 1 [(0, t26)] fun t27 =>
  aLoad false 1 t22 H fun t23 =>
  aAppend e_api_Value 3 40 t23 t27 H fun t28 H =>
  aFld 2 t5 fun t29 =>
  aStore 1 t29 t28 H fun H =>
  value_reader_array_j2 t0 t3 t4 t5 H K Kb6)))) ∧ (aLoad true 3 t3 H fun t25 =>
  (aFld 2 t5 fun t22 =>
  (aLoad false 1 t22 H fun t23 =>
  ACalls Tryz.prog n_value_reader_value [t0, t25] H fun t26 H =>
  aBuildS 3 [(.int .i64 0), (.int .i64 0), .snil] 1 [(0, t26)] fun t27 =>
  aAppend e_api_Value 3 40 t23 t27 H fun t28 H =>
  aFld 2 t5 fun t29 =>
  aStore 1 t29 t28 H fun H =>
  value_reader_array_j2 t0 t3 t4 t5 H K Kb6) ∧ (ACalls Tryz.prog n_value_reader_value [t0, t25] H fun t26 H =>
  (aLoad false 1 t22 H fun t23 =>
  aBuildS 3 [(.int .i64 0), (.int .i64 0), .snil] 1 [(0, t26)] fun t27 =>
  aAppend e_api_Value 3 40 t23 t27 H fun t28 H =>
  aFld 2 t5 fun t29 =>
  aStore 1 t29 t28 H fun H =>
  value_reader_array_j2 t0 t3 t4 t5 H K Kb6) ∧ (aBuildS 3 [(.int .i64 0), (.int .i64 0), .snil] 1 [(0, t26)] fun t27 =>
  aLoad false 1 t22 H fun t23 =>
  aAppend e_api_Value 3 40 t23 t27 H fun t28 H =>
  aFld 2 t5 fun t29 =>
  aStore 1 t29 t28 H fun H =>
  value_reader_array_j2 t0 t3 t4 t5 H K Kb6))) ∧ (ACalls Tryz.prog n_value_reader_value [t0, t25] H fun t26 H =>
  (aFld 2 t5 fun t22 =>
  (aLoad false 1 t22 H fun t23 =>
  aBuildS 3 [(.int .i64 0), (.int .i64 0), .snil] 1 [(0, t26)] fun t27 =>
  aAppend e_api_Value 3 40 t23 t27 H fun t28 H =>
  aFld 2 t5 fun t29 =>
  aStore 1 t29 t28 H fun H =>
  value_reader_array_j2 t0 t3 t4 t5 H K Kb6) ∧ (aBuildS 3 [(.int .i64 0), (.int .i64 0), .snil] 1 [(0, t26)] fun t27 =>
  aLoad false 1 t22 H fun t23 =>
  aAppend e_api_Value 3 40 t23 t27 H fun t28 H =>
  aFld 2 t5 fun t29 =>
  aStore 1 t29 t28 H fun H =>
  value_reader_array_j2 t0 t3 t4 t5 H K Kb6)) ∧ (aBuildS 3 [(.int .i64 0), (.int .i64 0), .snil] 1 [(0, t26)] fun t27 =>
  aFld 2 t5 fun t22 =>
  aLoad false 1 t22 H fun t23 =>
  aAppend e_api_Value 3 40 t23 t27 H fun t28 H =>
  aFld 2 t5 fun t29 =>
  aStore 1 t29 t28 H fun H =>
  value_reader_array_j2 t0 t3 t4 t5 H K Kb6)))) ∧ (aLoad true 3 t3 H fun t25 =>
  (aFld 2 t5 fun t22 =>
  (aLoad false 1 t22 H fun t23 =>
  ACalls Tryz.prog n_value_reader_value [t0, t25] H fun t26 H =>
  aBuildS 3 [(.int .i64 0), (.int .i64 0), .snil] 1 [(0, t26)] fun t27 =>
  aAppend e_api_Value 3 40 t23 t27 H fun t28 H =>
  aFld 2 t5 fun t29 =>
  aStore 1 t29 t28 H fun H =>
  value_reader_array_j2 t0 t3 t4 t5 H K Kb6) ∧ ((aLoad false 1 t22 H fun t23 =>
  ACalls Tryz.prog n_value_reader_value [t0, t25] H fun t26 H =>
  aBuildS 3 [(.int .i64 0), (.int .i64 0), .snil] 1 [(0, t26)] fun t27 =>
  aAppend e_api_Value 3 40 t23 t27 H fun t28 H =>
  aFld 2 t5 fun t29 =>
  aStore 1 t29 t28 H fun H =>
  value_reader_array_j2 t0 t3 t4 t5 H K Kb6) ∧ (ACalls Tryz.prog n_value_reader_value [t0, t25] H fun t26 H =>
  (aLoad false 1 t22 H fun t23 =>
  aBuildS 3 [(.int .i64 0), (.int .i64 0), .snil] 1 [(0, t26)] fun t27 =>
  aAppend e_api_Value 3 40 t23 t27 H fun t28 H =>
  aFld 2 t5 fun t29 =>
  aStore 1 t29 t28 H fun H =>
  value_reader_array_j2 t0 t3 t4 t5 H K Kb6) ∧ (aBuildS 3 [(.int .i64 0), (.int .i64 0), .snil] 1 [(0, t26)] fun t27 =>
  aLoad false 1 t22 H fun t23 =>
  aAppend e_api_Value 3 40 t23 t27 H fun t28 H =>
  aFld 2 t5 fun t29 =>
  aStore 1 t29 t28 H fun H =>
  value_reader_array_j2 t0 t3 t4 t5 H K Kb6)))) ∧ ((aFld 2 t5 fun t22 =>
  (aLoad false 1 t22 H fun t23 =>
  ACalls Tryz.prog n_value_reader_value [t0, t25] H fun t26 H =>
  aBuildS 3 [(.int .i64 0), (.int .i64 0), .snil] 1 [(0, t26)] fun t27 =>
  aAppend e_api_Value 3 40 t23 t27 H fun t28 H =>
  aFld 2 t5 fun t29 =>
  aStore 1 t29 t28 H fun H =>
  value_reader_array_j2 t0 t3 t4 t5 H K Kb6) ∧ (ACalls Tryz.prog n_value_reader_value [t0, t25] H fun t26 H =>
  (aLoad false 1 t22 H fun t23 =>
  aBuildS 3 [(.int .i64 0), (.int .i64 0), .snil] 1 [(0, t26)] fun t27 =>
  aAppend e_api_Value 3 40 t23 t27 H fun t28 H =>
  aFld 2 t5 fun t29 =>
  aStore 1 t29 t28 H fun H =>
  value_reader_array_j2 t0 t3 t4 t5 H K Kb6) ∧ (aBuildS 3 [(.int .i64 0), (.int .i64 0), .snil] 1 [(0, t26)] fun t27 =>
  aLoad false 1 t22 H fun t23 =>
  aAppend e_api_Value 3 40 t23 t27 H fun t28 H =>
  aFld 2 t5 fun t29 =>
  aStore 1 t29 t28 H fun H =>
  value_reader_array_j2 t0 t3 t4 t5 H K Kb6))) ∧ (ACalls Tryz.prog n_value_reader_value [t0, t25] H fun t26 H =>
  (aFld 2 t5 fun t22 =>
  (aLoad false 1 t22 H fun t23 =>
  aBuildS 3 [(.int .i64 0), (.int .i64 0), .snil] 1 [(0, t26)] fun t27 =>
  aAppend e_api_Value 3 40 t23 t27 H fun t28 H =>
  aFld 2 t5 fun t29 =>
  aStore 1 t29 t28 H fun H =>
  value_reader_array_j2 t0 t3 t4 t5 H K Kb6) ∧ (aBuildS 3 [(.int .i64 0), (.int .i64 0), .snil] 1 [(0, t26)] fun t27 =>
  aLoad false 1 t22 H fun t23 =>
  aAppend e_api_Value 3 40 t23 t27 H fun t28 H =>
  aFld 2 t5 fun t29 =>
  aStore 1 t29 t28 H fun H =>
  value_reader_array_j2 t0 t3 t4 t5 H K Kb6)) ∧ (aBuildS 3 [(.int .i64 0), (.int .i64 0), .snil] 1 [(0, t26)] fun t27 =>
  aFld 2 t5 fun t22 =>
  aLoad false 1 t22 H fun t23 =>
  aAppend e_api_Value 3 40 t23 t27 H fun t28 H =>
  aFld 2 t5 fun t29 =>
  aStore 1 t29 t28 H fun H =>
  value_reader_array_j2 t0 t3 t4 t5 H K Kb6)))))
  (ACalls Tryz.prog n_value_reader_expect [t0, (.str [93])] H fun t31 H =>
  aLoad true 3 t5 H fun t32 =>
  aStore 3 t4 t32 H fun H =>
  aLoad true 3 t4 H fun r0 =>
  K r0 H)
def value_reader_array_j1 (t0 t3 t4 t5 : AV) (H : Heap) (K : Kt) : Prop :=
  value_reader_array_l6 t0 t3 t4 t5 H K
def value_reader_array (t0 t1 : AV) (H : Heap) (K : Kt) : Prop :=
  aBox t1 H fun t3 H =>
  aNew [(.int .i64 0), (.int .i64 0), .snil] H fun t4 H =>
  aBuild [(.int .i64 0), (.int .i64 0), .snil] [(0, 1), (1, 1), (2, 1)] [(0, (.int .i64 6))] fun t6 =>
  aNew [(.int .i64 0), (.int .i64 0), .snil] H fun t5 H =>
  aStore 3 t5 t6 H fun H =>
  ACalls Tryz.prog n_value_reader_expect [t0, (.str [91])] H fun t8 H =>
  ACalls Tryz.prog n_value_reader_accept [t0, (.str [93])] H fun t10 H =>
  aTest t10
  (aLoad true 3 t5 H fun t11 =>
  aStore 3 t4 t11 H fun H =>
  aLoad true 3 t4 H fun r0 =>
  K r0 H)
  ((aFld 2 t5 fun t12 =>
  (aLoad false 1 t12 H fun t13 =>
  (aLoad true 3 t3 H fun t15 =>
  ACalls Tryz.prog n_value_reader_value [t0, t15] H fun t16 H =>
  aBuildS 3 [(.int .i64 0), (.int .i64 0), .snil] 1 [(0, t16)] fun t17 =>
  aAppend e_api_Value 3 40 t13 t17 H fun t18 H =>
  aFld 2 t5 fun t19 =>
  aStore 1 t19 t18 H fun H =>
  value_reader_array_j1 t0 t3 t4 t5 H K) ∧ (aLoad true 3 t3 H fun t15 =>
  ACalls Tryz.prog n_value_reader_value [t0, t15] H fun t16 H =>
  aBuildS 3 [(.int .i64 0), (.int .i64 0), .snil] 1 [(0, t16)] fun t17 =>
  aAppend e_api_Value 3 40 t13 t17 H fun t18 H =>
  aFld 2 t5 fun t19 =>
  aStore 1 t19 t18 H fun H =>
  value_reader_array_j1 t0 t3 t4 t5 H K)) ∧ ((aLoad false 1 t12 H fun t13 =>
  aLoad true 3 t3 H fun t15 =>
  ACalls Tryz.prog n_value_reader_value [t0, t15] H fun t16 H =>
  aBuildS 3 [(.int .i64 0), (.int .i64 0), .snil] 1 [(0, t16)] fun t17 =>
  aAppend e_api_Value 3 40 t13 t17 H fun t18 H =>
  aFld 2 t5 fun t19 =>
  aStore 1 t19 t18 H fun H =>
  value_reader_array_j1 t0 t3 t4 t5 H K) ∧ (aLoad true 3 t3 H fun t15 =>
  (aLoad false 1 t12 H fun t13 =>
  ACalls Tryz.prog n_value_reader_value [t0, t15] H fun t16 H =>
  aBuildS 3 [(.int .i64 0), (.int .i64 0), .snil] 1 [(0, t16)] fun t17 =>
  aAppend e_api_Value 3 40 t13 t17 H fun t18 H =>
  aFld 2 t5 fun t19 =>
  aStore 1 t19 t18 H fun H =>
  value_reader_array_j1 t0 t3 t4 t5 H K) ∧ (ACalls Tryz.prog n_value_reader_value [t0, t15] H fun t16 H =>
  (aLoad false 1 t12 H fun t13 =>
  aBuildS 3 [(.int .i64 0), (.int .i64 0), .snil] 1 [(0, t16)] fun t17 =>
  aAppend e_api_Value 3 40 t13 t17 H fun t18 H =>
  aFld 2 t5 fun t19 =>
  aStore 1 t19 t18 H fun H =>
  value_reader_array_j1 t0 t3 t4 t5 H K) ∧ (aBuildS 3 [(.int .i64 0), (.int .i64 0), .snil] 1 [(0, t16)] fun t17 =>
  aLoad false 1 t12 H fun t13 =>
  aAppend e_api_Value 3 40 t13 t17 H fun t18 H =>
  aFld 2 t5 fun t19 =>
  aStore 1 t19 t18 H fun H =>
  value_reader_array_j1 t0 t3 t4 t5 H K)))) ∧ (aLoad true 3 t3 H fun t15 =>
  (aLoad false 1 t12 H fun t13 =>
  ACalls Tryz.prog n_value_reader_value [t0, t15] H fun t16 H =>
  aBuildS 3 [(.int .i64 0), (.int .i64 0), .snil] 1 [(0, t16)] fun t17 =>
  aAppend e_api_Value 3 40 t13 t17 H fun t18 H =>
  aFld 2 t5 fun t19 =>
  aStore 1 t19 t18 H fun H =>
  value_reader_array_j1 t0 t3 t4 t5 H K) ∧ ((aLoad false 1 t12 H fun t13 =>
  ACalls Tryz.prog n_value_reader_value [t0, t15] H fun t16 H =>
  aBuildS 3 [(.int .i64 0), (.int .i64 0), .snil] 1 [(0, t16)] fun t17 =>
  aAppend e_api_Value 3 40 t13 t17 H fun t18 H =>
  aFld 2 t5 fun t19 =>
  aStore 1 t19 t18 H fun H =>
  value_reader_array_j1 t0 t3 t4 t5 H K) ∧ (ACalls Tryz.prog n_value_reader_value [t0, t15] H fun t16 H =>
  (aLoad false 1 t12 H fun t13 =>
  aBuildS 3 [(.int .i64 0), (.int .i64 0), .snil] 1 [(0, t16)] fun t17 =>
  aAppend e_api_Value 3 40 t13 t17 H fun t18 H =>
  aFld 2 t5 fun t19 =>
  aStore 1 t19 t18 H fun H =>
  value_reader_array_j1 t0 t3 t4 t5 H K) ∧ (aBuildS 3 [(.int .i64 0), (.int .i64 0), .snil] 1 [(0, t16)] fun t17 =>
  aLoad false 1 t12 H fun t13 =>
  aAppend e_api_Value 3 40 t13 t17 H fun t18 H =>
  aFld 2 t5 fun t19 =>
  aStore 1 t19 t18 H fun H =>
  value_reader_array_j1 t0 t3 t4 t5 H K))))) ∧ ((aFld 2 t5 fun t12 =>
  (aLoad false 1 t12 H fun t13 =>
  aLoad true 3 t3 H fun t15 =>
  ACalls Tryz.prog n_value_reader_value [t0, t15] H fun t16 H =>
  aBuildS 3 [(.int .i64 0), (.int .i64 0), .snil] 1 [(0, t16)] fun t17 =>
  aAppend e_api_Value 3 40 t13 t17 H fun t18 H =>
  aFld 2 t5 fun t19 =>
  aStore 1 t19 t18 H fun H =>
  value_reader_array_j1 t0 t3 t4 t5 H K) ∧ (aLoad true 3 t3 H fun t15 =>
  (aLoad false 1 t12 H fun t13 =>
  ACalls Tryz.prog n_value_reader_value [t0, t15] H fun t16 H =>
  aBuildS 3 [(.int .i64 0), (.int .i64 0), .snil] 1 [(0, t16)] fun t17 =>
  aAppend e_api_Value 3 40 t13 t17 H fun t18 H =>
  aFld 2 t5 fun t19 =>
  aStore 1 t19 t18 H fun H =>
  value_reader_array_j1 t0 t3 t4 t5 H K) ∧ (ACalls Tryz.prog n_value_reader_value [t0, t15] H fun t16 H =>
  (aLoad false 1 t12 H fun t13 =>
  aBuildS 3 [(.int .i64 0), (.int .i64 0), .snil] 1 [(0, t16)] fun t17 =>
  aAppend e_api_Value 3 40 t13 t17 H fun t18 H =>
  aFld 2 t5 fun t19 =>
  aStore 1 t19 t18 H fun H =>
  value_reader_array_j1 t0 t3 t4 t5 H K) ∧ (aBuildS 3 [(.int .i64 0), (.int .i64 0), .snil] 1 [(0, t16)] fun t17 =>
  aLoad false 1 t12 H fun t13 =>
  aAppend e_api_Value 3 40 t13 t17 H fun t18 H =>
  aFld 2 t5 fun t19 =>
  aStore 1 t19 t18 H fun H =>
  value_reader_array_j1 t0 t3 t4 t5 H K)))) ∧ (aLoad true 3 t3 H fun t15 =>
  (aFld 2 t5 fun t12 =>
  (aLoad false 1 t12 H fun t13 =>
  ACalls Tryz.prog n_value_reader_value [t0, t15] H fun t16 H =>
  aBuildS 3 [(.int .i64 0), (.int .i64 0), .snil] 1 [(0, t16)] fun t17 =>
  aAppend e_api_Value 3 40 t13 t17 H fun t18 H =>
  aFld 2 t5 fun t19 =>
  aStore 1 t19 t18 H fun H =>
  value_reader_array_j1 t0 t3 t4 t5 H K) ∧ (ACalls Tryz.prog n_value_reader_value [t0, t15] H fun t16 H =>
  (aLoad false 1 t12 H fun t13 =>
  aBuildS 3 [(.int .i64 0), (.int .i64 0), .snil] 1 [(0, t16)] fun t17 =>
  aAppend e_api_Value 3 40 t13 t17 H fun t18 H =>
  aFld 2 t5 fun t19 =>
  aStore 1 t19 t18 H fun H =>
  value_reader_array_j1 t0 t3 t4 t5 H K) ∧ (aBuildS 3 [(.int .i64 0), (.int .i64 0), .snil] 1 [(0, t16)] fun t17 =>
  aLoad false 1 t12 H fun t13 =>
  aAppend e_api_Value 3 40 t13 t17 H fun t18 H =>
  aFld 2 t5 fun t19 =>
  aStore 1 t19 t18 H fun H =>
  value_reader_array_j1 t0 t3 t4 t5 H K))) ∧ (ACalls Tryz.prog n_value_reader_value [t0, t15] H fun t16 H =>
  (aFld 2 t5 fun t12 =>
  (aLoad false 1 t12 H fun t13 =>
  aBuildS 3 [(.int .i64 0), (.int .i64 0), .snil] 1 [(0, t16)] fun t17 =>
  aAppend e_api_Value 3 40 t13 t17 H fun t18 H =>
  aFld 2 t5 fun t19 =>
  aStore 1 t19 t18 H fun H =>
  value_reader_array_j1 t0 t3 t4 t5 H K) ∧ (aBuildS 3 [(.int .i64 0), (.int .i64 0), .snil] 1 [(0, t16)] fun t17 =>
  aLoad false 1 t12 H fun t13 =>
  aAppend e_api_Value 3 40 t13 t17 H fun t18 H =>
  aFld 2 t5 fun t19 =>
  aStore 1 t19 t18 H fun H =>
  value_reader_array_j1 t0 t3 t4 t5 H K)) ∧ (aBuildS 3 [(.int .i64 0), (.int .i64 0), .snil] 1 [(0, t16)] fun t17 =>
  aFld 2 t5 fun t12 =>
  aLoad false 1 t12 H fun t13 =>
  aAppend e_api_Value 3 40 t13 t17 H fun t18 H =>
  aFld 2 t5 fun t19 =>
  aStore 1 t19 t18 H fun H =>
  value_reader_array_j1 t0 t3 t4 t5 H K)))) ∧ (aLoad true 3 t3 H fun t15 =>
  (aFld 2 t5 fun t12 =>
  (aLoad false 1 t12 H fun t13 =>
  ACalls Tryz.prog n_value_reader_value [t0, t15] H fun t16 H =>
  aBuildS 3 [(.int .i64 0), (.int .i64 0), .snil] 1 [(0, t16)] fun t17 =>
  aAppend e_api_Value 3 40 t13 t17 H fun t18 H =>
  aFld 2 t5 fun t19 =>
  aStore 1 t19 t18 H fun H =>
  value_reader_array_j1 t0 t3 t4 t5 H K) ∧ ((aLoad false 1 t12 H fun t13 =>
  ACalls Tryz.prog n_value_reader_value [t0, t15] H fun t16 H =>
  aBuildS 3 [(.int .i64 0), (.int .i64 0), .snil] 1 [(0, t16)] fun t17 =>
  aAppend e_api_Value 3 40 t13 t17 H fun t18 H =>
  aFld 2 t5 fun t19 =>
  aStore 1 t19 t18 H fun H =>
  value_reader_array_j1 t0 t3 t4 t5 H K) ∧ (ACalls Tryz.prog n_value_reader_value [t0, t15] H fun t16 H =>
  (aLoad false 1 t12 H fun t13 =>
  aBuildS 3 [(.int .i64 0), (.int .i64 0), .snil] 1 [(0, t16)] fun t17 =>
  aAppend e_api_Value 3 40 t13 t17 H fun t18 H =>
  aFld 2 t5 fun t19 =>
  aStore 1 t19 t18 H fun H =>
  value_reader_array_j1 t0 t3 t4 t5 H K) ∧ (aBuildS 3 [(.int .i64 0), (.int .i64 0), .snil] 1 [(0, t16)] fun t17 =>
  aLoad false 1 t12 H fun t13 =>
  aAppend e_api_Value 3 40 t13 t17 H fun t18 H =>
  aFld 2 t5 fun t19 =>
  aStore 1 t19 t18 H fun H =>
  value_reader_array_j1 t0 t3 t4 t5 H K)))) ∧ ((aFld 2 t5 fun t12 =>
  (aLoad false 1 t12 H fun t13 =>
  ACalls Tryz.prog n_value_reader_value [t0, t15] H fun t16 H =>
  aBuildS 3 [(.int .i64 0), (.int .i64 0), .snil] 1 [(0, t16)] fun t17 =>
  aAppend e_api_Value 3 40 t13 t17 H fun t18 H =>
  aFld 2 t5 fun t19 =>
  aStore 1 t19 t18 H fun H =>
  value_reader_array_j1 t0 t3 t4 t5 H K) ∧ (ACalls Tryz.prog n_value_reader_value [t0, t15] H fun t16 H =>
  (aLoad false 1 t12 H fun t13 =>
  aBuildS 3 [(.int .i64 0), (.int .i64 0), .snil] 1 [(0, t16)] fun t17 =>
  aAppend e_api_Value 3 40 t13 t17 H fun t18 H =>
  aFld 2 t5 fun t19 =>
  aStore 1 t19 t18 H fun H =>
  value_reader_array_j1 t0 t3 t4 t5 H K) ∧ (aBuildS 3 [(.int .i64 0), (.int .i64 0), .snil] 1 [(0, t16)] fun t17 =>
  aLoad false 1 t12 H fun t13 =>
  aAppend e_api_Value 3 40 t13 t17 H fun t18 H =>
  aFld 2 t5 fun t19 =>
  aStore 1 t19 t18 H fun H =>
  value_reader_array_j1 t0 t3 t4 t5 H K))) ∧ (ACalls Tryz.prog n_value_reader_value [t0, t15] H fun t16 H =>
  (aFld 2 t5 fun t12 =>
  (aLoad false 1 t12 H fun t13 =>
  aBuildS 3 [(.int .i64 0), (.int .i64 0), .snil] 1 [(0, t16)] fun t17 =>
  aAppend e_api_Value 3 40 t13 t17 H fun t18 H =>
  aFld 2 t5 fun t19 =>
  aStore 1 t19 t18 H fun H =>
  value_reader_array_j1 t0 t3 t4 t5 H K) ∧ (aBuildS 3 [(.int .i64 0), (.int .i64 0), .snil] 1 [(0, t16)] fun t17 =>
  aLoad false 1 t12 H fun t13 =>
  aAppend e_api_Value 3 40 t13 t17 H fun t18 H =>
  aFld 2 t5 fun t19 =>
  aStore 1 t19 t18 H fun H =>
  value_reader_array_j1 t0 t3 t4 t5 H K)) ∧ (aBuildS 3 [(.int .i64 0), (.int .i64 0), .snil] 1 [(0, t16)] fun t17 =>
  aFld 2 t5 fun t12 =>
  aLoad false 1 t12 H fun t13 =>
  aAppend e_api_Value 3 40 t13 t17 H fun t18 H =>
  aFld 2 t5 fun t19 =>
  aStore 1 t19 t18 H fun H =>
  value_reader_array_j1 t0 t3 t4 t5 H K)))))
theorem value_reader_array_b6_eq (t0 t3 t4 t5 : AV) (H : Heap) (K : Kt) (Kb6 : Lt) : awp Tryz.prog value_reader_array_M value_reader_array_c6 (roundQ value_reader_array_m6 Kb6 (value_reader_array_Q6 K)) (value_reader_array_fr6 t0 t3 t4 t5) H = value_reader_array_b6 t0 t3 t4 t5 H K Kb6 := by kernel_rfl
theorem value_reader_array_loop6 {t0 t3 t4 t5 : AV} {H : Heap} {K : Kt} (Inv : Nat → Heap → Prop) (n : Nat) (h0 : HSc H → Inv n H)
    (round : ∀ n H', Inv n H' → HSc H' → H.length ≤ H'.length → (value_reader_array_fr6 t0 t3 t4 t5).all (AV.sc H'.length) = true → ∀ Kb6 : Lt, (∀ F'' H'', (∃ n', n' < n ∧ Back H.length (fun F2 H2 => F2 = value_reader_array_fr6 t0 t3 t4 t5 ∧ Inv n' H2) F'' H'') → Kb6 F'' H'') → value_reader_array_b6 t0 t3 t4 t5 H' K Kb6) : value_reader_array_l6 t0 t3 t4 t5 H K :=
  aloop (M := value_reader_array_M) value_reader_array_m6 (fun n F H => F = value_reader_array_fr6 t0 t3 t4 t5 ∧ Inv n H) n (fun hs _ => ⟨rfl, h0 hs⟩) (fun n F H' ⟨hF, hI⟩ h1 h2 h3 => by subst hF; rw [value_reader_array_b6_eq]; exact round n H' hI h1 h2 h3 _ (fun _ _ h => h))
theorem value_reader_array_eq (t0 t1 : AV) (H : Heap) (K : Kt) : awp Tryz.prog value_reader_array_M value_reader_array_c (retQ Tryz.prog value_reader_array_r K) (t0 :: t1 :: List.replicate 31 .unk) H = value_reader_array t0 t1 H K := by kernel_rfl
theorem value_reader_array_ok {t0 t1 : AV} {H : Heap} {K : Kt} (h : HSc H → value_reader_array t0 t1 H K) : ACalls Tryz.prog n_value_reader_array [t0, t1] H K :=
  acalls_body (M := value_reader_array_M) Tryz.func133 (c := value_reader_array_c) (by kernel_rfl) (fun hs => (value_reader_array_eq t0 t1 H K).mpr (h hs))
end Go.Proofs.YtfpmdpldabopjaaGreatDoor
