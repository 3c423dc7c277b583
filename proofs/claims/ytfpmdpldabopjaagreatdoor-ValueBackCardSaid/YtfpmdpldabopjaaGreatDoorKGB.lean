/- The shallow forms of functions of the program, printed by a program (absgen.py) off the translation, each tied to the model by the kernel. -/
import Derived.Test.YtfpmdpldabopjaaGreatDoorKNum
import Derived.Test.YtfpmdpldabopjaaGreatDoorProg
import Derived.KernelRfl
namespace Go.Proofs.YtfpmdpldabopjaaGreatDoor
open Go Go.Abs
set_option linter.unusedVariables false
set_option maxRecDepth 100000
/-! ### 20: amortcostlaw10.awake -/
def law10_awake_M (_ : Nat) : List Bool := []
noncomputable def law10_awake_c : Code := Tryz.f20.body.getD .skip
noncomputable def law10_awake_r : List ResultVar := Tryz.f20.results.toList
def law10_awake (H : Heap) (K : Kt) : Prop :=
  aBuild [(.int .i64 0), (.int .i64 0), .snil] [(0, 1), (1, 1), (2, 1)] [(0, (.int .i64 3)), (1, (.int .i64 7))] fun t3 =>
  aBuild [(.int .i64 0), (.int .i64 0), .snil] [(0, 1), (1, 1), (2, 1)] [(0, (.int .i64 1))] fun t4 =>
  aNew [(.int .i64 0), (.int .i64 0), .snil] H fun t1 H =>
  aNew [(.int .i64 0), (.int .i64 0), .snil] H fun t2 H =>
  aStore 3 t1 t3 H fun H =>
  aStore 3 t2 t4 H fun H =>
  aLoad true 3 t1 H fun t5 =>
  aLoad true 3 t2 H fun t6 =>
  ACalls Tryz.prog n_value_HasType [.snil, t5, t6] H fun t7 H =>
  aGuardJ t7 true H (fun K' => aLoad true 3 t1 H (K' · H)) fun t9 H =>
  aGuardJ t7 true H (fun K' => aLoad true 3 t2 H (K' · H)) fun t10 H =>
  aGuardJ t7 true H (fun K' => ACalls Tryz.prog n_value_Format [.snil, t9, t10] H K') fun t11 H =>
  aGuardJ t7 true H (fun K' => aBin .eql false t11 (.str [55]) (K' · H)) fun t12 H =>
  aPick t7 t12 (.bool false) fun t13 =>
  K t13 H
theorem law10_awake_eq (H : Heap) (K : Kt) : awp Tryz.prog law10_awake_M law10_awake_c (retQ Tryz.prog law10_awake_r K) (List.replicate 14 .unk) H = law10_awake H K := by kernel_rfl
theorem law10_awake_ok {H : Heap} {K : Kt} (h : HSc H → law10_awake H K) : ACalls Tryz.prog n_law10_awake [] H K :=
  acalls_body (M := law10_awake_M) Tryz.func20 (c := law10_awake_c) (by kernel_rfl) (fun hs => (law10_awake_eq H K).mpr (h hs))
/-! ### 21: value.Format -/
def value_Format_M (_ : Nat) : List Bool := []
noncomputable def value_Format_c : Code := Tryz.f21.body.getD .skip
noncomputable def value_Format_r : List ResultVar := Tryz.f21.results.toList
def value_Format (t0 t1 t2 : AV) (H : Heap) (K : Kt) : Prop :=
  aBox t1 H fun t4 H =>
  aBox t2 H fun t5 H =>
  aLoad true 3 t4 H fun t9 =>
  aLoad true 3 t5 H fun t10 =>
  ACalls Tryz.prog n_value_HasType [t0, t9, t10] H fun t11 H =>
  aUn .not t11 fun t12 =>
  aTest t12
  (K (.str []) H)
  (aNewB 73 [.nilp, .snil] H fun t7 H =>
  aLoad true 3 t4 H fun t14 =>
  aLoad true 3 t5 H fun t15 =>
  ACalls Tryz.prog n_value_write [t7, t0, t14, t15] H fun t16 H =>
  ACalls Tryz.prog n_strings_Builder_String [t7] H fun t17 H =>
  K t17 H)
theorem value_Format_eq (t0 t1 t2 : AV) (H : Heap) (K : Kt) : awp Tryz.prog value_Format_M value_Format_c (retQ Tryz.prog value_Format_r K) (t0 :: t1 :: t2 :: List.replicate 15 .unk) H = value_Format t0 t1 t2 H K := by kernel_rfl
theorem value_Format_ok {t0 t1 t2 : AV} {H : Heap} {K : Kt} (h : HSc H → value_Format t0 t1 t2 H K) : ACalls Tryz.prog n_value_Format [t0, t1, t2] H K :=
  acalls_body (M := value_Format_M) Tryz.func21 (c := value_Format_c) (by kernel_rfl) (fun hs => (value_Format_eq t0 t1 t2 H K).mpr (h hs))
/-! ### 57: value.write -/
def value_write_M : Nat → List Bool
  | 200013 => rl false [0,1]
  | 200025 => rl false [0,1]
  | _ => []
noncomputable def value_write_c : Code := Tryz.f57.body.getD .skip
noncomputable def value_write_r : List ResultVar := Tryz.f57.results.toList
def value_write_j1 (H : Heap) (K : Kt) : Prop :=
  aRet [] (K · H)
def value_write (t0 t1 t2 t3 : AV) (H : Heap) (K : Kt) : Prop :=
  aBox t2 H fun t6 H =>
  aBox t3 H fun t7 H =>
  aFld 0 t7 fun t10 =>
  aLoad false 1 t10 H fun t11 =>
  aBin .eql false t11 (.int .i64 1) fun t13 =>
  aTest t13
  (aFld 1 t6 fun t15 =>
  aLoad false 1 t15 H fun t16 =>
  ACalls Tryz.prog n_strconv_FormatInt [t16, (.int .i64 10)] H fun t17 H =>
  ACalls Tryz.prog n_strings_Builder_WriteString [t0, t17] H fun t18 H =>
  value_write_j1 H K)
  (aBin .eql false t11 (.int .i64 2) fun t20 =>
  aTest t20
  (aFld 1 t6 fun t22 =>
  aLoad false 1 t22 H fun t23 =>
  aBin .eql false t23 (.int .i64 1) fun t24 =>
  ACalls Tryz.prog n_strconv_FormatBool [t24] H fun t25 H =>
  ACalls Tryz.prog n_strings_Builder_WriteString [t0, t25] H fun t26 H =>
  value_write_j1 H K)
  (aBin .eql false t11 (.int .i64 3) fun t28 =>
  aTest t28
  (ACalls Tryz.prog n_strings_Builder_WriteString [t0, (.str [40, 41])] H fun t30 H =>
  value_write_j1 H K)
  (aBin .eql false t11 (.int .i64 6) fun t32 =>
  aTest t32
  (ACalls Tryz.prog n_strings_Builder_WriteString [t0, (.str [40])] H fun t34 H =>
  aFld 2 t6 fun t37 =>
  aLoad false 1 t37 H fun t38 =>
  aClos n_value_write_1 [t7] fun t39 =>
  ACalls Tryz.prog n_value_writeAll [t0, t1, t38, t39] H fun t40 H =>
  ACalls Tryz.prog n_strings_Builder_WriteString [t0, (.str [41])] H fun t42 H =>
  value_write_j1 H K)
  (aBin .eql false t11 (.int .i64 5) fun t44 =>
  aTest t44
  (aPure H (fun K' => K' t0 H) fun t45 =>
  aPure H (fun K' => K' t1 H) fun t46 =>
  aPure H (fun K' => aFld 1 t7 (K' · H)) fun t47 =>
  aPure H (fun K' => aLoadC false 1 t47 H (K' · H)) fun t48 =>
  aPure H (fun K' => aIdxA 3 t46 t48 (K' · H)) fun t49 =>
  aPure H (fun K' => aFld 2 t49 (K' · H)) fun t50 =>
  aPure H (fun K' => aLoadC false 1 t50 H (K' · H)) fun t51 =>
  aPure H (fun K' => aFld 1 t6 (K' · H)) fun t52 =>
  aPure H (fun K' => aLoadC false 1 t52 H (K' · H)) fun t53 =>
  aPure H (fun K' => aIdxA 2 t51 t53 (K' · H)) fun t54 =>
  aPure H (fun K' => aFld 0 t54 (K' · H)) fun t55 =>
  aPure H (fun K' => aLoadC false 1 t55 H (K' · H)) fun t56 =>
  aDet .w false H (fun K' => ACalls Tryz.prog n_strings_Builder_WriteString [t45, t56] H K') fun t57 H =>
  aFld 2 t6 fun t58 =>
  aLoad false 1 t58 H fun t59 =>
  aLen 1 t59 fun t60 =>
  aBin .gtr false t60 (.int .i64 0) fun t61 =>
  aTest t61
  (aLoad true 3 t7 H fun t64 =>
  aFld 1 t6 fun t65 =>
  aLoad false 1 t65 H fun t66 =>
  ACalls Tryz.prog n_typing_Fields [t1, t64, t66] H fun t67 H =>
  aExt t67 0 fun t68 =>
  aExt t67 1 fun t69 =>
  aNew [.snil] H fun t8 H =>
  aStore 1 t8 t68 H fun H =>
  ACalls Tryz.prog n_strings_Builder_WriteString [t0, (.str [40])] H fun t71 H =>
  aFld 2 t6 fun t74 =>
  aLoad false 1 t74 H fun t75 =>
  aClos n_value_write_2 [t8] fun t76 =>
  ACalls Tryz.prog n_value_writeAll [t0, t1, t75, t76] H fun t77 H =>
  ACalls Tryz.prog n_strings_Builder_WriteString [t0, (.str [41])] H fun t79 H =>
  value_write_j1 H K)
  (value_write_j1 H K))
  (aBin .eql false t11 (.int .i64 7) fun t81 =>
  aTest t81
  (ACalls Tryz.prog n_strings_Builder_WriteString [t0, (.str [91])] H fun t83 H =>
  aFld 2 t6 fun t86 =>
  aLoad false 1 t86 H fun t87 =>
  aClos n_value_write_3 [t7] fun t88 =>
  ACalls Tryz.prog n_value_writeAll [t0, t1, t87, t88] H fun t89 H =>
  ACalls Tryz.prog n_strings_Builder_WriteString [t0, (.str [93])] H fun t91 H =>
  value_write_j1 H K)
  (aBin .eql false t11 (.int .i64 8) fun t93 =>
  aTest t93
  (ACalls Tryz.prog n_strings_Builder_WriteString [t0, (.str [114, 101, 102, 40])] H fun t95 H =>
  aPure H (fun K' => K' t0 H) fun t96 =>
  aPure H (fun K' => K' t1 H) fun t97 =>
  aPure H (fun K' => aFld 2 t6 (K' · H)) fun t98 =>
  aPure H (fun K' => aLoadC false 1 t98 H (K' · H)) fun t99 =>
  aPure H (fun K' => aIdxA 3 t99 (.int .i64 0) (K' · H)) fun t100 =>
  aPure H (fun K' => aLoadC true 3 t100 H (K' · H)) fun t101 =>
  aPure H (fun K' => aFld 2 t7 (K' · H)) fun t102 =>
  aPure H (fun K' => aLoadC false 1 t102 H (K' · H)) fun t103 =>
  aPure H (fun K' => aIdxA 3 t103 (.int .i64 0) (K' · H)) fun t104 =>
  aPure H (fun K' => aLoadC true 3 t104 H (K' · H)) fun t105 =>
  aDet .w false H (fun K' => ACalls Tryz.prog n_value_write [t96, t97, t101, t105] H K') fun t106 H =>
  ACalls Tryz.prog n_strings_Builder_WriteString [t0, (.str [41])] H fun t108 H =>
  value_write_j1 H K)
  (aBin .eql false t11 (.int .i64 9) fun t110 =>
  aTest t110
  (aFld 1 t6 fun t112 =>
  aLoad false 1 t112 H fun t113 =>
  ACalls Tryz.prog n_strconv_FormatInt [t113, (.int .i64 10)] H fun t114 H =>
  aBin .add false (.str [102, 110, 35]) t114 fun t115 =>
  ACalls Tryz.prog n_strings_Builder_WriteString [t0, t115] H fun t116 H =>
  value_write_j1 H K)
  (value_write_j1 H K))))))))
theorem value_write_eq (t0 t1 t2 t3 : AV) (H : Heap) (K : Kt) : awp Tryz.prog value_write_M value_write_c (retQ Tryz.prog value_write_r K) (t0 :: t1 :: t2 :: t3 :: List.replicate 113 .unk) H = value_write t0 t1 t2 t3 H K := by kernel_rfl
theorem value_write_ok {t0 t1 t2 t3 : AV} {H : Heap} {K : Kt} (h : HSc H → value_write t0 t1 t2 t3 H K) : ACalls Tryz.prog n_value_write [t0, t1, t2, t3] H K :=
  acalls_body (M := value_write_M) Tryz.func57 (c := value_write_c) (by kernel_rfl) (fun hs => (value_write_eq t0 t1 t2 t3 H K).mpr (h hs))
/-! ### 100: strconv.FormatInt -/
def strconv_FormatInt_M (_ : Nat) : List Bool := []
noncomputable def strconv_FormatInt_c : Code := Tryz.f100.body.getD .skip
noncomputable def strconv_FormatInt_r : List ResultVar := Tryz.f100.results.toList
def strconv_FormatInt (t0 t1 : AV) (H : Heap) (K : Kt) : Prop :=
  ACalls Tryz.prog n_internal_strconv_FormatInt [t0, t1] H fun t7 H =>
  K t7 H
theorem strconv_FormatInt_eq (t0 t1 : AV) (H : Heap) (K : Kt) : awp Tryz.prog strconv_FormatInt_M strconv_FormatInt_c (retQ Tryz.prog strconv_FormatInt_r K) (t0 :: t1 :: List.replicate 6 .unk) H = strconv_FormatInt t0 t1 H K := by kernel_rfl
theorem strconv_FormatInt_ok {t0 t1 : AV} {H : Heap} {K : Kt} (h : HSc H → strconv_FormatInt t0 t1 H K) : ACalls Tryz.prog n_strconv_FormatInt [t0, t1] H K :=
  acalls_body (M := strconv_FormatInt_M) Tryz.func100 (c := strconv_FormatInt_c) (by kernel_rfl) (fun hs => (strconv_FormatInt_eq t0 t1 H K).mpr (h hs))
/-! ### 207: internal/strconv.small -/
def internal_strconv_small_M (_ : Nat) : List Bool := []
noncomputable def internal_strconv_small_c : Code := Tryz.f207.body.getD .skip
noncomputable def internal_strconv_small_r : List ResultVar := Tryz.f207.results.toList
def internal_strconv_small (t0 : AV) (H : Heap) (K : Kt) : Prop :=
  aBin .lss false t0 (.int .i64 10) fun t4 =>
  aTest t4
  (aBin .add false t0 (.int .i64 1) fun t7 =>
  aSlice 0 0 (.str [48, 49, 50, 51, 52, 53, 54, 55, 56, 57, 97, 98, 99, 100, 101, 102, 103, 104, 105, 106, 107, 108, 109, 110, 111, 112, 113, 114, 115, 116, 117, 118, 119, 120, 121, 122]) (some t0) (some t7) fun t8 =>
  K t8 H)
  (aBin .mul false t0 (.int .i64 2) fun t10 =>
  aBin .mul false t0 (.int .i64 2) fun t12 =>
  aBin .add false t12 (.int .i64 2) fun t13 =>
  aSlice 0 0 (.str [48, 48, 48, 49, 48, 50, 48, 51, 48, 52, 48, 53, 48, 54, 48, 55, 48, 56, 48, 57, 49, 48, 49, 49, 49, 50, 49, 51, 49, 52, 49, 53, 49, 54, 49, 55, 49, 56, 49, 57, 50, 48, 50, 49, 50, 50, 50, 51, 50, 52, 50, 53, 50, 54, 50, 55, 50, 56, 50, 57, 51, 48, 51, 49, 51, 50, 51, 51, 51, 52, 51, 53, 51, 54, 51, 55, 51, 56, 51, 57, 52, 48, 52, 49, 52, 50, 52, 51, 52, 52, 52, 53, 52, 54, 52, 55, 52, 56, 52, 57, 53, 48, 53, 49, 53, 50, 53, 51, 53, 52, 53, 53, 53, 54, 53, 55, 53, 56, 53, 57, 54, 48, 54, 49, 54, 50, 54, 51, 54, 52, 54, 53, 54, 54, 54, 55, 54, 56, 54, 57, 55, 48, 55, 49, 55, 50, 55, 51, 55, 52, 55, 53, 55, 54, 55, 55, 55, 56, 55, 57, 56, 48, 56, 49, 56, 50, 56, 51, 56, 52, 56, 53, 56, 54, 56, 55, 56, 56, 56, 57, 57, 48, 57, 49, 57, 50, 57, 51, 57, 52, 57, 53, 57, 54, 57, 55, 57, 56, 57, 57]) (some t10) (some t13) fun t14 =>
  K t14 H)
theorem internal_strconv_small_eq (t0 : AV) (H : Heap) (K : Kt) : awp Tryz.prog internal_strconv_small_M internal_strconv_small_c (retQ Tryz.prog internal_strconv_small_r K) (t0 :: List.replicate 14 .unk) H = internal_strconv_small t0 H K := by kernel_rfl
theorem internal_strconv_small_ok {t0 : AV} {H : Heap} {K : Kt} (h : HSc H → internal_strconv_small t0 H K) : ACalls Tryz.prog n_internal_strconv_small [t0] H K :=
  acalls_body (M := internal_strconv_small_M) Tryz.func207 (c := internal_strconv_small_c) (by kernel_rfl) (fun hs => (internal_strconv_small_eq t0 H K).mpr (h hs))
/-! ### 101: strconv.FormatBool -/
def strconv_FormatBool_M (_ : Nat) : List Bool := []
noncomputable def strconv_FormatBool_c : Code := Tryz.f101.body.getD .skip
noncomputable def strconv_FormatBool_r : List ResultVar := Tryz.f101.results.toList
def strconv_FormatBool (t0 : AV) (H : Heap) (K : Kt) : Prop :=
  ACalls Tryz.prog n_internal_strconv_FormatBool [t0] H fun t4 H =>
  K t4 H
theorem strconv_FormatBool_eq (t0 : AV) (H : Heap) (K : Kt) : awp Tryz.prog strconv_FormatBool_M strconv_FormatBool_c (retQ Tryz.prog strconv_FormatBool_r K) (t0 :: List.replicate 4 .unk) H = strconv_FormatBool t0 H K := by kernel_rfl
theorem strconv_FormatBool_ok {t0 : AV} {H : Heap} {K : Kt} (h : HSc H → strconv_FormatBool t0 H K) : ACalls Tryz.prog n_strconv_FormatBool [t0] H K :=
  acalls_body (M := strconv_FormatBool_M) Tryz.func101 (c := strconv_FormatBool_c) (by kernel_rfl) (fun hs => (strconv_FormatBool_eq t0 H K).mpr (h hs))
/-! ### 166: internal/strconv.FormatBool -/
def internal_strconv_FormatBool_M (_ : Nat) : List Bool := []
noncomputable def internal_strconv_FormatBool_c : Code := Tryz.f166.body.getD .skip
noncomputable def internal_strconv_FormatBool_r : List ResultVar := Tryz.f166.results.toList
def internal_strconv_FormatBool (t0 : AV) (H : Heap) (K : Kt) : Prop :=
  aTest t0
  (K (.str [116, 114, 117, 101]) H)
  (K (.str [102, 97, 108, 115, 101]) H)
theorem internal_strconv_FormatBool_eq (t0 : AV) (H : Heap) (K : Kt) : awp Tryz.prog internal_strconv_FormatBool_M internal_strconv_FormatBool_c (retQ Tryz.prog internal_strconv_FormatBool_r K) (t0 :: List.replicate 3 .unk) H = internal_strconv_FormatBool t0 H K := by kernel_rfl
theorem internal_strconv_FormatBool_ok {t0 : AV} {H : Heap} {K : Kt} (h : HSc H → internal_strconv_FormatBool t0 H K) : ACalls Tryz.prog n_internal_strconv_FormatBool [t0] H K :=
  acalls_body (M := internal_strconv_FormatBool_M) Tryz.func166 (c := internal_strconv_FormatBool_c) (by kernel_rfl) (fun hs => (internal_strconv_FormatBool_eq t0 H K).mpr (h hs))
/-! ### 112: strconv.Itoa -/
def strconv_Itoa_M (_ : Nat) : List Bool := []
noncomputable def strconv_Itoa_c : Code := Tryz.f112.body.getD .skip
noncomputable def strconv_Itoa_r : List ResultVar := Tryz.f112.results.toList
def strconv_Itoa (t0 : AV) (H : Heap) (K : Kt) : Prop :=
  ACalls Tryz.prog n_internal_strconv_Itoa [t0] H fun t4 H =>
  K t4 H
theorem strconv_Itoa_eq (t0 : AV) (H : Heap) (K : Kt) : awp Tryz.prog strconv_Itoa_M strconv_Itoa_c (retQ Tryz.prog strconv_Itoa_r K) (t0 :: List.replicate 4 .unk) H = strconv_Itoa t0 H K := by kernel_rfl
theorem strconv_Itoa_ok {t0 : AV} {H : Heap} {K : Kt} (h : HSc H → strconv_Itoa t0 H K) : ACalls Tryz.prog n_strconv_Itoa [t0] H K :=
  acalls_body (M := strconv_Itoa_M) Tryz.func112 (c := strconv_Itoa_c) (by kernel_rfl) (fun hs => (strconv_Itoa_eq t0 H K).mpr (h hs))
/-! ### 167: internal/strconv.Itoa -/
def internal_strconv_Itoa_M (_ : Nat) : List Bool := []
noncomputable def internal_strconv_Itoa_c : Code := Tryz.f167.body.getD .skip
noncomputable def internal_strconv_Itoa_r : List ResultVar := Tryz.f167.results.toList
def internal_strconv_Itoa (t0 : AV) (H : Heap) (K : Kt) : Prop :=
  ACalls Tryz.prog n_internal_strconv_FormatInt [t0, (.int .i64 10)] H fun t4 H =>
  K t4 H
theorem internal_strconv_Itoa_eq (t0 : AV) (H : Heap) (K : Kt) : awp Tryz.prog internal_strconv_Itoa_M internal_strconv_Itoa_c (retQ Tryz.prog internal_strconv_Itoa_r K) (t0 :: List.replicate 4 .unk) H = internal_strconv_Itoa t0 H K := by kernel_rfl
theorem internal_strconv_Itoa_ok {t0 : AV} {H : Heap} {K : Kt} (h : HSc H → internal_strconv_Itoa t0 H K) : ACalls Tryz.prog n_internal_strconv_Itoa [t0] H K :=
  acalls_body (M := internal_strconv_Itoa_M) Tryz.func167 (c := internal_strconv_Itoa_c) (by kernel_rfl) (fun hs => (internal_strconv_Itoa_eq t0 H K).mpr (h hs))
end Go.Proofs.YtfpmdpldabopjaaGreatDoor
