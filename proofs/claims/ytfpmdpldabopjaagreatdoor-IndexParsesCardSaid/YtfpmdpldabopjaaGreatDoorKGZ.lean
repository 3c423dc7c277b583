/- The shallow forms of functions of the program, printed by a program (absgen.py) off the translation, each tied to the model by the kernel. -/
import Derived.Test.YtfpmdpldabopjaaGreatDoorKNum
import Derived.Test.YtfpmdpldabopjaaGreatDoorProg
import Derived.KernelRfl
namespace Go.Proofs.YtfpmdpldabopjaaGreatDoor
open Go Go.Abs
set_option linter.unusedVariables false
set_option maxRecDepth 100000
def zq6_M (_ : Nat) : List Bool := []
noncomputable def zq6_c : Code := Tryz.f8.body.getD .skip
noncomputable def zq6_r : List ResultVar := Tryz.f8.results.toList
def zq6 (t0 t1 t2 : AV) (H : Heap) (K : Kt) : Prop :=
 aBox t1 H fun t4 H =>
 aLoad true 3 t4 H fun t12 =>
 ACalls Tryz.prog n_zq21 [t0, t12] H fun t13 H =>
 aUn .not t13 fun t14 =>
 aGuardJ t14 false H (fun K' => K' t2 H) fun t16 H =>
 aGuardJ t14 false H (fun K' => aLen 0 t16 (K' · H)) fun t17 H =>
 aGuardJ t14 false H (fun K' => aBin .gtr false t17 (.int .i64 500) (K' · H)) fun t18 H =>
 aPick t14 (.bool true) t18 fun t19 =>
 aTest t19
 (K (.bool true) H)
 (aLoad true 3 t4 H fun t22 =>
 ACalls Tryz.prog n_zq33 [t0, t22, t2] H fun t24 H =>
 aExt t24 0 fun t25 =>
 aExt t24 1 fun t26 =>
 aNew [(.int .i64 0), .snil] H fun t7 H =>
 aStore 2 t7 t25 H fun H =>
 aLoad true 3 t4 H fun t29 =>
 ACalls Tryz.prog n_zq34 [t0, t29, t2] H fun t31 H =>
 aExt t31 0 fun t32 =>
 aExt t31 1 fun t33 =>
 aNew [(.int .i64 0), .snil] H fun t9 H =>
 aStore 2 t9 t32 H fun H =>
 aBin .eql true t26 t33 fun t36 =>
 aGuardJ t36 true H (fun K' => aLoad true 2 t7 H (K' · H)) fun t38 H =>
 aGuardJ t36 true H (fun K' => aLoad true 2 t9 H (K' · H)) fun t39 H =>
 aGuardJ t36 true H (fun K' => ACalls Tryz.prog n_zq35 [t38, t39] H K') fun t40 H =>
 aPick t36 t40 (.bool false) fun t41 =>
 aGuardJ t41 true H (fun K' => ACalls Tryz.prog n_zq27 [] H K') fun t43 H =>
 aPick t41 t43 (.bool false) fun t44 =>
 K t44 H)
theorem zq6_eq (t0 t1 t2 : AV) (H : Heap) (K : Kt) : awp Tryz.prog zq6_M zq6_c (retQ Tryz.prog zq6_r K) (t0 :: t1 :: t2 :: List.replicate 42 .unk) H = zq6 t0 t1 t2 H K := by kernel_rfl
theorem zq6_ok {t0 t1 t2 : AV} {H : Heap} {K : Kt} (h : HSc H → zq6 t0 t1 t2 H K) : ACalls Tryz.prog n_zq6 [t0, t1, t2] H K :=
 acalls_body (M := zq6_M) Tryz.func8 (c := zq6_c) (by kernel_rfl) (fun hs => (zq6_eq t0 t1 t2 H K).mpr (h hs))
def zq34_M (_ : Nat) : List Bool := []
noncomputable def zq34_c : Code := Tryz.f36.body.getD .skip
noncomputable def zq34_r : List ResultVar := Tryz.f36.results.toList
def zq34 (t0 t1 t2 : AV) (H : Heap) (K : Kt) : Prop :=
 aBox t1 H fun t4 H =>
 aNew [(.int .i64 0), .snil] H fun t6 H =>
 aLoad true 3 t4 H fun t11 =>
 ACalls Tryz.prog n_zq61 [t0, t11] H fun t12 H =>
 aUn .not t12 fun t13 =>
 aTest t13
 (aBuild [(.int .i64 0), .snil] [(0, 1), (1, 1)] [] fun t14 =>
 aStore 2 t6 t14 H fun H =>
 aLoad true 2 t6 H fun r0 =>
 aRet [r0, (.bool false)] (K · H))
 (aBuild [.snil, (.str []), (.int .i64 0), (.bool false)] [(0, 1), (1, 1), (2, 1), (3, 1)] [(0, t0), (1, t2)] fun t17 =>
 aBox t17 H fun t18 H =>
 aLoad true 3 t4 H fun t20 =>
 ACalls Tryz.prog n_zq70 [t18, t20] H fun t21 H =>
 aNew [(.int .i64 0), .snil] H fun t9 H =>
 aStore 2 t9 t21 H fun H =>
 aNil t18 fun t23 =>
 aFld 3 t23 fun t24 =>
 aLoad false 1 t24 H fun t25 =>
 aGuardJ t25 false H (fun K' => K' t18 H) fun t27 H =>
 aGuardJ t25 false H (fun K' => aNil t27 (K' · H)) fun t28 H =>
 aGuardJ t25 false H (fun K' => aFld 2 t28 (K' · H)) fun t29 H =>
 aGuardJ t25 false H (fun K' => aLoad false 1 t29 H (K' · H)) fun t30 H =>
 aGuardJ t25 false H (fun K' => K' t2 H) fun t31 H =>
 aGuardJ t25 false H (fun K' => aLen 0 t31 (K' · H)) fun t32 H =>
 aGuardJ t25 false H (fun K' => aBin .neq false t30 t32 (K' · H)) fun t33 H =>
 aPick t25 (.bool true) t33 fun t34 =>
 aGuardJ t34 false H (fun K' => K' t0 H) fun t36 H =>
 aGuardJ t34 false H (fun K' => aLoad true 3 t4 H (K' · H)) fun t37 H =>
 aGuardJ t34 false H (fun K' => aLoad true 2 t9 H (K' · H)) fun t38 H =>
 aGuardJ t34 false H (fun K' => ACalls Tryz.prog n_zq24 [t36, t37, t38] H K') fun t39 H =>
 aGuardJ t34 false H (fun K' => aUn .not t39 (K' · H)) fun t40 H =>
 aPick t34 (.bool true) t40 fun t41 =>
 aTest t41
 (aBuild [(.int .i64 0), .snil] [(0, 1), (1, 1)] [] fun t42 =>
 aStore 2 t6 t42 H fun H =>
 aLoad true 2 t6 H fun r0 =>
 aRet [r0, (.bool false)] (K · H))
 (aLoad true 2 t9 H fun t43 =>
 aStore 2 t6 t43 H fun H =>
 aLoad true 2 t6 H fun r0 =>
 aRet [r0, (.bool true)] (K · H)))
theorem zq34_eq (t0 t1 t2 : AV) (H : Heap) (K : Kt) : awp Tryz.prog zq34_M zq34_c (retQ Tryz.prog zq34_r K) (t0 :: t1 :: t2 :: List.replicate 41 .unk) H = zq34 t0 t1 t2 H K := by kernel_rfl
theorem zq34_ok {t0 t1 t2 : AV} {H : Heap} {K : Kt} (h : HSc H → zq34 t0 t1 t2 H K) : ACalls Tryz.prog n_zq34 [t0, t1, t2] H K :=
 acalls_body (M := zq34_M) Tryz.func36 (c := zq34_c) (by kernel_rfl) (fun hs => (zq34_eq t0 t1 t2 H K).mpr (h hs))
def zq70_M : Nat → List Bool
 | 19 => rl false [0,1,2,4,206]
 | 22 => rl false [0,1,2,5,205]
 | 100034 => rl false [0,1,2,4,6,1,199]
 | 100022 => rl false [0,1,2,5,205]
 | 159014 => rl false [0,1,2,3,10,1,13,1,182]
 | _ => []
noncomputable def zq70_c : Code := Tryz.f72.body.getD .skip
noncomputable def zq70_r : List ResultVar := Tryz.f72.results.toList
def zq70_j2 (t4 t5 : AV) (H : Heap) (K : Kt) : Prop :=
 aLoad true 2 t5 H fun t212 =>
 aStore 2 t4 t212 H fun H =>
 aLoad true 2 t4 H fun r0 =>
 K r0 H
def zq70_j1 (t4 t5 : AV) (H : Heap) (K : Kt) : Prop :=
 zq70_j2 t4 t5 H K
def zq70_fr19 (t0 t3 t4 t5 t6 : AV) : List AV := t0 :: ux 2 (t3 :: t4 :: t5 :: t6 :: ux 206 [])
def zq70_m19 : List Bool := zq70_M 19
noncomputable def zq70_c19 : Code := codeAt [1, 1, 0, 1, 0, 1, 1, 1, 1, 1, 0, 1, 1, 0, 1, 0, 0] zq70_c
def zq70_Q19 (K : Kt) : AExit → List AV → Heap → Prop := contAt Tryz.prog zq70_M [1, 1, 0, 1, 0, 1, 1, 1, 1, 1, 0, 1, 1, 0, 1, 0] zq70_c (retQ Tryz.prog zq70_r K)
def zq70_l19 (t0 t3 t4 t5 t6 : AV) (H : Heap) (K : Kt) : Prop := ALoop Tryz.prog zq70_c19 (zq70_Q19 K) (zq70_fr19 t0 t3 t4 t5 t6) H
def zq70_fr22 (t0 t3 t4 t5 t6 t7 : AV) : List AV := t0 :: ux 2 (t3 :: t4 :: t5 :: t6 :: t7 :: ux 205 [])
def zq70_m22 : List Bool := zq70_M 22
noncomputable def zq70_c22 : Code := codeAt [1, 0, 0, 1, 0, 0, 0] zq70_c19
def zq70_Q22 (K : Kt) (Kb19 : Lt) : AExit → List AV → Heap → Prop := contAt Tryz.prog zq70_M [1, 0, 0, 1, 0, 0] zq70_c19 (roundQ zq70_m19 Kb19 (zq70_Q19 K))
def zq70_l22 (t0 t3 t4 t5 t6 t7 : AV) (H : Heap) (K : Kt) (Kb19 : Lt) : Prop := ALoop Tryz.prog zq70_c22 (zq70_Q22 K Kb19) (zq70_fr22 t0 t3 t4 t5 t6 t7) H
noncomputable def zq70_j5_c : Code := codeAt [1, 0, 0, 1, 1, 1, 1, 1, 1, 1] zq70_c19
def zq70_j5_Q (K : Kt) (Kb19 : Lt) : AExit → List AV → Heap → Prop := contAt Tryz.prog zq70_M [1, 0, 0, 1, 1, 1, 1, 1, 1, 1] zq70_c19 (roundQ zq70_m19 Kb19 (zq70_Q19 K))
def zq70_j5 (t0 t3 t4 t5 t6 t13 : AV) (H : Heap) (K : Kt) (Kb19 : Lt) : Prop := AWp Tryz.prog zq70_j5_c (zq70_j5_Q K Kb19) (t0 :: ux 2 (t3 :: t4 :: t5 :: t6 :: ux 6 (t13 :: ux 199 []))) H
def zq70_j5b (t0 t3 t4 t5 t6 t13 : AV) (H : Heap) (K : Kt) (Kb19 : Lt) : Prop :=
 aFld 1 t5 fun t198 =>
 aLoad false 1 t198 H fun t199 =>
 aLoad true 2 t13 H fun t200 =>
 aBuildS 2 [(.int .i64 0), .snil] 1 [(0, t200)] fun t201 =>
 aAppend e_api_Index 2 32 t199 t201 H fun t202 H =>
 aFld 1 t5 fun t203 =>
 aStore 1 t203 t202 H fun H =>
 ACalls Tryz.prog n_zq122 [t0, (.str [93])] H fun t205 H =>
 aTest t205
 (aLoad true 2 t5 H fun t206 =>
 aStore 2 t4 t206 H fun H =>
 aLoad true 2 t4 H fun r0 =>
 K r0 H)
 (ACalls Tryz.prog n_zq120 [t0, (.str [44, 32])] H fun t208 H =>
 aBin .add false t6 (.int .i64 1) fun t106 =>
 Kb19 (zq70_fr19 t0 t3 t4 t5 t106) H)
def zq70_b22 (t0 t3 t4 t5 t6 t7 : AV) (H : Heap) (K : Kt) (Kb19 : Lt) (Kb22 : Lt) : Prop :=
 aPure H (fun K' => K' t0 H) fun t111 =>
 aPure H (fun K' => aNil t111 (K' · H)) fun t112 =>
 aPure H (fun K' => aFld 2 t112 (K' · H)) fun t113 =>
 aPure H (fun K' => aLoadC false 1 t113 H (K' · H)) fun t114 =>
 aPure H (fun K' => K' t0 H) fun t115 =>
 aPure H (fun K' => aNil t115 (K' · H)) fun t116 =>
 aPure H (fun K' => aFld 1 t116 (K' · H)) fun t117 =>
 aPure H (fun K' => aLoadC false 1 t117 H (K' · H)) fun t118 =>
 aPure H (fun K' => aLen 0 t118 (K' · H)) fun t119 =>
 aPure H (fun K' => aBin .lss false t114 t119 (K' · H)) fun t120 =>
 aPure H (fun K' => K' t120 H) fun t121 =>
 aGuardJ t121 true H (fun K' => aPure H (fun K'' => K'' t0 H) (K' · H)) fun t122 H =>
 aGuardJ t121 true H (fun K' => aPure H (fun K'' => aNil t122 (K'' · H)) (K' · H)) fun t123 H =>
 aGuardJ t121 true H (fun K' => aPure H (fun K'' => aFld 1 t123 (K'' · H)) (K' · H)) fun t124 H =>
 aGuardJ t121 true H (fun K' => aPure H (fun K'' => aLoadC false 1 t124 H (K'' · H)) (K' · H)) fun t125 H =>
 aGuardJ t121 true H (fun K' => aPure H (fun K'' => K'' t0 H) (K' · H)) fun t126 H =>
 aGuardJ t121 true H (fun K' => aPure H (fun K'' => aNil t126 (K'' · H)) (K' · H)) fun t127 H =>
 aGuardJ t121 true H (fun K' => aPure H (fun K'' => aFld 2 t127 (K'' · H)) (K' · H)) fun t128 H =>
 aGuardJ t121 true H (fun K' => aPure H (fun K'' => aLoadC false 1 t128 H (K'' · H)) (K' · H)) fun t129 H =>
 aGuardJ t121 true H (fun K' => aPure H (fun K'' => aIdxS t125 t129 (K'' · H)) (K' · H)) fun t130 H =>
 aGuardJ t121 true H (fun K' => aPureX H (fun H K'' => ACalls Tryz.prog n_zq123 [t130] H K'') (K' · H)) fun t131 H =>
 aPure H (fun K' => aPick t121 t131 (.bool false) (K' · H)) fun t132 =>
 aTest t132
 (aNil t0 fun t134 =>
 aFld 2 t134 fun t135 =>
 aLoad false 1 t135 H fun t136 =>
 aBin .add false t136 (.int .i64 1) fun t137 =>
 aNil t0 fun t138 =>
 aFld 2 t138 fun t139 =>
 aStore 1 t139 t137 H fun H =>
 Kb22 (zq70_fr22 t0 t3 t4 t5 t6 t7) H)
 (aPure H (fun K' => K' t0 H) fun t141 =>
 aPure H (fun K' => aNil t141 (K' · H)) fun t142 =>
 aPure H (fun K' => aFld 0 t142 (K' · H)) fun t143 =>
 aPure H (fun K' => aLoadC false 1 t143 H (K' · H)) fun t144 =>
 aPure H (fun K' => K' t0 H) fun t145 =>
 aPure H (fun K' => aNil t145 (K' · H)) fun t146 =>
 aPure H (fun K' => aFld 1 t146 (K' · H)) fun t147 =>
 aPure H (fun K' => aLoadC false 1 t147 H (K' · H)) fun t148 =>
 aPure H (fun K' => K' t7 H) fun t149 =>
 aPure H (fun K' => K' t0 H) fun t150 =>
 aPure H (fun K' => aNil t150 (K' · H)) fun t151 =>
 aPure H (fun K' => aFld 2 t151 (K' · H)) fun t152 =>
 aPure H (fun K' => aLoadC false 1 t152 H (K' · H)) fun t153 =>
 aPure H (fun K' => aSlice 0 0 t148 (some t149) (some t153) (K' · H)) fun t154 =>
 aPureX H (fun H K' => ACalls Tryz.prog n_zq124 [t144, t154] H K') fun t155 =>
 aPure H (fun K' => K' t155 H) fun t140 =>
 aPure H (fun K' => aExt t140 0 (K' · H)) fun t156 =>
 aPure H (fun K' => aExt t140 1 (K' · H)) fun t157 =>
 aPure H (fun K' => aExt t140 2 (K' · H)) fun t158 =>
 aPure H (fun K' => K' t156 H) fun t8 =>
 aPure H (fun K' => K' t157 H) fun t9 =>
 aPure H (fun K' => K' t158 H) fun t10 =>
 aPure H (fun K' => K' t0 H) fun t160 =>
 aPure H (fun K' => aNil t160 (K' · H)) fun t161 =>
 aPure H (fun K' => aFld 0 t161 (K' · H)) fun t162 =>
 aPure H (fun K' => aLoadC false 1 t162 H (K' · H)) fun t163 =>
 aPure H (fun K' => aLoadC true 3 t3 H (K' · H)) fun t164 =>
 aPure H (fun K' => K' t9 H) fun t165 =>
 aPureX H (fun H K' => ACalls Tryz.prog n_zq83 [t163, t164, t165] H K') fun t166 =>
 aPure H (fun K' => K' t166 H) fun t159 =>
 aPure H (fun K' => aExt t159 0 (K' · H)) fun t167 =>
 aPure H (fun K' => aExt t159 1 (K' · H)) fun t168 =>
 aPure H (fun K' => K' t167 H) fun t11 =>
 aPure H (fun K' => K' t168 H) fun t12 =>
 aUn .not t10 fun t170 =>
 aGuardJ t170 false H (fun K' => K' t8 H) fun t172 H =>
 aGuardJ t170 false H (fun K' => aFld 1 t3 (K' · H)) fun t173 H =>
 aGuardJ t170 false H (fun K' => aLoad false 1 t173 H (K' · H)) fun t174 H =>
 aGuardJ t170 false H (fun K' => aBin .neq false t172 t174 (K' · H)) fun t175 H =>
 aPick t170 (.bool true) t175 fun t176 =>
 aGuardJ t176 false H (fun K' => K' t12 H) fun t178 H =>
 aGuardJ t176 false H (fun K' => aUn .not t178 (K' · H)) fun t179 H =>
 aPick t176 (.bool true) t179 fun t180 =>
 aTest t180
 (aNil t0 fun t182 =>
 aFld 3 t182 fun t183 =>
 aStore 1 t183 (.bool true) H fun H =>
 aLoad true 2 t5 H fun t184 =>
 aStore 2 t4 t184 H fun H =>
 aLoad true 2 t4 H fun r0 =>
 K r0 H)
 (aBuild [(.int .i64 0), .snil] [(0, 1), (1, 1)] [(0, t9)] fun t186 =>
 aNew [(.int .i64 0), .snil] H fun t13 H =>
 aStore 2 t13 t186 H fun H =>
 aLen 1 t11 fun t188 =>
 aBin .gtr false t188 (.int .i64 0) fun t189 =>
 aTest t189
 (ACalls Tryz.prog n_zq120 [t0, (.str [40])] H fun t191 H =>
 ACalls Tryz.prog n_zq121 [t0, t11] H fun t194 H =>
 aFld 1 t13 fun t195 =>
 aStore 1 t195 t194 H fun H =>
 ACalls Tryz.prog n_zq120 [t0, (.str [41])] H fun t197 H =>
 zq70_j5 t0 t3 t4 t5 t6 t13 H K Kb19)
 (zq70_j5 t0 t3 t4 t5 t6 t13 H K Kb19)))
noncomputable def zq70_j4_c : Code := codeAt [1, 0, 0, 1] zq70_c19
def zq70_j4_Q (K : Kt) (Kb19 : Lt) : AExit → List AV → Heap → Prop := contAt Tryz.prog zq70_M [1, 0, 0, 1] zq70_c19 (roundQ zq70_m19 Kb19 (zq70_Q19 K))
def zq70_j4 (t0 t3 t4 t5 t6 t7 : AV) (H : Heap) (K : Kt) (Kb19 : Lt) : Prop := AWp Tryz.prog zq70_j4_c (zq70_j4_Q K Kb19) (t0 :: ux 2 (t3 :: t4 :: t5 :: t6 :: t7 :: ux 205 [])) H
def zq70_j4b (t0 t3 t4 t5 t6 t7 : AV) (H : Heap) (K : Kt) (Kb19 : Lt) : Prop :=
 zq70_l22 t0 t3 t4 t5 t6 t7 H K Kb19
def zq70_b19 (t0 t3 t4 t5 t6 : AV) (H : Heap) (K : Kt) (Kb19 : Lt) : Prop :=
 aNil t0 fun t97 =>
 aFld 3 t97 fun t98 =>
 aLoad false 1 t98 H fun t99 =>
 aUn .not t99 fun t100 =>
 aGuardJ t100 true H (fun K' => K' t6 H) fun t102 H =>
 aGuardJ t100 true H (fun K' => aBin .leq false t102 (.int .i64 6) (K' · H)) fun t103 H =>
 aPick t100 t103 (.bool false) fun t104 =>
 aTest t104
 (aNil t0 fun t108 =>
 aFld 2 t108 fun t109 =>
 aLoad false 1 t109 H fun t110 =>
 zq70_j4 t0 t3 t4 t5 t6 t110 H K Kb19)
 (aNil t0 fun t210 =>
 aFld 3 t210 fun t211 =>
 aStore 1 t211 (.bool true) H fun H =>
 zq70_j1 t4 t5 H K)
noncomputable def zq70_j3_c : Code := codeAt [1, 1, 0, 1, 0, 1, 1, 1] zq70_c
def zq70_j3_Q (K : Kt) : AExit → List AV → Heap → Prop := contAt Tryz.prog zq70_M [1, 1, 0, 1, 0, 1, 1, 1] zq70_c (retQ Tryz.prog zq70_r K)
def zq70_j3 (t0 t3 t4 t5 t16 t30 : AV) (H : Heap) (K : Kt) : Prop := AWp Tryz.prog zq70_j3_c (zq70_j3_Q K) (t0 :: ux 2 (t3 :: t4 :: t5 :: ux 10 (t16 :: ux 13 (t30 :: ux 182 [])))) H
def zq70_j3b (t0 t3 t4 t5 t16 t30 : AV) (H : Heap) (K : Kt) : Prop :=
 aTest t30
 (aPure H (fun K' => K' t0 H) fun t32 =>
 aPure H (fun K' => aNil t32 (K' · H)) fun t33 =>
 aPure H (fun K' => aFld 2 t33 (K' · H)) fun t34 =>
 aPure H (fun K' => aLoadC false 1 t34 H (K' · H)) fun t35 =>
 aPure H (fun K' => K' t0 H) fun t36 =>
 aPure H (fun K' => aNil t36 (K' · H)) fun t37 =>
 aPure H (fun K' => aFld 1 t37 (K' · H)) fun t38 =>
 aPure H (fun K' => aLoadC false 1 t38 H (K' · H)) fun t39 =>
 aPure H (fun K' => aLen 0 t39 (K' · H)) fun t40 =>
 aPure H (fun K' => aBin .geq false t35 t40 (K' · H)) fun t41 =>
 aPure H (fun K' => K' t41 H) fun t42 =>
 aGuardJ t42 false H (fun K' => aPure H (fun K'' => K'' t0 H) (K' · H)) fun t43 H =>
 aGuardJ t42 false H (fun K' => aPure H (fun K'' => aNil t43 (K'' · H)) (K' · H)) fun t44 H =>
 aGuardJ t42 false H (fun K' => aPure H (fun K'' => aFld 1 t44 (K'' · H)) (K' · H)) fun t45 H =>
 aGuardJ t42 false H (fun K' => aPure H (fun K'' => aLoadC false 1 t45 H (K'' · H)) (K' · H)) fun t46 H =>
 aGuardJ t42 false H (fun K' => aPure H (fun K'' => K'' t0 H) (K' · H)) fun t47 H =>
 aGuardJ t42 false H (fun K' => aPure H (fun K'' => aNil t47 (K'' · H)) (K' · H)) fun t48 H =>
 aGuardJ t42 false H (fun K' => aPure H (fun K'' => aFld 2 t48 (K'' · H)) (K' · H)) fun t49 H =>
 aGuardJ t42 false H (fun K' => aPure H (fun K'' => aLoadC false 1 t49 H (K'' · H)) (K' · H)) fun t50 H =>
 aGuardJ t42 false H (fun K' => aPure H (fun K'' => aIdxS t46 t50 (K'' · H)) (K' · H)) fun t51 H =>
 aGuardJ t42 false H (fun K' => aPure H (fun K'' => aBin .lss false t51 (.int .u8 48) (K'' · H)) (K' · H)) fun t52 H =>
 aPure H (fun K' => aPick t42 (.bool true) t52 (K' · H)) fun t53 =>
 aPure H (fun K' => K' t53 H) fun t54 =>
 aGuardJ t54 false H (fun K' => aPure H (fun K'' => K'' t0 H) (K' · H)) fun t55 H =>
 aGuardJ t54 false H (fun K' => aPure H (fun K'' => aNil t55 (K'' · H)) (K' · H)) fun t56 H =>
 aGuardJ t54 false H (fun K' => aPure H (fun K'' => aFld 1 t56 (K'' · H)) (K' · H)) fun t57 H =>
 aGuardJ t54 false H (fun K' => aPure H (fun K'' => aLoadC false 1 t57 H (K'' · H)) (K' · H)) fun t58 H =>
 aGuardJ t54 false H (fun K' => aPure H (fun K'' => K'' t0 H) (K' · H)) fun t59 H =>
 aGuardJ t54 false H (fun K' => aPure H (fun K'' => aNil t59 (K'' · H)) (K' · H)) fun t60 H =>
 aGuardJ t54 false H (fun K' => aPure H (fun K'' => aFld 2 t60 (K'' · H)) (K' · H)) fun t61 H =>
 aGuardJ t54 false H (fun K' => aPure H (fun K'' => aLoadC false 1 t61 H (K'' · H)) (K' · H)) fun t62 H =>
 aGuardJ t54 false H (fun K' => aPure H (fun K'' => aIdxS t58 t62 (K'' · H)) (K' · H)) fun t63 H =>
 aGuardJ t54 false H (fun K' => aPure H (fun K'' => aBin .gtr false t63 (.int .u8 57) (K'' · H)) (K' · H)) fun t64 H =>
 aPure H (fun K' => aPick t54 (.bool true) t64 (K' · H)) fun t65 =>
 aTest t65
 (aNil t0 fun t67 =>
 aFld 3 t67 fun t68 =>
 aStore 1 t68 (.bool true) H fun H =>
 aLoad true 2 t5 H fun t69 =>
 aStore 2 t4 t69 H fun H =>
 aLoad true 2 t4 H fun r0 =>
 K r0 H)
 (aPure H (fun K' => K' t0 H) fun t70 =>
 aPure H (fun K' => aNil t70 (K' · H)) fun t71 =>
 aPure H (fun K' => aFld 1 t71 (K' · H)) fun t72 =>
 aPure H (fun K' => aLoadC false 1 t72 H (K' · H)) fun t73 =>
 aPure H (fun K' => K' t0 H) fun t74 =>
 aPure H (fun K' => aNil t74 (K' · H)) fun t75 =>
 aPure H (fun K' => aFld 2 t75 (K' · H)) fun t76 =>
 aPure H (fun K' => aLoadC false 1 t76 H (K' · H)) fun t77 =>
 aPure H (fun K' => aIdxS t73 t77 (K' · H)) fun t78 =>
 aPure H (fun K' => aBin .sub false t78 (.int .u8 48) (K' · H)) fun t79 =>
 aPure H (fun K' => aConv .i64 t79 (K' · H)) fun t80 =>
 aPure H (fun K' => aFld 0 t5 (K' · H)) fun t81 =>
 aStore 1 t81 t80 H fun H =>
 aNil t0 fun t83 =>
 aFld 2 t83 fun t84 =>
 aLoad false 1 t84 H fun t85 =>
 aBin .add false t85 (.int .i64 1) fun t86 =>
 aNil t0 fun t87 =>
 aFld 2 t87 fun t88 =>
 aStore 1 t88 t86 H fun H =>
 zq70_j1 t4 t5 H K))
 (aBin .eql false t16 (.int .i64 5) fun t90 =>
 aTest t90
 (ACalls Tryz.prog n_zq120 [t0, (.str [91])] H fun t92 H =>
 ACalls Tryz.prog n_zq122 [t0, (.str [93])] H fun t94 H =>
 aTest t94
 (aLoad true 2 t5 H fun t95 =>
 aStore 2 t4 t95 H fun H =>
 aLoad true 2 t4 H fun r0 =>
 K r0 H)
 (zq70_l19 t0 t3 t4 t5 (.int .i64 0) H K))
 (ACalls Tryz.prog n_zq120 [t0, (.str [42])] H fun t18 H =>
 zq70_j1 t4 t5 H K))
def zq70 (t0 t1 : AV) (H : Heap) (K : Kt) : Prop :=
 aBox t1 H fun t3 H =>
 aNew [(.int .i64 0), .snil] H fun t4 H =>
 aBuild [(.int .i64 0), .snil] [(0, 1), (1, 1)] [] fun t14 =>
 aNew [(.int .i64 0), .snil] H fun t5 H =>
 aStore 2 t5 t14 H fun H =>
 aFld 0 t3 fun t15 =>
 aLoad false 1 t15 H fun t16 =>
 aBin .eql false t16 (.int .i64 6) fun t20 =>
 aTest t20
 (ACalls Tryz.prog n_zq120 [t0, (.str [40])] H fun t22 H =>
 aFld 2 t3 fun t24 =>
 aLoad false 1 t24 H fun t25 =>
 ACalls Tryz.prog n_zq121 [t0, t25] H fun t26 H =>
 aFld 1 t5 fun t27 =>
 aStore 1 t27 t26 H fun H =>
 ACalls Tryz.prog n_zq120 [t0, (.str [41])] H fun t29 H =>
 zq70_j1 t4 t5 H K)
 (aBin .eql false t16 (.int .i64 7) fun t31 =>
 zq70_j3 t0 t3 t4 t5 t16 t31 H K)
theorem zq70_j5_eq (t0 t3 t4 t5 t6 t13 : AV) (H : Heap) (K : Kt) (Kb19 : Lt) : awp Tryz.prog zq70_M zq70_j5_c (zq70_j5_Q K Kb19) (t0 :: ux 2 (t3 :: t4 :: t5 :: t6 :: ux 6 (t13 :: ux 199 []))) H = zq70_j5b t0 t3 t4 t5 t6 t13 H K Kb19 := by kernel_rfl
theorem zq70_j5_ok {t0 t3 t4 t5 t6 t13 : AV} {H : Heap} {K : Kt} {Kb19 : Lt} (h : HSc H → zq70_j5b t0 t3 t4 t5 t6 t13 H K Kb19) : zq70_j5 t0 t3 t4 t5 t6 t13 H K Kb19 :=
 fun B w G a hH hF hd => awp_sound (M := zq70_M) _ _ _ _ ((zq70_j5_eq t0 t3 t4 t5 t6 t13 H K Kb19).mpr (h hH.sc)) B w G a hH hF hd
theorem zq70_b22_eq (t0 t3 t4 t5 t6 t7 : AV) (H : Heap) (K : Kt) (Kb19 : Lt) (Kb22 : Lt) : awp Tryz.prog zq70_M zq70_c22 (roundQ zq70_m22 Kb22 (zq70_Q22 K Kb19)) (zq70_fr22 t0 t3 t4 t5 t6 t7) H = zq70_b22 t0 t3 t4 t5 t6 t7 H K Kb19 Kb22 := by kernel_rfl
theorem zq70_loop22 {t0 t3 t4 t5 t6 t7 : AV} {H : Heap} {K : Kt} {Kb19 : Lt} (Inv : Nat → Heap → Prop) (n : Nat) (h0 : HSc H → Inv n H)
   (round : ∀ n H', Inv n H' → HSc H' → H.length ≤ H'.length → (zq70_fr22 t0 t3 t4 t5 t6 t7).all (AV.sc H'.length) = true → ∀ Kb22 : Lt, (∀ F'' H'', (∃ n', n' < n ∧ Back H.length (fun F2 H2 => F2 = zq70_fr22 t0 t3 t4 t5 t6 t7 ∧ Inv n' H2) F'' H'') → Kb22 F'' H'') → zq70_b22 t0 t3 t4 t5 t6 t7 H' K Kb19 Kb22) : zq70_l22 t0 t3 t4 t5 t6 t7 H K Kb19 :=
 aloop (M := zq70_M) zq70_m22 (fun n F H => F = zq70_fr22 t0 t3 t4 t5 t6 t7 ∧ Inv n H) n (fun hs _ => ⟨rfl, h0 hs⟩) (fun n F H' ⟨hF, hI⟩ h1 h2 h3 => by subst hF; rw [zq70_b22_eq]; exact round n H' hI h1 h2 h3 _ (fun _ _ h => h))
theorem zq70_j4_eq (t0 t3 t4 t5 t6 t7 : AV) (H : Heap) (K : Kt) (Kb19 : Lt) : awp Tryz.prog zq70_M zq70_j4_c (zq70_j4_Q K Kb19) (t0 :: ux 2 (t3 :: t4 :: t5 :: t6 :: t7 :: ux 205 [])) H = zq70_j4b t0 t3 t4 t5 t6 t7 H K Kb19 := by kernel_rfl
theorem zq70_j4_ok {t0 t3 t4 t5 t6 t7 : AV} {H : Heap} {K : Kt} {Kb19 : Lt} (h : HSc H → zq70_j4b t0 t3 t4 t5 t6 t7 H K Kb19) : zq70_j4 t0 t3 t4 t5 t6 t7 H K Kb19 :=
 fun B w G a hH hF hd => awp_sound (M := zq70_M) _ _ _ _ ((zq70_j4_eq t0 t3 t4 t5 t6 t7 H K Kb19).mpr (h hH.sc)) B w G a hH hF hd
theorem zq70_b19_eq (t0 t3 t4 t5 t6 : AV) (H : Heap) (K : Kt) (Kb19 : Lt) : awp Tryz.prog zq70_M zq70_c19 (roundQ zq70_m19 Kb19 (zq70_Q19 K)) (zq70_fr19 t0 t3 t4 t5 t6) H = zq70_b19 t0 t3 t4 t5 t6 H K Kb19 := by kernel_rfl
theorem zq70_loop19 {t0 t3 t4 t5 t6 : AV} {H : Heap} {K : Kt} (Inv : Nat → AV → Heap → Prop) (n : Nat) (h0 : HSc H → Inv n t6 H)
   (round : ∀ n t6 H', Inv n t6 H' → HSc H' → H.length ≤ H'.length → (zq70_fr19 t0 t3 t4 t5 t6).all (AV.sc H'.length) = true → ∀ Kb19 : Lt, (∀ F'' H'', (∃ n', n' < n ∧ Back H.length (fun F2 H2 => ∃ t6, F2 = zq70_fr19 t0 t3 t4 t5 t6 ∧ Inv n' t6 H2) F'' H'') → Kb19 F'' H'') → zq70_b19 t0 t3 t4 t5 t6 H' K Kb19) : zq70_l19 t0 t3 t4 t5 t6 H K :=
 aloop (M := zq70_M) zq70_m19 (fun n F H => ∃ t6, F = zq70_fr19 t0 t3 t4 t5 t6 ∧ Inv n t6 H) n (fun hs _ => ⟨t6, rfl, h0 hs⟩) (fun n F H' ⟨t6, hF, hI⟩ h1 h2 h3 => by subst hF; rw [zq70_b19_eq]; exact round n t6 H' hI h1 h2 h3 _ (fun _ _ h => h))
theorem zq70_j3_eq (t0 t3 t4 t5 t16 t30 : AV) (H : Heap) (K : Kt) : awp Tryz.prog zq70_M zq70_j3_c (zq70_j3_Q K) (t0 :: ux 2 (t3 :: t4 :: t5 :: ux 10 (t16 :: ux 13 (t30 :: ux 182 [])))) H = zq70_j3b t0 t3 t4 t5 t16 t30 H K := by kernel_rfl
theorem zq70_j3_ok {t0 t3 t4 t5 t16 t30 : AV} {H : Heap} {K : Kt} (h : HSc H → zq70_j3b t0 t3 t4 t5 t16 t30 H K) : zq70_j3 t0 t3 t4 t5 t16 t30 H K :=
 fun B w G a hH hF hd => awp_sound (M := zq70_M) _ _ _ _ ((zq70_j3_eq t0 t3 t4 t5 t16 t30 H K).mpr (h hH.sc)) B w G a hH hF hd
theorem zq70_eq (t0 t1 : AV) (H : Heap) (K : Kt) : awp Tryz.prog zq70_M zq70_c (retQ Tryz.prog zq70_r K) (t0 :: t1 :: List.replicate 211 .unk) H = zq70 t0 t1 H K := by kernel_rfl
theorem zq70_ok {t0 t1 : AV} {H : Heap} {K : Kt} (h : HSc H → zq70 t0 t1 H K) : ACalls Tryz.prog n_zq70 [t0, t1] H K :=
 acalls_body (M := zq70_M) Tryz.func72 (c := zq70_c) (by kernel_rfl) (fun hs => (zq70_eq t0 t1 H K).mpr (h hs))
def zq120_M (_ : Nat) : List Bool := []
noncomputable def zq120_c : Code := Tryz.f122.body.getD .skip
noncomputable def zq120_r : List ResultVar := Tryz.f122.results.toList
def zq120 (t0 t1 : AV) (H : Heap) (K : Kt) : Prop :=
 ACalls Tryz.prog n_zq122 [t0, t1] H fun t6 H =>
 aUn .not t6 fun t7 =>
 aTest t7
 (aNil t0 fun t9 =>
 aFld 3 t9 fun t10 =>
 aStore 1 t10 (.bool true) H fun H =>
 aRet [] (K · H))
 (aRet [] (K · H))
theorem zq120_eq (t0 t1 : AV) (H : Heap) (K : Kt) : awp Tryz.prog zq120_M zq120_c (retQ Tryz.prog zq120_r K) (t0 :: t1 :: List.replicate 9 .unk) H = zq120 t0 t1 H K := by kernel_rfl
theorem zq120_ok {t0 t1 : AV} {H : Heap} {K : Kt} (h : HSc H → zq120 t0 t1 H K) : ACalls Tryz.prog n_zq120 [t0, t1] H K :=
 acalls_body (M := zq120_M) Tryz.func122 (c := zq120_c) (by kernel_rfl) (fun hs => (zq120_eq t0 t1 H K).mpr (h hs))
def zq121_M : Nat → List Bool
 | 3 => rl false [0,2,3,2,27]
 | _ => []
noncomputable def zq121_c : Code := Tryz.f123.body.getD .skip
noncomputable def zq121_r : List ResultVar := Tryz.f123.results.toList
def zq121_fr3 (t0 t1 t5 t6 : AV) : List AV := t0 :: t1 :: ux 3 (t5 :: t6 :: ux 27 [])
def zq121_m3 : List Bool := zq121_M 3
noncomputable def zq121_c3 : Code := codeAt [1, 1, 0, 1, 0, 0] zq121_c
def zq121_Q3 (K : Kt) : AExit → List AV → Heap → Prop := contAt Tryz.prog zq121_M [1, 1, 0, 1, 0] zq121_c (retQ Tryz.prog zq121_r K)
def zq121_l3 (t0 t1 t5 t6 : AV) (H : Heap) (K : Kt) : Prop := ALoop Tryz.prog zq121_c3 (zq121_Q3 K) (zq121_fr3 t0 t1 t5 t6) H
def zq121_j1 (t0 t1 t5 t6 : AV) (H : Heap) (K : Kt) (Kb3 : Lt) : Prop :=
 aIdxA 3 t1 t6 fun t28 =>
 aLoad true 3 t28 H fun t29 =>
 ACalls Tryz.prog n_zq70 [t0, t29] H fun t30 H =>
 aBuildS 2 [(.int .i64 0), .snil] 1 [(0, t30)] fun t31 =>
 aAppend e_api_Index 2 32 t5 t31 H fun t32 H =>
 aBin .add false t6 (.int .i64 1) fun t19 =>
 Kb3 (zq121_fr3 t0 t1 t32 t19) H
def zq121_b3 (t0 t1 t5 t6 : AV) (H : Heap) (K : Kt) (Kb3 : Lt) : Prop :=
 aLen 1 t1 fun t9 =>
 aBin .lss false t6 t9 fun t10 =>
 aGuardJ t10 true H (fun K' => K' t0 H) fun t12 H =>
 aGuardJ t10 true H (fun K' => aNil t12 (K' · H)) fun t13 H =>
 aGuardJ t10 true H (fun K' => aFld 3 t13 (K' · H)) fun t14 H =>
 aGuardJ t10 true H (fun K' => aLoad false 1 t14 H (K' · H)) fun t15 H =>
 aGuardJ t10 true H (fun K' => aUn .not t15 (K' · H)) fun t16 H =>
 aPick t10 t16 (.bool false) fun t17 =>
 aTest t17
 (aBin .gtr false t6 (.int .i64 0) fun t21 =>
 aTest t21
 (ACalls Tryz.prog n_zq120 [t0, (.str [44, 32])] H fun t23 H =>
 zq121_j1 t0 t1 t5 t6 H K Kb3)
 (zq121_j1 t0 t1 t5 t6 H K Kb3))
 (K t5 H)
def zq121 (t0 t1 : AV) (H : Heap) (K : Kt) : Prop :=
 zq121_l3 t0 t1 .snil (.int .i64 0) H K
theorem zq121_b3_eq (t0 t1 t5 t6 : AV) (H : Heap) (K : Kt) (Kb3 : Lt) : awp Tryz.prog zq121_M zq121_c3 (roundQ zq121_m3 Kb3 (zq121_Q3 K)) (zq121_fr3 t0 t1 t5 t6) H = zq121_b3 t0 t1 t5 t6 H K Kb3 := by kernel_rfl
theorem zq121_loop3 {t0 t1 t5 t6 : AV} {H : Heap} {K : Kt} (Inv : Nat → AV → AV → Heap → Prop) (n : Nat) (h0 : HSc H → Inv n t5 t6 H)
   (round : ∀ n t5 t6 H', Inv n t5 t6 H' → HSc H' → H.length ≤ H'.length → (zq121_fr3 t0 t1 t5 t6).all (AV.sc H'.length) = true → ∀ Kb3 : Lt, (∀ F'' H'', (∃ n', n' < n ∧ Back H.length (fun F2 H2 => ∃ t5 t6, F2 = zq121_fr3 t0 t1 t5 t6 ∧ Inv n' t5 t6 H2) F'' H'') → Kb3 F'' H'') → zq121_b3 t0 t1 t5 t6 H' K Kb3) : zq121_l3 t0 t1 t5 t6 H K :=
 aloop (M := zq121_M) zq121_m3 (fun n F H => ∃ t5 t6, F = zq121_fr3 t0 t1 t5 t6 ∧ Inv n t5 t6 H) n (fun hs _ => ⟨t5, t6, rfl, h0 hs⟩) (fun n F H' ⟨t5, t6, hF, hI⟩ h1 h2 h3 => by subst hF; rw [zq121_b3_eq]; exact round n t5 t6 H' hI h1 h2 h3 _ (fun _ _ h => h))
theorem zq121_eq (t0 t1 : AV) (H : Heap) (K : Kt) : awp Tryz.prog zq121_M zq121_c (retQ Tryz.prog zq121_r K) (t0 :: t1 :: List.replicate 32 .unk) H = zq121 t0 t1 H K := by kernel_rfl
theorem zq121_ok {t0 t1 : AV} {H : Heap} {K : Kt} (h : HSc H → zq121 t0 t1 H K) : ACalls Tryz.prog n_zq121 [t0, t1] H K :=
 acalls_body (M := zq121_M) Tryz.func123 (c := zq121_c) (by kernel_rfl) (fun hs => (zq121_eq t0 t1 H K).mpr (h hs))
end Go.Proofs.YtfpmdpldabopjaaGreatDoor
namespace Go.Proofs.YtfpmdpldabopjaaGreatDoor
open Go Go.Abs
set_option linter.unusedVariables false
set_option maxRecDepth 100000
def zq122_M (_ : Nat) : List Bool := []
noncomputable def zq122_c : Code := Tryz.f124.body.getD .skip
noncomputable def zq122_r : List ResultVar := Tryz.f124.results.toList
def zq122 (t0 t1 : AV) (H : Heap) (K : Kt) : Prop :=
 aPure H (fun K' => K' t0 H) fun t5 =>
 aPure H (fun K' => aNil t5 (K' · H)) fun t6 =>
 aPure H (fun K' => aFld 3 t6 (K' · H)) fun t7 =>
 aPure H (fun K' => aLoadC false 1 t7 H (K' · H)) fun t8 =>
 aPure H (fun K' => aUn .not t8 (K' · H)) fun t9 =>
 aPure H (fun K' => K' t9 H) fun t10 =>
 aGuardJ t10 true H (fun K' => aPure H (fun K'' => K'' t0 H) (K' · H)) fun t11 H =>
 aGuardJ t10 true H (fun K' => aPure H (fun K'' => aNil t11 (K'' · H)) (K' · H)) fun t12 H =>
 aGuardJ t10 true H (fun K' => aPure H (fun K'' => aFld 1 t12 (K'' · H)) (K' · H)) fun t13 H =>
 aGuardJ t10 true H (fun K' => aPure H (fun K'' => aLoadC false 1 t13 H (K'' · H)) (K' · H)) fun t14 H =>
 aGuardJ t10 true H (fun K' => aPure H (fun K'' => aLen 0 t14 (K'' · H)) (K' · H)) fun t15 H =>
 aGuardJ t10 true H (fun K' => aPure H (fun K'' => K'' t0 H) (K' · H)) fun t16 H =>
 aGuardJ t10 true H (fun K' => aPure H (fun K'' => aNil t16 (K'' · H)) (K' · H)) fun t17 H =>
 aGuardJ t10 true H (fun K' => aPure H (fun K'' => aFld 2 t17 (K'' · H)) (K' · H)) fun t18 H =>
 aGuardJ t10 true H (fun K' => aPure H (fun K'' => aLoadC false 1 t18 H (K'' · H)) (K' · H)) fun t19 H =>
 aGuardJ t10 true H (fun K' => aPure H (fun K'' => aBin .sub false t15 t19 (K'' · H)) (K' · H)) fun t20 H =>
 aGuardJ t10 true H (fun K' => aPure H (fun K'' => K'' t1 H) (K' · H)) fun t21 H =>
 aGuardJ t10 true H (fun K' => aPure H (fun K'' => aLen 0 t21 (K'' · H)) (K' · H)) fun t22 H =>
 aGuardJ t10 true H (fun K' => aPure H (fun K'' => aBin .geq false t20 t22 (K'' · H)) (K' · H)) fun t23 H =>
 aPure H (fun K' => aPick t10 t23 (.bool false) (K' · H)) fun t24 =>
 aPure H (fun K' => K' t24 H) fun t25 =>
 aGuardJ t25 true H (fun K' => aPure H (fun K'' => K'' t0 H) (K' · H)) fun t26 H =>
 aGuardJ t25 true H (fun K' => aPure H (fun K'' => aNil t26 (K'' · H)) (K' · H)) fun t27 H =>
 aGuardJ t25 true H (fun K' => aPure H (fun K'' => aFld 1 t27 (K'' · H)) (K' · H)) fun t28 H =>
 aGuardJ t25 true H (fun K' => aPure H (fun K'' => aLoadC false 1 t28 H (K'' · H)) (K' · H)) fun t29 H =>
 aGuardJ t25 true H (fun K' => aPure H (fun K'' => K'' t0 H) (K' · H)) fun t30 H =>
 aGuardJ t25 true H (fun K' => aPure H (fun K'' => aNil t30 (K'' · H)) (K' · H)) fun t31 H =>
 aGuardJ t25 true H (fun K' => aPure H (fun K'' => aFld 2 t31 (K'' · H)) (K' · H)) fun t32 H =>
 aGuardJ t25 true H (fun K' => aPure H (fun K'' => aLoadC false 1 t32 H (K'' · H)) (K' · H)) fun t33 H =>
 aGuardJ t25 true H (fun K' => aPure H (fun K'' => K'' t0 H) (K' · H)) fun t34 H =>
 aGuardJ t25 true H (fun K' => aPure H (fun K'' => aNil t34 (K'' · H)) (K' · H)) fun t35 H =>
 aGuardJ t25 true H (fun K' => aPure H (fun K'' => aFld 2 t35 (K'' · H)) (K' · H)) fun t36 H =>
 aGuardJ t25 true H (fun K' => aPure H (fun K'' => aLoadC false 1 t36 H (K'' · H)) (K' · H)) fun t37 H =>
 aGuardJ t25 true H (fun K' => aPure H (fun K'' => K'' t1 H) (K' · H)) fun t38 H =>
 aGuardJ t25 true H (fun K' => aPure H (fun K'' => aLen 0 t38 (K'' · H)) (K' · H)) fun t39 H =>
 aGuardJ t25 true H (fun K' => aPure H (fun K'' => aBin .add false t37 t39 (K'' · H)) (K' · H)) fun t40 H =>
 aGuardJ t25 true H (fun K' => aPure H (fun K'' => aSlice 0 0 t29 (some t33) (some t40) (K'' · H)) (K' · H)) fun t41 H =>
 aGuardJ t25 true H (fun K' => aPure H (fun K'' => K'' t1 H) (K' · H)) fun t42 H =>
 aGuardJ t25 true H (fun K' => aPure H (fun K'' => aBin .eql false t41 t42 (K'' · H)) (K' · H)) fun t43 H =>
 aPure H (fun K' => aPick t25 t43 (.bool false) (K' · H)) fun t44 =>
 aTest t44
 (aNil t0 fun t46 =>
 aFld 2 t46 fun t47 =>
 aLoad false 1 t47 H fun t48 =>
 aLen 0 t1 fun t50 =>
 aBin .add false t48 t50 fun t51 =>
 aNil t0 fun t52 =>
 aFld 2 t52 fun t53 =>
 aStore 1 t53 t51 H fun H =>
 K (.bool true) H)
 (K (.bool false) H)
theorem zq122_eq (t0 t1 : AV) (H : Heap) (K : Kt) : awp Tryz.prog zq122_M zq122_c (retQ Tryz.prog zq122_r K) (t0 :: t1 :: List.replicate 52 .unk) H = zq122 t0 t1 H K := by kernel_rfl
theorem zq122_ok {t0 t1 : AV} {H : Heap} {K : Kt} (h : HSc H → zq122 t0 t1 H K) : ACalls Tryz.prog n_zq122 [t0, t1] H K :=
 acalls_body (M := zq122_M) Tryz.func124 (c := zq122_c) (by kernel_rfl) (fun hs => (zq122_eq t0 t1 H K).mpr (h hs))
def zq123_M (_ : Nat) : List Bool := []
noncomputable def zq123_c : Code := Tryz.f125.body.getD .skip
noncomputable def zq123_r : List ResultVar := Tryz.f125.results.toList
def zq123 (t0 : AV) (H : Heap) (K : Kt) : Prop :=
 aBin .geq false t0 (.int .u8 97) fun t4 =>
 aGuardJ t4 true H (fun K' => K' t0 H) fun t6 H =>
 aGuardJ t4 true H (fun K' => aBin .leq false t6 (.int .u8 122) (K' · H)) fun t7 H =>
 aPick t4 t7 (.bool false) fun t8 =>
 aGuardJ t8 false H (fun K' => K' t0 H) fun t10 H =>
 aGuardJ t8 false H (fun K' => aBin .geq false t10 (.int .u8 65) (K' · H)) fun t11 H =>
 aGuardJ t8 false H (fun K' => K' t11 H) fun t12 H =>
 aGuardJ t12 true H (fun K' => K' t0 H) fun t13 H =>
 aGuardJ t12 true H (fun K' => aBin .leq false t13 (.int .u8 90) (K' · H)) fun t14 H =>
 aGuardJ t8 false H (fun K' => aPick t12 t14 (.bool false) (K' · H)) fun t15 H =>
 aPick t8 (.bool true) t15 fun t16 =>
 aGuardJ t16 false H (fun K' => K' t0 H) fun t18 H =>
 aGuardJ t16 false H (fun K' => aBin .geq false t18 (.int .u8 48) (K' · H)) fun t19 H =>
 aGuardJ t16 false H (fun K' => K' t19 H) fun t20 H =>
 aGuardJ t20 true H (fun K' => K' t0 H) fun t21 H =>
 aGuardJ t20 true H (fun K' => aBin .leq false t21 (.int .u8 57) (K' · H)) fun t22 H =>
 aGuardJ t16 false H (fun K' => aPick t20 t22 (.bool false) (K' · H)) fun t23 H =>
 aPick t16 (.bool true) t23 fun t24 =>
 aGuardJ t24 false H (fun K' => K' t0 H) fun t26 H =>
 aGuardJ t24 false H (fun K' => aBin .eql false t26 (.int .u8 95) (K' · H)) fun t27 H =>
 aPick t24 (.bool true) t27 fun t28 =>
 K t28 H
theorem zq123_eq (t0 : AV) (H : Heap) (K : Kt) : awp Tryz.prog zq123_M zq123_c (retQ Tryz.prog zq123_r K) (t0 :: List.replicate 28 .unk) H = zq123 t0 H K := by kernel_rfl
theorem zq123_ok {t0 : AV} {H : Heap} {K : Kt} (h : HSc H → zq123 t0 H K) : ACalls Tryz.prog n_zq123 [t0] H K :=
 acalls_body (M := zq123_M) Tryz.func125 (c := zq123_c) (by kernel_rfl) (fun hs => (zq123_eq t0 H K).mpr (h hs))
def zq124_M : Nat → List Bool
 | 2 => rl false [0,2,5,1,30]
 | 5 => rl false [0,2,5,2,29]
 | _ => []
noncomputable def zq124_c : Code := Tryz.f126.body.getD .skip
noncomputable def zq124_r : List ResultVar := Tryz.f126.results.toList
def zq124_fr2 (t0 t1 t7 : AV) : List AV := t0 :: t1 :: ux 5 (t7 :: ux 30 [])
def zq124_m2 : List Bool := zq124_M 2
noncomputable def zq124_c2 : Code := codeAt [1, 0, 1, 0, 0] zq124_c
def zq124_Q2 (K : Kt) : AExit → List AV → Heap → Prop := contAt Tryz.prog zq124_M [1, 0, 1, 0] zq124_c (retQ Tryz.prog zq124_r K)
def zq124_l2 (t0 t1 t7 : AV) (H : Heap) (K : Kt) : Prop := ALoop Tryz.prog zq124_c2 (zq124_Q2 K) (zq124_fr2 t0 t1 t7) H
def zq124_fr5 (t0 t1 t7 t8 : AV) : List AV := t0 :: t1 :: ux 5 (t7 :: t8 :: ux 29 [])
def zq124_m5 : List Bool := zq124_M 5
noncomputable def zq124_c5 : Code := codeAt [1, 0, 0, 1, 0, 0] zq124_c2
def zq124_Q5 (K : Kt) (Kb2 : Lt) : AExit → List AV → Heap → Prop := contAt Tryz.prog zq124_M [1, 0, 0, 1, 0] zq124_c2 (roundQ zq124_m2 Kb2 (zq124_Q2 K))
def zq124_l5 (t0 t1 t7 t8 : AV) (H : Heap) (K : Kt) (Kb2 : Lt) : Prop := ALoop Tryz.prog zq124_c5 (zq124_Q5 K Kb2) (zq124_fr5 t0 t1 t7 t8) H
def zq124_b5 (t0 t1 t7 t8 : AV) (H : Heap) (K : Kt) (Kb2 : Lt) (Kb5 : Lt) : Prop :=
 aIdxA 3 t0 t7 fun t18 =>
 aFld 2 t18 fun t19 =>
 aLoad false 1 t19 H fun t20 =>
 aLen 1 t20 fun t21 =>
 aBin .lss false t8 t21 fun t22 =>
 aTest t22
 (aIdxA 3 t0 t7 fun t27 =>
 aFld 2 t27 fun t28 =>
 aLoad false 1 t28 H fun t29 =>
 aIdxA 2 t29 t8 fun t31 =>
 aFld 0 t31 fun t32 =>
 aLoad false 1 t32 H fun t33 =>
 aBin .eql false t33 t1 fun t35 =>
 aTest t35
 (aRet [t7, t8, (.bool true)] (K · H))
 (aBin .add false t8 (.int .i64 1) fun t24 =>
 Kb5 (zq124_fr5 t0 t1 t7 t24) H))
 (aBin .add false t7 (.int .i64 1) fun t14 =>
 Kb2 (zq124_fr2 t0 t1 t14) H)
def zq124_b2 (t0 t1 t7 : AV) (H : Heap) (K : Kt) (Kb2 : Lt) : Prop :=
 aLen 1 t0 fun t11 =>
 aBin .lss false t7 t11 fun t12 =>
 aTest t12
 (zq124_l5 t0 t1 t7 (.int .i64 0) H K Kb2)
 (aRet [(.int .i64 0), (.int .i64 0), (.bool false)] (K · H))
def zq124 (t0 t1 : AV) (H : Heap) (K : Kt) : Prop :=
 zq124_l2 t0 t1 (.int .i64 0) H K
theorem zq124_b5_eq (t0 t1 t7 t8 : AV) (H : Heap) (K : Kt) (Kb2 : Lt) (Kb5 : Lt) : awp Tryz.prog zq124_M zq124_c5 (roundQ zq124_m5 Kb5 (zq124_Q5 K Kb2)) (zq124_fr5 t0 t1 t7 t8) H = zq124_b5 t0 t1 t7 t8 H K Kb2 Kb5 := by kernel_rfl
theorem zq124_loop5 {t0 t1 t7 t8 : AV} {H : Heap} {K : Kt} {Kb2 : Lt} (Inv : Nat → AV → Heap → Prop) (n : Nat) (h0 : HSc H → Inv n t8 H)
   (round : ∀ n t8 H', Inv n t8 H' → HSc H' → H.length ≤ H'.length → (zq124_fr5 t0 t1 t7 t8).all (AV.sc H'.length) = true → ∀ Kb5 : Lt, (∀ F'' H'', (∃ n', n' < n ∧ Back H.length (fun F2 H2 => ∃ t8, F2 = zq124_fr5 t0 t1 t7 t8 ∧ Inv n' t8 H2) F'' H'') → Kb5 F'' H'') → zq124_b5 t0 t1 t7 t8 H' K Kb2 Kb5) : zq124_l5 t0 t1 t7 t8 H K Kb2 :=
 aloop (M := zq124_M) zq124_m5 (fun n F H => ∃ t8, F = zq124_fr5 t0 t1 t7 t8 ∧ Inv n t8 H) n (fun hs _ => ⟨t8, rfl, h0 hs⟩) (fun n F H' ⟨t8, hF, hI⟩ h1 h2 h3 => by subst hF; rw [zq124_b5_eq]; exact round n t8 H' hI h1 h2 h3 _ (fun _ _ h => h))
theorem zq124_b2_eq (t0 t1 t7 : AV) (H : Heap) (K : Kt) (Kb2 : Lt) : awp Tryz.prog zq124_M zq124_c2 (roundQ zq124_m2 Kb2 (zq124_Q2 K)) (zq124_fr2 t0 t1 t7) H = zq124_b2 t0 t1 t7 H K Kb2 := by kernel_rfl
theorem zq124_loop2 {t0 t1 t7 : AV} {H : Heap} {K : Kt} (Inv : Nat → AV → Heap → Prop) (n : Nat) (h0 : HSc H → Inv n t7 H)
   (round : ∀ n t7 H', Inv n t7 H' → HSc H' → H.length ≤ H'.length → (zq124_fr2 t0 t1 t7).all (AV.sc H'.length) = true → ∀ Kb2 : Lt, (∀ F'' H'', (∃ n', n' < n ∧ Back H.length (fun F2 H2 => ∃ t7, F2 = zq124_fr2 t0 t1 t7 ∧ Inv n' t7 H2) F'' H'') → Kb2 F'' H'') → zq124_b2 t0 t1 t7 H' K Kb2) : zq124_l2 t0 t1 t7 H K :=
 aloop (M := zq124_M) zq124_m2 (fun n F H => ∃ t7, F = zq124_fr2 t0 t1 t7 ∧ Inv n t7 H) n (fun hs _ => ⟨t7, rfl, h0 hs⟩) (fun n F H' ⟨t7, hF, hI⟩ h1 h2 h3 => by subst hF; rw [zq124_b2_eq]; exact round n t7 H' hI h1 h2 h3 _ (fun _ _ h => h))
theorem zq124_eq (t0 t1 : AV) (H : Heap) (K : Kt) : awp Tryz.prog zq124_M zq124_c (retQ Tryz.prog zq124_r K) (t0 :: t1 :: List.replicate 36 .unk) H = zq124 t0 t1 H K := by kernel_rfl
theorem zq124_ok {t0 t1 : AV} {H : Heap} {K : Kt} (h : HSc H → zq124 t0 t1 H K) : ACalls Tryz.prog n_zq124 [t0, t1] H K :=
 acalls_body (M := zq124_M) Tryz.func126 (c := zq124_c) (by kernel_rfl) (fun hs => (zq124_eq t0 t1 H K).mpr (h hs))
end Go.Proofs.YtfpmdpldabopjaaGreatDoor
