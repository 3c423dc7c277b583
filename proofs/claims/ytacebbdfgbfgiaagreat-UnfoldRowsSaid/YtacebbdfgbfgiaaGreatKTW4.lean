import Derived.Test.YtacebbdfgbfgiaaGreatKNum
import Derived.Test.YtacebbdfgbfgiaaGreatProg
import Derived.KernelRfl
import Derived.Test.YtacebbdfgbfgiaaGreatTK
import Derived.Test.YtacebbdfgbfgiaaGreatKGY3
set_option linter.unusedSimpArgs false
set_option linter.unusedVariables false
namespace Go.Proofs.YtacebbdfgbfgiaaGreat
open Go Go.Abs
set_option maxRecDepth 100000
def zd9 : Nat → List Bool
 | 5 => rl false [0,1,4,2,54]
 | 9 => rl false [0,1,4,2,54]
 | _ => []
noncomputable def zlP : Code := Tryz.f122.body.getD .skip
noncomputable def zyL : List ResultVar := Tryz.f122.results.toList
def zeJ (t0 t5 t6 : AV) : List AV := t0 :: ux 4 (t5 :: t6 :: ux 54 [])
def zrx : List Bool := zd9 5
noncomputable def zlQ : Code := zao [1, 0, 1, 1, 1, 1, 0, 0, 0] zlP
def zru (K : Kt) : AExit → List AV → zaa → Prop := zap tP zd9 [1, 0, 1, 1, 1, 1, 0, 0] zlP (zaw tP zyL K)
def zhK (t0 t5 t6 : AV) (H : zaa) (K : Kt) : Prop := ALoop tP zlQ (zru K) (zeJ t0 t5 t6) H
def zeK (t0 t5 t6 : AV) (H : zaa) (K : Kt) (Kb5 : Lt) : Prop :=
 Kb5 (zeJ t0 t5 t6) H
def zhI (t0 t5 t6 : AV) : List AV := t0 :: ux 4 (t5 :: t6 :: ux 54 [])
def zyJ : List Bool := zd9 9
noncomputable def zyG : Code := zao [1, 0, 1, 0, 1, 0, 0, 0, 0] zlQ
def zyF (K : Kt) (Kb5 : Lt) : AExit → List AV → zaa → Prop := zap tP zd9 [1, 0, 1, 0, 1, 0, 0, 0] zlQ (zbm zrx Kb5 (zru K))
def zrw (t0 t5 t6 : AV) (H : zaa) (K : Kt) (Kb5 : Lt) : Prop := ALoop tP zyG (zyF K Kb5) (zhI t0 t5 t6) H
def zrv (t0 t5 : AV) (H : zaa) (K : Kt) : Prop :=
 zah 0 t0 fun t57 =>
 zav [(.int .i64 0), (.str []), (.int .i64 0)] [(0, 1), (1, 1), (2, 1)] [(0, (.int .i64 6)), (2, t57)] fun t58 =>
 zaA 3 [(.int .i64 0), (.str []), (.int .i64 0)] 1 [(0, t58)] fun t59 =>
 zar zdt 3 32 t5 t59 H fun t60 H =>
 zax [t60, (.int .i64 0), (.int .i64 0)] (K · H)
def zhJ (t0 t5 : AV) (H : zaa) (K : Kt) : Prop :=
 zrv t0 t5 H K
def zlO (t0 t5 t6 : AV) (H : zaa) (K : Kt) (Kb5 : Lt) (Kb9 : Lt) : Prop :=
 zah 0 t0 fun t28 =>
 zac .lss false t6 t28 fun t29 =>
 zag t29
 (zbf t0 t6 fun t34 =>
 zac .eql false t34 (.int .u8 10) fun t35 =>
 zag t35
 (zeK t0 t5 t6 H K Kb5)
 (zac .add false t6 (.int .i64 1) fun t31 =>
 Kb9 (zhI t0 t5 t31) H))
 (zhJ t0 t5 H K)
def zlN (t0 t5 t6 : AV) (H : zaa) (K : Kt) (Kb5 : Lt) : Prop :=
 zah 0 t0 fun t14 =>
 zac .lss false t6 t14 fun t15 =>
 zag t15
 (zbf t0 t6 fun t18 =>
 ACalls tP zku [t18] H fun t19 H =>
 zag t19
 (zac .add false t6 (.int .i64 1) fun t21 =>
 zeK t0 t5 t21 H K Kb5)
 (zbf t0 t6 fun t24 =>
 zac .eql false t24 (.int .u8 35) fun t25 =>
 zag t25
 (zrw t0 t5 t6 H K Kb5)
 (ACalls tP zkv [t0, t6] H fun t39 H =>
 zas t39 0 fun t40 =>
 zas t39 1 fun t41 =>
 zau [(.int .i64 0), (.str []), (.int .i64 0)] H fun t7 H =>
 zak 3 t7 t40 H fun H =>
 zac .neq false t41 (.int .i64 0) fun t43 =>
 zag t43
 (zax [.snil, t6, t41] (K · H))
 (zad true 3 t7 H fun t47 =>
 zaA 3 [(.int .i64 0), (.str []), (.int .i64 0)] 1 [(0, t47)] fun t48 =>
 zar zdt 3 32 t5 t48 H fun t49 H =>
 zaf 1 t7 fun t51 =>
 zad false 1 t51 H fun t52 =>
 zah 0 t52 fun t53 =>
 zac .add false t6 t53 fun t54 =>
 zeK t0 t49 t54 H K Kb5))))
 (zhJ t0 t5 H K)
def zlM (t0 : AV) (H : zaa) (K : Kt) : Prop :=
 zah 0 t0 fun t10 =>
 zac .gtr false t10 (.int .i64 16384) fun t11 =>
 zag t11
 (zax [.snil, (.int .i64 0), (.int .i64 9)] (K · H))
 (zhK t0 .snil (.int .i64 0) H K)
theorem zyI {t0 t5 t6 : AV} {H : zaa} {K : Kt} {Kb5 : Lt} (Inv : Nat → AV → zaa → Prop) (n : Nat) (h0 : HSc H → Inv n t6 H)
  (round : Rd1 (fun t6 => zhI t0 t5 t6) (fun t6 => fun H Kb9 => zlO t0 t5 t6 H K Kb5 Kb9) H Inv) : zrw t0 t5 t6 H K Kb5 :=
 lp1 (M := zd9) zyJ t6 (by kernel_rfl) Inv n h0 round
theorem zyH {t0 t5 t6 : AV} {H : zaa} {K : Kt} (Inv : Nat → AV → AV → zaa → Prop) (n : Nat) (h0 : HSc H → Inv n t5 t6 H)
  (round : Rd2 (fun t5 => fun t6 => zeJ t0 t5 t6) (fun t5 => fun t6 => fun H Kb5 => zlN t0 t5 t6 H K Kb5) H Inv) : zhK t0 t5 t6 H K :=
 lp2 (M := zd9) zrx t5 t6 (by kernel_rfl) Inv n h0 round
theorem zyK {t0 : AV} {H : zaa} {K : Kt} (h : HSc H → zlM t0 H K) : ACalls tP zks [t0] H K :=
 zam (M := zd9) Tryz.func122 (c := zlP) (by kernel_rfl) (fun hs => Eq.mpr (by kernel_rfl) (h hs))
def zcm : Nat → List Bool
 | 5 => rl false [0,1,4,2,193]
 | 10 => rl false [0,1,4,2,193]
 | 18 => rl false [0,1,4,4,191]
 | 29 => rl false [0,1,4,4,191]
 | _ => []
noncomputable def zlz : Code := Tryz.f103.body.getD .skip
noncomputable def zxO : List ResultVar := Tryz.f103.results.toList
def zd8 (t0 t5 t6 : AV) : List AV := t0 :: ux 4 (t5 :: t6 :: ux 193 [])
def zhw : List Bool := zcm 5
noncomputable def zd7 : Code := zao [1, 1, 1, 0, 1, 0, 0] zlz
def zhq (K : Kt) : AExit → List AV → zaa → Prop := zap tP zcm [1, 1, 1, 0, 1, 0] zlz (zaw tP zxO K)
def zhv (t0 t5 t6 : AV) (H : zaa) (K : Kt) : Prop := ALoop tP zd7 (zhq K) (zd8 t0 t5 t6) H
def zdG (t0 t5 t6 : AV) (H : zaa) (K : Kt) (Kb5 : Lt) : Prop :=
 Kb5 (zd8 t0 t5 t6) H
def zht (t0 t5 t6 : AV) : List AV := t0 :: ux 4 (t5 :: t6 :: ux 193 [])
def zxK : List Bool := zcm 10
noncomputable def zxD : Code := zao [1, 0, 1, 1, 0, 1, 0, 0, 0, 0] zd7
def zxA (K : Kt) (Kb5 : Lt) : AExit → List AV → zaa → Prop := zap tP zcm [1, 0, 1, 1, 0, 1, 0, 0, 0] zd7 (zbm zhw Kb5 (zhq K))
def zre (t0 t5 t6 : AV) (H : zaa) (K : Kt) (Kb5 : Lt) : Prop := ALoop tP zxD (zxA K Kb5) (zht t0 t5 t6) H
def zlw (t0 t5 t6 : AV) (H : zaa) (K : Kt) (Kb5 : Lt) (Kb10 : Lt) : Prop :=
 zah 0 t0 fun t42 =>
 zac .lss false t6 t42 fun t43 =>
 zab t43 true H (fun K' => K' t0 H) fun t45 H =>
 zab t43 true H (fun K' => K' t6 H) fun t46 H =>
 zab t43 true H (fun K' => zbf t45 t46 (K' · H)) fun t47 H =>
 zab t43 true H (fun K' => zac .neq false t47 (.int .u8 10) (K' · H)) fun t48 H =>
 zaj t43 t48 (.bool false) fun t49 =>
 zag t49
 (zac .add false t6 (.int .i64 1) fun t51 =>
 Kb10 (zht t0 t5 t51) H)
 (zdG t0 t5 t6 H K Kb5)
def zfM (t0 t5 t6 t7 t8 : AV) : List AV := t0 :: ux 4 (t5 :: t6 :: t7 :: t8 :: ux 191 [])
def zxL : List Bool := zcm 18
noncomputable def zxE : Code := zao [1, 0, 1, 1, 1, 1, 0, 0, 1, 0, 0, 0, 0] zd7
def zxB (K : Kt) (Kb5 : Lt) : AExit → List AV → zaa → Prop := zap tP zcm [1, 0, 1, 1, 1, 1, 0, 0, 1, 0, 0, 0] zd7 (zbm zhw Kb5 (zhq K))
def zlA (t0 t5 t6 t7 t8 : AV) (H : zaa) (K : Kt) (Kb5 : Lt) : Prop := ALoop tP zxE (zxB K Kb5) (zfM t0 t5 t6 t7 t8) H
def zfN (t0 t5 t6 t8 : AV) (H : zaa) (K : Kt) (Kb5 : Lt) : Prop :=
 zac .add false t6 t8 fun t193 =>
 zdG t0 t5 t193 H K Kb5
def zdI (t0 t5 t6 t8 : AV) (H : zaa) (K : Kt) (Kb5 : Lt) : Prop :=
 zfN t0 t5 t6 t8 H K Kb5
def zdH (t0 t5 t6 t8 t9 : AV) (H : zaa) (K : Kt) (Kb5 : Lt) : Prop :=
 zac .add false t6 t8 fun t135 =>
 zaD 0 0 t0 (some t6) (some t135) fun t136 =>
 zav [(.int .i64 0), (.str []), (.int .i64 0)] [(0, 1), (1, 1), (2, 1)] [(0, t9), (1, t136), (2, t6)] fun t138 =>
 zaA 3 [(.int .i64 0), (.str []), (.int .i64 0)] 1 [(0, t138)] fun t139 =>
 zar za0 3 32 t5 t139 H fun t140 H =>
 zdI t0 t140 t6 t8 H K Kb5
def zlx (t0 t5 t6 t7 t8 : AV) (H : zaa) (K : Kt) (Kb5 : Lt) (Kb18 : Lt) : Prop :=
 zac .add false t6 t8 fun t79 =>
 zah 0 t0 fun t81 =>
 zac .lss false t79 t81 fun t82 =>
 zab t82 true H (fun K' => K' t0 H) fun t84 H =>
 zab t82 true H (fun K' => K' t6 H) fun t85 H =>
 zab t82 true H (fun K' => K' t8 H) fun t86 H =>
 zab t82 true H (fun K' => zac .add false t85 t86 (K' · H)) fun t87 H =>
 zab t82 true H (fun K' => zbf t84 t87 (K' · H)) fun t88 H =>
 zab t82 true H (fun K' => ACalls tP zgu [t88] H K') fun t89 H =>
 zab t82 true H (fun K' => K' t89 H) fun t90 H =>
 zab t90 false H (fun K' => K' t0 H) fun t91 H =>
 zab t90 false H (fun K' => K' t6 H) fun t92 H =>
 zab t90 false H (fun K' => K' t8 H) fun t93 H =>
 zab t90 false H (fun K' => zac .add false t92 t93 (K' · H)) fun t94 H =>
 zab t90 false H (fun K' => zbf t91 t94 (K' · H)) fun t95 H =>
 zab t90 false H (fun K' => ACalls tP zev [t95] H K') fun t96 H =>
 zab t82 true H (fun K' => zaj t90 (.bool true) t96 (K' · H)) fun t97 H =>
 zab t82 true H (fun K' => K' t97 H) fun t98 H =>
 zab t98 false H (fun K' => K' t0 H) fun t99 H =>
 zab t98 false H (fun K' => K' t6 H) fun t100 H =>
 zab t98 false H (fun K' => K' t8 H) fun t101 H =>
 zab t98 false H (fun K' => zac .add false t100 t101 (K' · H)) fun t102 H =>
 zab t98 false H (fun K' => zbf t99 t102 (K' · H)) fun t103 H =>
 zab t98 false H (fun K' => ACalls tP zfk [t103] H K') fun t104 H =>
 zab t82 true H (fun K' => zaj t98 (.bool true) t104 (K' · H)) fun t105 H =>
 zab t82 true H (fun K' => K' t105 H) fun t106 H =>
 zab t106 false H (fun K' => K' t0 H) fun t107 H =>
 zab t106 false H (fun K' => K' t6 H) fun t108 H =>
 zab t106 false H (fun K' => K' t8 H) fun t109 H =>
 zab t106 false H (fun K' => zac .add false t108 t109 (K' · H)) fun t110 H =>
 zab t106 false H (fun K' => zbf t107 t110 (K' · H)) fun t111 H =>
 zab t106 false H (fun K' => zac .eql false t111 (.int .u8 95) (K' · H)) fun t112 H =>
 zab t82 true H (fun K' => zaj t106 (.bool true) t112 (K' · H)) fun t113 H =>
 zaj t82 t113 (.bool false) fun t114 =>
 zag t114
 (zac .add false t8 (.int .i64 1) fun t116 =>
 Kb18 (zfM t0 t5 t6 t7 t116) H)
 (zac .gtr false t8 (.int .i64 24) fun t118 =>
 zag t118
 (zax [.snil, t6, (.int .i64 9)] (K · H))
 (ACalls tP zev [t7] H fun t121 H =>
 zag t121
 (zdH t0 t5 t6 t8 (.int .i64 2) H K Kb5)
 (zac .add false t6 t8 fun t126 =>
 zaD 0 0 t0 (some t6) (some t126) fun t127 =>
 ACalls tP zgv [t127] H fun t128 H =>
 zag t128
 (zdH t0 t5 t6 t8 (.int .i64 4) H K Kb5)
 (zdH t0 t5 t6 t8 (.int .i64 1) H K Kb5))))
def zhu (t0 t5 t6 t7 t8 : AV) : List AV := t0 :: ux 4 (t5 :: t6 :: t7 :: t8 :: ux 191 [])
def zxM : List Bool := zcm 29
noncomputable def zxF : Code := zao [1, 0, 1, 1, 1, 1, 0, 0, 1, 1, 1, 0, 0, 0, 0] zd7
def zxC (K : Kt) (Kb5 : Lt) : AExit → List AV → zaa → Prop := zap tP zcm [1, 0, 1, 1, 1, 1, 0, 0, 1, 1, 1, 0, 0, 0] zd7 (zbm zhw Kb5 (zhq K))
def zlB (t0 t5 t6 t7 t8 : AV) (H : zaa) (K : Kt) (Kb5 : Lt) : Prop := ALoop tP zxF (zxC K Kb5) (zhu t0 t5 t6 t7 t8) H
def zly (t0 t5 t6 t7 t8 : AV) (H : zaa) (K : Kt) (Kb5 : Lt) (Kb29 : Lt) : Prop :=
 zac .add false t6 t8 fun t146 =>
 zah 0 t0 fun t148 =>
 zac .lss false t146 t148 fun t149 =>
 zab t149 true H (fun K' => K' t0 H) fun t151 H =>
 zab t149 true H (fun K' => K' t6 H) fun t152 H =>
 zab t149 true H (fun K' => K' t8 H) fun t153 H =>
 zab t149 true H (fun K' => zac .add false t152 t153 (K' · H)) fun t154 H =>
 zab t149 true H (fun K' => zbf t151 t154 (K' · H)) fun t155 H =>
 zab t149 true H (fun K' => ACalls tP zfk [t155] H K') fun t156 H =>
 zaj t149 t156 (.bool false) fun t157 =>
 zag t157
 (zac .add false t8 (.int .i64 1) fun t159 =>
 Kb29 (zhu t0 t5 t6 t7 t159) H)
 (zac .gtr false t8 (.int .i64 1) fun t161 =>
 zab t161 true H (fun K' => K' t7 H) fun t163 H =>
 zab t161 true H (fun K' => zac .eql false t163 (.int .u8 48) (K' · H)) fun t164 H =>
 zaj t161 t164 (.bool false) fun t165 =>
 zag t165
 (zax [.snil, t6, (.int .i64 2)] (K · H))
 (zac .add false t6 t8 fun t172 =>
 zaD 0 0 t0 (some t6) (some t172) fun t173 =>
 ACalls tP zew [t173] H fun t174 H =>
 zas t174 0 fun t175 =>
 zas t174 1 fun t176 =>
 aUn .not t176 fun t178 =>
 zag t178
 (zax [.snil, t6, (.int .i64 9)] (K · H))
 (zac .add false t6 t8 fun t185 =>
 zaD 0 0 t0 (some t6) (some t185) fun t186 =>
 zav [(.int .i64 0), (.str []), (.int .i64 0)] [(0, 1), (1, 1), (2, 1)] [(0, (.int .i64 3)), (1, t186), (2, t6)] fun t188 =>
 zaA 3 [(.int .i64 0), (.str []), (.int .i64 0)] 1 [(0, t188)] fun t189 =>
 zar za0 3 32 t5 t189 H fun t190 H =>
 zdI t0 t190 t6 t8 H K Kb5)))
def zhr (t0 t5 t6 : AV) (H : zaa) (K : Kt) (Kb5 : Lt) : Prop :=
 zah 0 t0 fun t17 =>
 zac .lss false t6 t17 fun t18 =>
 zag t18
 (zbf t0 t6 fun t21 =>
 zac .eql false t21 (.int .u8 9) fun t23 =>
 zab t23 false H (fun K' => K' t21 H) fun t25 H =>
 zab t23 false H (fun K' => zac .eql false t25 (.int .u8 10) (K' · H)) fun t26 H =>
 zaj t23 (.bool true) t26 fun t27 =>
 zab t27 false H (fun K' => K' t21 H) fun t29 H =>
 zab t27 false H (fun K' => zac .eql false t29 (.int .u8 13) (K' · H)) fun t30 H =>
 zaj t27 (.bool true) t30 fun t31 =>
 zab t31 false H (fun K' => K' t21 H) fun t33 H =>
 zab t31 false H (fun K' => zac .eql false t33 (.int .u8 32) (K' · H)) fun t34 H =>
 zaj t31 (.bool true) t34 fun t35 =>
 zag t35
 (zac .add false t6 (.int .i64 1) fun t37 =>
 zdG t0 t5 t37 H K Kb5)
 (zac .eql false t21 (.int .u8 35) fun t39 =>
 zag t39
 (zre t0 t5 t6 H K Kb5)
 (ACalls tP zgu [t21] H fun t72 H =>
 zab t72 false H (fun K' => K' t21 H) fun t74 H =>
 zab t72 false H (fun K' => ACalls tP zev [t74] H K') fun t75 H =>
 zaj t72 (.bool true) t75 fun t76 =>
 zag t76
 (zlA t0 t5 t6 t21 (.int .i64 1) H K Kb5)
 (ACalls tP zfk [t21] H fun t143 H =>
 zag t143
 (zlB t0 t5 t6 t21 (.int .i64 1) H K Kb5)
 (zaD 0 0 t0 (some t6) none fun t54 =>
 ACalls tP zkq [t54] H fun t55 H =>
 zac .eql false t55 (.int .i64 0) fun t57 =>
 zag t57
 (zax [.snil, t6, (.int .i64 2)] (K · H))
 (zac .add false t6 t55 fun t64 =>
 zaD 0 0 t0 (some t6) (some t64) fun t65 =>
 zav [(.int .i64 0), (.str []), (.int .i64 0)] [(0, 1), (1, 1), (2, 1)] [(0, (.int .i64 5)), (1, t65), (2, t6)] fun t67 =>
 zaA 3 [(.int .i64 0), (.str []), (.int .i64 0)] 1 [(0, t67)] fun t68 =>
 zar za0 3 32 t5 t68 H fun t69 H =>
 zdI t0 t69 t6 t55 H K Kb5))))))
 (zah 0 t0 fun t196 =>
 zav [(.int .i64 0), (.str []), (.int .i64 0)] [(0, 1), (1, 1), (2, 1)] [(0, (.int .i64 6)), (1, (.str [])), (2, t196)] fun t197 =>
 zaA 3 [(.int .i64 0), (.str []), (.int .i64 0)] 1 [(0, t197)] fun t198 =>
 zar za0 3 32 t5 t198 H fun t199 H =>
 zax [t199, (.int .i64 0), (.int .i64 0)] (K · H))
def zlv (t0 : AV) (H : zaa) (K : Kt) : Prop :=
 zah 0 t0 fun t13 =>
 zac .gtr false t13 (.int .i64 16384) fun t14 =>
 zag t14
 (zax [.snil, (.int .i64 0), (.int .i64 9)] (K · H))
 (zhv t0 .snil (.int .i64 0) H K)
theorem zxG {t0 t5 t6 : AV} {H : zaa} {K : Kt} {Kb5 : Lt} (Inv : Nat → AV → zaa → Prop) (n : Nat) (h0 : HSc H → Inv n t6 H)
  (round : Rd1 (fun t6 => zht t0 t5 t6) (fun t6 => fun H Kb10 => zlw t0 t5 t6 H K Kb5 Kb10) H Inv) : zre t0 t5 t6 H K Kb5 :=
 lp1 (M := zcm) zxK t6 (by kernel_rfl) Inv n h0 round
theorem zxH {t0 t5 t6 t7 t8 : AV} {H : zaa} {K : Kt} {Kb5 : Lt} (Inv : Nat → AV → zaa → Prop) (n : Nat) (h0 : HSc H → Inv n t8 H)
  (round : Rd1 (fun t8 => zfM t0 t5 t6 t7 t8) (fun t8 => fun H Kb18 => zlx t0 t5 t6 t7 t8 H K Kb5 Kb18) H Inv) : zlA t0 t5 t6 t7 t8 H K Kb5 :=
 lp1 (M := zcm) zxL t8 (by kernel_rfl) Inv n h0 round
theorem zxI {t0 t5 t6 t7 t8 : AV} {H : zaa} {K : Kt} {Kb5 : Lt} (Inv : Nat → AV → zaa → Prop) (n : Nat) (h0 : HSc H → Inv n t8 H)
  (round : Rd1 (fun t8 => zhu t0 t5 t6 t7 t8) (fun t8 => fun H Kb29 => zly t0 t5 t6 t7 t8 H K Kb5 Kb29) H Inv) : zlB t0 t5 t6 t7 t8 H K Kb5 :=
 lp1 (M := zcm) zxM t8 (by kernel_rfl) Inv n h0 round
theorem zxJ {t0 t5 t6 : AV} {H : zaa} {K : Kt} (Inv : Nat → AV → AV → zaa → Prop) (n : Nat) (h0 : HSc H → Inv n t5 t6 H)
  (round : Rd2 (fun t5 => fun t6 => zd8 t0 t5 t6) (fun t5 => fun t6 => fun H Kb5 => zhr t0 t5 t6 H K Kb5) H Inv) : zhv t0 t5 t6 H K :=
 lp2 (M := zcm) zhw t5 t6 (by kernel_rfl) Inv n h0 round
theorem zxN {t0 : AV} {H : zaa} {K : Kt} (h : HSc H → zlv t0 H K) : ACalls tP zkn [t0] H K :=
 zam (M := zcm) Tryz.func103 (c := zlz) (by kernel_rfl) (fun hs => Eq.mpr (by kernel_rfl) (h hs))
def zy0 (_ : Nat) : List Bool := []
noncomputable def zy1 : Code := Tryz.f135.body.getD .skip
def zrC (t0 : AV) (H : zaa) (K : Kt) : Prop :=
 zac .eql false t0 (.int .u8 9) fun t4 =>
 zab t4 false H (fun K' => K' t0 H) fun t6 H =>
 zab t4 false H (fun K' => zac .eql false t6 (.int .u8 10) (K' · H)) fun t7 H =>
 zaj t4 (.bool true) t7 fun t8 =>
 zab t8 false H (fun K' => K' t0 H) fun t10 H =>
 zab t8 false H (fun K' => zac .eql false t10 (.int .u8 13) (K' · H)) fun t11 H =>
 zaj t8 (.bool true) t11 fun t12 =>
 zab t12 false H (fun K' => K' t0 H) fun t14 H =>
 zab t12 false H (fun K' => zac .eql false t14 (.int .u8 32) (K' · H)) fun t15 H =>
 zaj t12 (.bool true) t15 fun t16 =>
 K t16 H
theorem zy2 {t0 : AV} {H : zaa} {K : Kt} (h : HSc H → zrC t0 H K) : ACalls tP zku [t0] H K :=
 zam (M := zy0) Tryz.func135 (c := zy1) (by kernel_rfl) (fun hs => Eq.mpr (by kernel_rfl) (h hs))
def zy3 (_ : Nat) : List Bool := []
noncomputable def zy4 : Code := Tryz.f136.body.getD .skip
def zrD (t4 t6 : AV) (H : zaa) (K : Kt) : Prop :=
 zad true 3 t6 H fun t74 =>
 zak 3 t4 t74 H fun H =>
 zad true 3 t4 H fun r0 =>
 zax [r0, (.int .i64 0)] (K · H)
def zeM (t4 t6 : AV) (H : zaa) (K : Kt) : Prop :=
 zrD t4 t6 H K
def zeL (t4 t6 : AV) (H : zaa) (K : Kt) : Prop :=
 zeM t4 t6 H K
def zlT (t0 t1 : AV) (H : zaa) (K : Kt) : Prop :=
 zau [(.int .i64 0), (.str []), (.int .i64 0)] H fun t4 H =>
 zav [(.int .i64 0), (.str []), (.int .i64 0)] [(0, 1), (1, 1), (2, 1)] [(2, t1)] fun t9 =>
 zau [(.int .i64 0), (.str []), (.int .i64 0)] H fun t6 H =>
 zak 3 t6 t9 H fun H =>
 zbf t0 t1 fun t12 =>
 ACalls tP zgy [t12] H fun t25 H =>
 zab t25 false H (fun K' => K' t12 H) fun t27 H =>
 zab t25 false H (fun K' => ACalls tP zfm [t27] H K') fun t28 H =>
 zaj t25 (.bool true) t28 fun t29 =>
 zag t29
 (zaD 0 0 t0 (some t1) none fun t32 =>
 ACalls tP zgz [t32, (.fn zfn [])] H fun t33 H =>
 zaf 1 t6 fun t34 =>
 zak 1 t34 t33 H fun H =>
 zaf 1 t6 fun t37 =>
 zad false 1 t37 H fun t38 =>
 zah 0 t38 fun t39 =>
 zac .gtr false t39 (.int .i64 24) fun t40 =>
 zag t40
 (zav [(.int .i64 0), (.str []), (.int .i64 0)] [(0, 1), (1, 1), (2, 1)] [] fun t41 =>
 zak 3 t4 t41 H fun H =>
 zad true 3 t4 H fun r0 =>
 zax [r0, (.int .i64 9)] (K · H))
 (ACalls tP zfm [t12] H fun t44 H =>
 zag t44
 (zaf 0 t6 fun t45 =>
 zak 1 t45 (.int .i64 2) H fun H =>
 zeL t4 t6 H K)
 (zaf 1 t6 fun t47 =>
 zad false 1 t47 H fun t48 =>
 ACalls tP zkw [t48] H fun t49 H =>
 zag t49
 (zaf 0 t6 fun t50 =>
 zak 1 t50 (.int .i64 4) H fun H =>
 zeL t4 t6 H K)
 (zaf 0 t6 fun t35 =>
 zak 1 t35 (.int .i64 1) H fun H =>
 zeL t4 t6 H K))))
 (ACalls tP zdZ [t12] H fun t53 H =>
 zag t53
 (zaf 0 t6 fun t54 =>
 zak 1 t54 (.int .i64 3) H fun H =>
 zaD 0 0 t0 (some t1) none fun t57 =>
 ACalls tP zgz [t57, (.fn zdZ [])] H fun t58 H =>
 zaf 1 t6 fun t59 =>
 zak 1 t59 t58 H fun H =>
 zac .eql false t12 (.int .u8 48) fun t61 =>
 zab t61 true H (fun K' => zaf 1 t6 (K' · H)) fun t63 H =>
 zab t61 true H (fun K' => zad false 1 t63 H (K' · H)) fun t64 H =>
 zab t61 true H (fun K' => zah 0 t64 (K' · H)) fun t65 H =>
 zab t61 true H (fun K' => zac .gtr false t65 (.int .i64 1) (K' · H)) fun t66 H =>
 zaj t61 t66 (.bool false) fun t67 =>
 zag t67
 (zav [(.int .i64 0), (.str []), (.int .i64 0)] [(0, 1), (1, 1), (2, 1)] [] fun t68 =>
 zak 3 t4 t68 H fun H =>
 zad true 3 t4 H fun r0 =>
 zax [r0, (.int .i64 2)] (K · H))
 (zaf 1 t6 fun t69 =>
 zad false 1 t69 H fun t70 =>
 ACalls tP zfo [t70] H fun t71 H =>
 aUn .not t71 fun t72 =>
 zag t72
 (zav [(.int .i64 0), (.str []), (.int .i64 0)] [(0, 1), (1, 1), (2, 1)] [] fun t73 =>
 zak 3 t4 t73 H fun H =>
 zad true 3 t4 H fun r0 =>
 zax [r0, (.int .i64 9)] (K · H))
 (zeM t4 t6 H K)))
 (zaf 0 t6 fun t13 =>
 zak 1 t13 (.int .i64 5) H fun H =>
 zaD 0 0 t0 (some t1) none fun t16 =>
 ACalls tP zkx [t16] H fun t17 H =>
 zaf 1 t6 fun t18 =>
 zak 1 t18 t17 H fun H =>
 zaf 1 t6 fun t19 =>
 zad false 1 t19 H fun t20 =>
 zac .eql false t20 (.str []) fun t21 =>
 zag t21
 (zav [(.int .i64 0), (.str []), (.int .i64 0)] [(0, 1), (1, 1), (2, 1)] [] fun t22 =>
 zak 3 t4 t22 H fun H =>
 zad true 3 t4 H fun r0 =>
 zax [r0, (.int .i64 2)] (K · H))
 (zeM t4 t6 H K)))
theorem zy5 {t0 t1 : AV} {H : zaa} {K : Kt} (h : HSc H → zlT t0 t1 H K) : ACalls tP zkv [t0, t1] H K :=
 zam (M := zy3) Tryz.func136 (c := zy4) (by kernel_rfl) (fun hs => Eq.mpr (by kernel_rfl) (h hs))
def zyb (_ : Nat) : List Bool := []
noncomputable def zyc : Code := Tryz.f116.body.getD .skip
def zrn (t0 : AV) (H : zaa) (K : Kt) : Prop :=
 zac .geq false t0 (.int .u8 97) fun t4 =>
 zab t4 true H (fun K' => K' t0 H) fun t6 H =>
 zab t4 true H (fun K' => zac .leq false t6 (.int .u8 122) (K' · H)) fun t7 H =>
 zaj t4 t7 (.bool false) fun t8 =>
 K t8 H
theorem zyd {t0 : AV} {H : zaa} {K : Kt} (h : HSc H → zrn t0 H K) : ACalls tP zgu [t0] H K :=
 zam (M := zyb) Tryz.func116 (c := zyc) (by kernel_rfl) (fun hs => Eq.mpr (by kernel_rfl) (h hs))
def zye (_ : Nat) : List Bool := []
noncomputable def zyf : Code := Tryz.f117.body.getD .skip
def zro (t0 : AV) (H : zaa) (K : Kt) : Prop :=
 zac .geq false t0 (.int .u8 65) fun t4 =>
 zab t4 true H (fun K' => K' t0 H) fun t6 H =>
 zab t4 true H (fun K' => zac .leq false t6 (.int .u8 90) (K' · H)) fun t7 H =>
 zaj t4 t7 (.bool false) fun t8 =>
 K t8 H
theorem zyg {t0 : AV} {H : zaa} {K : Kt} (h : HSc H → zro t0 H K) : ACalls tP zev [t0] H K :=
 zam (M := zye) Tryz.func117 (c := zyf) (by kernel_rfl) (fun hs => Eq.mpr (by kernel_rfl) (h hs))
def zyh (_ : Nat) : List Bool := []
noncomputable def zyi : Code := Tryz.f118.body.getD .skip
def zrp (t0 : AV) (H : zaa) (K : Kt) : Prop :=
 zac .geq false t0 (.int .u8 48) fun t4 =>
 zab t4 true H (fun K' => K' t0 H) fun t6 H =>
 zab t4 true H (fun K' => zac .leq false t6 (.int .u8 57) (K' · H)) fun t7 H =>
 zaj t4 t7 (.bool false) fun t8 =>
 K t8 H
theorem zyj {t0 : AV} {H : zaa} {K : Kt} (h : HSc H → zrp t0 H K) : ACalls tP zfk [t0] H K :=
 zam (M := zyh) Tryz.func118 (c := zyi) (by kernel_rfl) (fun hs => Eq.mpr (by kernel_rfl) (h hs))
def zhA : Nat → List Bool
 | 3 => rl false [0,1,2,2,13]
 | _ => []
noncomputable def zlG : Code := Tryz.f119.body.getD .skip
noncomputable def zyp : List ResultVar := Tryz.f119.results.toList
def zhC (t0 t3 t4 : AV) : List AV := t0 :: ux 2 (t3 :: t4 :: ux 13 [])
def zyn : List Bool := zhA 3
noncomputable def zyl : Code := zao [1, 1, 0, 1, 0, 0] zlG
def zyk (K : Kt) : AExit → List AV → zaa → Prop := zap tP zhA [1, 1, 0, 1, 0] zlG (zaw tP zyp K)
def zlH (t0 t3 t4 : AV) (H : zaa) (K : Kt) : Prop := ALoop tP zyl (zyk K) (zhC t0 t3 t4) H
def zhB (t0 t3 t4 : AV) (H : zaa) (K : Kt) (Kb3 : Lt) : Prop :=
 zah 1 t3 fun t8 =>
 zac .lss false t4 t8 fun t9 =>
 zag t9
 (zai 1 t3 t4 fun t14 =>
 zad false 1 t14 H fun t15 =>
 zac .eql false t15 t0 fun t17 =>
 zag t17
 (K (.bool true) H)
 (zac .add false t4 (.int .i64 1) fun t11 =>
 Kb3 (zhC t0 t3 t11) H))
 (K (.bool false) H)
def zrq (t0 : AV) (H : zaa) (K : Kt) : Prop :=
 zaA 1 [(.str [])] 28 [(0, (.str [97, 114, 114, 97, 121])), (1, (.str [98, 111, 111, 108])), (2, (.str [99, 97, 116, 99, 104])), (3, (.str [100, 97, 116, 97])), (4, (.str [101, 108, 115, 101])), (5, (.str [101, 110, 100])), (6, (.str [102, 97, 108, 115, 101])), (7, (.str [102, 110])), (8, (.str [102, 117, 110])), (9, (.str [103, 101, 116])), (10, (.str [105, 102])), (11, (.str [105, 110])), (12, (.str [105, 110, 116])), (13, (.str [108, 101, 110])), (14, (.str [108, 101, 116])), (15, (.str [109, 97, 116, 99, 104])), (16, (.str [110, 101, 119])), (17, (.str [114, 97, 105, 115, 101])), (18, (.str [114, 101, 97, 100])), (19, (.str [114, 101, 102])), (20, (.str [115, 101, 116])), (21, (.str [116, 104, 101, 110])), (22, (.str [116, 105, 99, 107])), (23, (.str [116, 114, 117, 101])), (24, (.str [116, 114, 121])), (25, (.str [117, 110, 105, 116])), (26, (.str [119, 105, 116, 104])), (27, (.str [119, 114, 105, 116, 101]))] fun t5 =>
 zlH t0 t5 (.int .i64 0) H K
theorem zym {t0 t3 t4 : AV} {H : zaa} {K : Kt} (Inv : Nat → AV → zaa → Prop) (n : Nat) (h0 : HSc H → Inv n t4 H)
  (round : Rd1 (fun t4 => zhC t0 t3 t4) (fun t4 => fun H Kb3 => zhB t0 t3 t4 H K Kb3) H Inv) : zlH t0 t3 t4 H K :=
 lp1 (M := zhA) zyn t4 (by kernel_rfl) Inv n h0 round
theorem zyo {t0 : AV} {H : zaa} {K : Kt} (h : HSc H → zrq t0 H K) : ACalls tP zgv [t0] H K :=
 zam (M := zhA) Tryz.func119 (c := zlG) (by kernel_rfl) (fun hs => Eq.mpr (by kernel_rfl) (h hs))
def zhD : Nat → List Bool
 | 3 => rl false [0,1,3,2,17]
 | _ => []
noncomputable def zlJ : Code := Tryz.f120.body.getD .skip
noncomputable def zyv : List ResultVar := Tryz.f120.results.toList
def zhE (t0 t4 t5 : AV) : List AV := t0 :: ux 3 (t4 :: t5 :: ux 17 [])
def zyt : List Bool := zhD 3
noncomputable def zyr : Code := zao [1, 1, 0, 1, 0, 0] zlJ
def zyq (K : Kt) : AExit → List AV → zaa → Prop := zap tP zhD [1, 1, 0, 1, 0] zlJ (zaw tP zyv K)
def zrs (t0 t4 t5 : AV) (H : zaa) (K : Kt) : Prop := ALoop tP zyr (zyq K) (zhE t0 t4 t5) H
def zlI (t0 t4 t5 : AV) (H : zaa) (K : Kt) (Kb3 : Lt) : Prop :=
 zah 0 t0 fun t8 =>
 zac .lss false t5 t8 fun t9 =>
 zag t9
 (zac .mul false t4 (.int .i64 10) fun t13 =>
 zbf t0 t5 fun t16 =>
 zac .sub false t16 (.int .u8 48) fun t17 =>
 zcp .i64 t17 fun t18 =>
 zac .add false t13 t18 fun t19 =>
 zac .gtr false t19 (.int .i64 1000000) fun t21 =>
 zag t21
 (zax [(.int .i64 0), (.bool false)] (K · H))
 (zac .add false t5 (.int .i64 1) fun t11 =>
 Kb3 (zhE t0 t19 t11) H))
 (zax [t4, (.bool true)] (K · H))
def zrr (t0 : AV) (H : zaa) (K : Kt) : Prop :=
 zrs t0 (.int .i64 0) (.int .i64 0) H K
theorem zys {t0 t4 t5 : AV} {H : zaa} {K : Kt} (Inv : Nat → AV → AV → zaa → Prop) (n : Nat) (h0 : HSc H → Inv n t4 t5 H)
  (round : Rd2 (fun t4 => fun t5 => zhE t0 t4 t5) (fun t4 => fun t5 => fun H Kb3 => zlI t0 t4 t5 H K Kb3) H Inv) : zrs t0 t4 t5 H K :=
 lp2 (M := zhD) zyt t4 t5 (by kernel_rfl) Inv n h0 round
theorem zyu {t0 : AV} {H : zaa} {K : Kt} (h : HSc H → zrr t0 H K) : ACalls tP zew [t0] H K :=
 zam (M := zhD) Tryz.func120 (c := zlJ) (by kernel_rfl) (fun hs => Eq.mpr (by kernel_rfl) (h hs))
def zhF : Nat → List Bool
 | 5 => rl false [0,1,2,2,30]
 | _ => []
noncomputable def zlK : Code := Tryz.f121.body.getD .skip
noncomputable def zyB : List ResultVar := Tryz.f121.results.toList
def zhH (t0 t3 t4 : AV) : List AV := t0 :: ux 2 (t3 :: t4 :: ux 30 [])
def zyz : List Bool := zhF 5
noncomputable def zyx : Code := zao [1, 1, 1, 0, 1, 0, 0] zlK
def zyw (K : Kt) : AExit → List AV → zaa → Prop := zap tP zhF [1, 1, 1, 0, 1, 0] zlK (zaw tP zyB K)
def zlL (t0 t3 t4 : AV) (H : zaa) (K : Kt) : Prop := ALoop tP zyx (zyw K) (zhH t0 t3 t4) H
def zhG (t0 t3 t4 : AV) (H : zaa) (K : Kt) (Kb5 : Lt) : Prop :=
 zah 0 t3 fun t25 =>
 zac .lss false t4 t25 fun t26 =>
 zag t26
 (zae H (fun K' => K' t0 H) fun t29 =>
 zae H (fun K' => zbf t29 (.int .i64 0) (K' · H)) fun t30 =>
 zae H (fun K' => K' t3 H) fun t31 =>
 zae H (fun K' => K' t4 H) fun t32 =>
 zae H (fun K' => zbf t31 t32 (K' · H)) fun t33 =>
 zae H (fun K' => zac .eql false t30 t33 (K' · H)) fun t34 =>
 zag t34
 (K (.int .i64 1) H)
 (zac .add false t4 (.int .i64 1) fun t28 =>
 Kb5 (zhH t0 t3 t28) H))
 (K (.int .i64 0) H)
def zeI (t0 : AV) (H : zaa) (K : Kt) : Prop :=
 zah 0 t0 fun t6 =>
 zac .geq false t6 (.int .i64 2) fun t7 =>
 zab t7 true H (fun K' => K' t0 H) fun t9 H =>
 zab t7 true H (fun K' => zaD 0 0 t9 none (some (.int .i64 2)) (K' · H)) fun t10 H =>
 zab t7 true H (fun K' => zac .eql false t10 (.str [45, 62]) (K' · H)) fun t11 H =>
 zab t7 true H (fun K' => K' t11 H) fun t12 H =>
 zab t12 false H (fun K' => K' t0 H) fun t13 H =>
 zab t12 false H (fun K' => zaD 0 0 t13 none (some (.int .i64 2)) (K' · H)) fun t14 H =>
 zab t12 false H (fun K' => zac .eql false t14 (.str [60, 61]) (K' · H)) fun t15 H =>
 zab t7 true H (fun K' => zaj t12 (.bool true) t15 (K' · H)) fun t16 H =>
 zab t7 true H (fun K' => K' t16 H) fun t17 H =>
 zab t17 false H (fun K' => K' t0 H) fun t18 H =>
 zab t17 false H (fun K' => zaD 0 0 t18 none (some (.int .i64 2)) (K' · H)) fun t19 H =>
 zab t17 false H (fun K' => zac .eql false t19 (.str [61, 61]) (K' · H)) fun t20 H =>
 zab t7 true H (fun K' => zaj t17 (.bool true) t20 (K' · H)) fun t21 H =>
 zaj t7 t21 (.bool false) fun t22 =>
 zag t22
 (K (.int .i64 2) H)
 (zlL t0 (.str [40, 41, 44, 61, 124, 43, 45, 42, 47, 37, 60, 59, 95]) (.int .i64 0) H K)
theorem zyy {t0 t3 t4 : AV} {H : zaa} {K : Kt} (Inv : Nat → AV → zaa → Prop) (n : Nat) (h0 : HSc H → Inv n t4 H)
  (round : Rd1 (fun t4 => zhH t0 t3 t4) (fun t4 => fun H Kb5 => zhG t0 t3 t4 H K Kb5) H Inv) : zlL t0 t3 t4 H K :=
 lp1 (M := zhF) zyz t4 (by kernel_rfl) Inv n h0 round
theorem zyA {t0 : AV} {H : zaa} {K : Kt} (h : HSc H → zeI t0 H K) : ACalls tP zkq [t0] H K :=
 zam (M := zhF) Tryz.func121 (c := zlK) (by kernel_rfl) (fun hs => Eq.mpr (by kernel_rfl) (h hs))
def zy9 (_ : Nat) : List Bool := []
noncomputable def zza : Code := Tryz.f141.body.getD .skip
def zrF (t0 : AV) (H : zaa) (K : Kt) : Prop :=
 zac .geq false t0 (.int .u8 97) fun t4 =>
 zab t4 true H (fun K' => K' t0 H) fun t6 H =>
 zab t4 true H (fun K' => zac .leq false t6 (.int .u8 122) (K' · H)) fun t7 H =>
 zaj t4 t7 (.bool false) fun t8 =>
 K t8 H
theorem zzb {t0 : AV} {H : zaa} {K : Kt} (h : HSc H → zrF t0 H K) : ACalls tP zgy [t0] H K :=
 zam (M := zy9) Tryz.func141 (c := zza) (by kernel_rfl) (fun hs => Eq.mpr (by kernel_rfl) (h hs))
def zzi (_ : Nat) : List Bool := []
noncomputable def zzj : Code := Tryz.f142.body.getD .skip
def zrG (t0 : AV) (H : zaa) (K : Kt) : Prop :=
 zac .geq false t0 (.int .u8 65) fun t4 =>
 zab t4 true H (fun K' => K' t0 H) fun t6 H =>
 zab t4 true H (fun K' => zac .leq false t6 (.int .u8 90) (K' · H)) fun t7 H =>
 zaj t4 t7 (.bool false) fun t8 =>
 K t8 H
theorem zzk {t0 : AV} {H : zaa} {K : Kt} (h : HSc H → zrG t0 H K) : ACalls tP zfm [t0] H K :=
 zam (M := zzi) Tryz.func142 (c := zzj) (by kernel_rfl) (fun hs => Eq.mpr (by kernel_rfl) (h hs))
def zhS : Nat → List Bool
 | 2 => rl false [0,2,3,1,16]
 | _ => []
noncomputable def zlY : Code := Tryz.f143.body.getD .skip
noncomputable def zzq : List ResultVar := Tryz.f143.results.toList
def zhT (t0 t1 t5 : AV) : List AV := t0 :: t1 :: ux 3 (t5 :: ux 16 [])
def zzo : List Bool := zhS 2
noncomputable def zzm : Code := zao [1, 1, 0, 0, 0] zlY
def zzl (K : Kt) : AExit → List AV → zaa → Prop := zap tP zhS [1, 1, 0, 0] zlY (zaw tP zzq K)
def zrI (t0 t1 t5 : AV) (H : zaa) (K : Kt) : Prop := ALoop tP zzm (zzl K) (zhT t0 t1 t5) H
def zlX (t0 t1 t5 : AV) (H : zaa) (K : Kt) (Kb2 : Lt) : Prop :=
 zah 0 t0 fun t8 =>
 zac .lss false t5 t8 fun t9 =>
 zab t9 true H (fun K' => K' t1 H) fun t11 H =>
 zab t9 true H (fun K' => K' t0 H) fun t12 H =>
 zab t9 true H (fun K' => K' t5 H) fun t13 H =>
 zab t9 true H (fun K' => zbf t12 t13 (K' · H)) fun t14 H =>
 zab t9 true H (fun K' => aCallV tP t11 [t14] H K') fun t15 H =>
 zaj t9 t15 (.bool false) fun t16 =>
 zag t16
 (zac .add false t5 (.int .i64 1) fun t18 =>
 Kb2 (zhT t0 t1 t18) H)
 (zaD 0 0 t0 none (some t5) fun t21 =>
 K t21 H)
def zrH (t0 t1 : AV) (H : zaa) (K : Kt) : Prop :=
 zrI t0 t1 (.int .i64 0) H K
theorem zzn {t0 t1 t5 : AV} {H : zaa} {K : Kt} (Inv : Nat → AV → zaa → Prop) (n : Nat) (h0 : HSc H → Inv n t5 H)
  (round : Rd1 (fun t5 => zhT t0 t1 t5) (fun t5 => fun H Kb2 => zlX t0 t1 t5 H K Kb2) H Inv) : zrI t0 t1 t5 H K :=
 lp1 (M := zhS) zzo t5 (by kernel_rfl) Inv n h0 round
theorem zzp {t0 t1 : AV} {H : zaa} {K : Kt} (h : HSc H → zrH t0 t1 H K) : ACalls tP zgz [t0, t1] H K :=
 zam (M := zhS) Tryz.func143 (c := zlY) (by kernel_rfl) (fun hs => Eq.mpr (by kernel_rfl) (h hs))
def zzr (_ : Nat) : List Bool := []
noncomputable def zzs : Code := Tryz.f144.body.getD .skip
def zrJ (t0 : AV) (H : zaa) (K : Kt) : Prop :=
 ACalls tP zgy [t0] H fun t4 H =>
 zab t4 false H (fun K' => K' t0 H) fun t6 H =>
 zab t4 false H (fun K' => ACalls tP zfm [t6] H K') fun t7 H =>
 zaj t4 (.bool true) t7 fun t8 =>
 zab t8 false H (fun K' => K' t0 H) fun t10 H =>
 zab t8 false H (fun K' => ACalls tP zdZ [t10] H K') fun t11 H =>
 zaj t8 (.bool true) t11 fun t12 =>
 zab t12 false H (fun K' => K' t0 H) fun t14 H =>
 zab t12 false H (fun K' => zac .eql false t14 (.int .u8 95) (K' · H)) fun t15 H =>
 zaj t12 (.bool true) t15 fun t16 =>
 K t16 H
theorem zzt {t0 : AV} {H : zaa} {K : Kt} (h : HSc H → zrJ t0 H K) : ACalls tP zfn [t0] H K :=
 zam (M := zzr) Tryz.func144 (c := zzs) (by kernel_rfl) (fun hs => Eq.mpr (by kernel_rfl) (h hs))
def zzu (_ : Nat) : List Bool := []
noncomputable def zzv : Code := Tryz.f145.body.getD .skip
def zaV (t4 : AV) (H : zaa) (K : Kt) : Prop :=
 zag t4
 (K (.bool true) H)
 (K (.bool false) H)
def zrK (t0 : AV) (H : zaa) (K : Kt) : Prop :=
 zac .eql false t0 (.str [97, 114, 114, 97, 121]) fun t5 =>
 zag t5
 (zaV t5 H K)
 (zac .eql false t0 (.str [98, 111, 111, 108]) fun t6 =>
 zag t6
 (zaV t6 H K)
 (zac .eql false t0 (.str [99, 97, 116, 99, 104]) fun t7 =>
 zag t7
 (zaV t7 H K)
 (zac .eql false t0 (.str [100, 97, 116, 97]) fun t8 =>
 zag t8
 (zaV t8 H K)
 (zac .eql false t0 (.str [101, 108, 115, 101]) fun t9 =>
 zag t9
 (zaV t9 H K)
 (zac .eql false t0 (.str [101, 110, 100]) fun t10 =>
 zag t10
 (zaV t10 H K)
 (zac .eql false t0 (.str [102, 97, 108, 115, 101]) fun t11 =>
 zag t11
 (zaV t11 H K)
 (zac .eql false t0 (.str [102, 110]) fun t12 =>
 zag t12
 (zaV t12 H K)
 (zac .eql false t0 (.str [102, 117, 110]) fun t13 =>
 zag t13
 (zaV t13 H K)
 (zac .eql false t0 (.str [103, 101, 116]) fun t14 =>
 zag t14
 (zaV t14 H K)
 (zac .eql false t0 (.str [105, 102]) fun t15 =>
 zag t15
 (zaV t15 H K)
 (zac .eql false t0 (.str [105, 110]) fun t16 =>
 zag t16
 (zaV t16 H K)
 (zac .eql false t0 (.str [105, 110, 116]) fun t17 =>
 zag t17
 (zaV t17 H K)
 (zac .eql false t0 (.str [108, 101, 110]) fun t18 =>
 zag t18
 (zaV t18 H K)
 (zac .eql false t0 (.str [108, 101, 116]) fun t19 =>
 zag t19
 (zaV t19 H K)
 (zac .eql false t0 (.str [109, 97, 116, 99, 104]) fun t20 =>
 zag t20
 (zaV t20 H K)
 (zac .eql false t0 (.str [110, 101, 119]) fun t21 =>
 zag t21
 (zaV t21 H K)
 (zac .eql false t0 (.str [114, 97, 105, 115, 101]) fun t22 =>
 zag t22
 (zaV t22 H K)
 (zac .eql false t0 (.str [114, 101, 97, 100]) fun t23 =>
 zag t23
 (zaV t23 H K)
 (zac .eql false t0 (.str [114, 101, 102]) fun t24 =>
 zag t24
 (zaV t24 H K)
 (zac .eql false t0 (.str [115, 101, 116]) fun t25 =>
 zag t25
 (zaV t25 H K)
 (zac .eql false t0 (.str [116, 104, 101, 110]) fun t26 =>
 zag t26
 (zaV t26 H K)
 (zac .eql false t0 (.str [116, 105, 99, 107]) fun t27 =>
 zag t27
 (zaV t27 H K)
 (zac .eql false t0 (.str [116, 114, 117, 101]) fun t28 =>
 zag t28
 (zaV t28 H K)
 (zac .eql false t0 (.str [116, 114, 121]) fun t29 =>
 zag t29
 (zaV t29 H K)
 (zac .eql false t0 (.str [117, 110, 105, 116]) fun t30 =>
 zag t30
 (zaV t30 H K)
 (zac .eql false t0 (.str [119, 105, 116, 104]) fun t31 =>
 zag t31
 (zaV t31 H K)
 (zac .eql false t0 (.str [119, 114, 105, 116, 101]) fun t32 =>
 zaV t32 H K)))))))))))))))))))))))))))
theorem zzw {t0 : AV} {H : zaa} {K : Kt} (h : HSc H → zrK t0 H K) : ACalls tP zkw [t0] H K :=
 zam (M := zzu) Tryz.func145 (c := zzv) (by kernel_rfl) (fun hs => Eq.mpr (by kernel_rfl) (h hs))
def zzx (_ : Nat) : List Bool := []
noncomputable def zzy : Code := Tryz.f146.body.getD .skip
def zrL (t0 : AV) (H : zaa) (K : Kt) : Prop :=
 zac .geq false t0 (.int .u8 48) fun t4 =>
 zab t4 true H (fun K' => K' t0 H) fun t6 H =>
 zab t4 true H (fun K' => zac .leq false t6 (.int .u8 57) (K' · H)) fun t7 H =>
 zaj t4 t7 (.bool false) fun t8 =>
 K t8 H
theorem zzz {t0 : AV} {H : zaa} {K : Kt} (h : HSc H → zrL t0 H K) : ACalls tP zdZ [t0] H K :=
 zam (M := zzx) Tryz.func146 (c := zzy) (by kernel_rfl) (fun hs => Eq.mpr (by kernel_rfl) (h hs))
def zhU : Nat → List Bool
 | 3 => rl false [0,1,2,1,2,2,13]
 | _ => []
noncomputable def zl0 : Code := Tryz.f147.body.getD .skip
noncomputable def zzF : List ResultVar := Tryz.f147.results.toList
def zhV (t0 t3 t6 t7 : AV) : List AV := t0 :: ux 2 (t3 :: ux 2 (t6 :: t7 :: ux 13 []))
def zzD : List Bool := zhU 3
noncomputable def zzB : Code := zao [1, 1, 0, 1, 0, 0] zl0
def zzA (K : Kt) : AExit → List AV → zaa → Prop := zap tP zhU [1, 1, 0, 1, 0] zl0 (zaw tP zzF K)
def zrN (t0 t3 t6 t7 : AV) (H : zaa) (K : Kt) : Prop := ALoop tP zzB (zzA K) (zhV t0 t3 t6 t7) H
def zlZ (t0 t3 t6 t7 : AV) (H : zaa) (K : Kt) (Kb3 : Lt) : Prop :=
 zac .lss false t7 t6 fun t8 =>
 zag t8
 (zac .mul false t3 (.int .i64 10) fun t11 =>
 zbf t0 t7 fun t14 =>
 zac .sub false t14 (.int .u8 48) fun t15 =>
 zcp .i64 t15 fun t16 =>
 zac .add false t11 t16 fun t17 =>
 zac .gtr false t17 (.int .i64 1000000) fun t19 =>
 zag t19
 (K (.bool false) H)
 (zac .add false t7 (.int .i64 1) fun t20 =>
 Kb3 (zhV t0 t17 t6 t20) H))
 (K (.bool true) H)
def zrM (t0 : AV) (H : zaa) (K : Kt) : Prop :=
 zah 0 t0 fun t6 =>
 zrN t0 (.int .i64 0) t6 (.int .i64 0) H K
theorem zzC {t0 t3 t6 t7 : AV} {H : zaa} {K : Kt} (Inv : Nat → AV → AV → zaa → Prop) (n : Nat) (h0 : HSc H → Inv n t3 t7 H)
  (round : Rd2 (fun t3 => fun t7 => zhV t0 t3 t6 t7) (fun t3 => fun t7 => fun H Kb3 => zlZ t0 t3 t6 t7 H K Kb3) H Inv) : zrN t0 t3 t6 t7 H K :=
 lp2 (M := zhU) zzD t3 t7 (by kernel_rfl) Inv n h0 round
theorem zzE {t0 : AV} {H : zaa} {K : Kt} (h : HSc H → zrM t0 H K) : ACalls tP zfo [t0] H K :=
 zam (M := zhU) Tryz.func147 (c := zl0) (by kernel_rfl) (fun hs => Eq.mpr (by kernel_rfl) (h hs))
def zzG (_ : Nat) : List Bool := []
noncomputable def zzH : Code := Tryz.f148.body.getD .skip
def zbU (t0 t16 : AV) (H : zaa) (K : Kt) : Prop :=
 zag t16
 (zaD 0 0 t0 none (some (.int .i64 1)) fun t31 =>
 K t31 H)
 (K (.str []) H)
def zhW (t0 : AV) (H : zaa) (K : Kt) : Prop :=
 zaD 0 0 t0 none (some (.int .i64 1)) fun t15 =>
 zac .eql false t15 (.str [40]) fun t17 =>
 zag t17
 (zbU t0 t17 H K)
 (zac .eql false t15 (.str [41]) fun t18 =>
 zag t18
 (zbU t0 t18 H K)
 (zac .eql false t15 (.str [44]) fun t19 =>
 zag t19
 (zbU t0 t19 H K)
 (zac .eql false t15 (.str [61]) fun t20 =>
 zag t20
 (zbU t0 t20 H K)
 (zac .eql false t15 (.str [124]) fun t21 =>
 zag t21
 (zbU t0 t21 H K)
 (zac .eql false t15 (.str [43]) fun t22 =>
 zag t22
 (zbU t0 t22 H K)
 (zac .eql false t15 (.str [45]) fun t23 =>
 zag t23
 (zbU t0 t23 H K)
 (zac .eql false t15 (.str [42]) fun t24 =>
 zag t24
 (zbU t0 t24 H K)
 (zac .eql false t15 (.str [47]) fun t25 =>
 zag t25
 (zbU t0 t25 H K)
 (zac .eql false t15 (.str [37]) fun t26 =>
 zag t26
 (zbU t0 t26 H K)
 (zac .eql false t15 (.str [60]) fun t27 =>
 zag t27
 (zbU t0 t27 H K)
 (zac .eql false t15 (.str [59]) fun t28 =>
 zag t28
 (zbU t0 t28 H K)
 (zac .eql false t15 (.str [95]) fun t29 =>
 zbU t0 t29 H K))))))))))))
def zea (t0 t8 : AV) (H : zaa) (K : Kt) : Prop :=
 zag t8
 (zaD 0 0 t0 none (some (.int .i64 2)) fun t13 =>
 K t13 H)
 (zhW t0 H K)
def zeN (t0 : AV) (H : zaa) (K : Kt) : Prop :=
 zah 0 t0 fun t4 =>
 zac .geq false t4 (.int .i64 2) fun t5 =>
 zag t5
 (zaD 0 0 t0 none (some (.int .i64 2)) fun t7 =>
 zac .eql false t7 (.str [45, 62]) fun t9 =>
 zag t9
 (zea t0 t9 H K)
 (zac .eql false t7 (.str [60, 61]) fun t10 =>
 zag t10
 (zea t0 t10 H K)
 (zac .eql false t7 (.str [61, 61]) fun t11 =>
 zea t0 t11 H K)))
 (zhW t0 H K)
theorem zzI {t0 : AV} {H : zaa} {K : Kt} (h : HSc H → zeN t0 H K) : ACalls tP zkx [t0] H K :=
 zam (M := zzG) Tryz.func148 (c := zzH) (by kernel_rfl) (fun hs => Eq.mpr (by kernel_rfl) (h hs))
def zxP (_ : Nat) : List Bool := []
noncomputable def zxQ : Code := Tryz.f104.body.getD .skip
def zrf (t0 : AV) (H : zaa) (K : Kt) : Prop :=
 ACalls tP zks [t0] H fun t8 H =>
 zas t8 0 fun t9 =>
 zas t8 1 fun t10 =>
 zas t8 2 fun t11 =>
 zac .eql false t11 (.int .i64 0) fun t13 =>
 zab t13 true H (fun K' => K' t9 H) fun t15 H =>
 zab t13 true H (fun K' => zah 1 t15 (K' · H)) fun t16 H =>
 zab t13 true H (fun K' => zac .eql false t16 (.int .i64 2) (K' · H)) fun t17 H =>
 zaj t13 t17 (.bool false) fun t18 =>
 zab t18 true H (fun K' => K' t9 H) fun t20 H =>
 zab t18 true H (fun K' => zai 3 t20 (.int .i64 0) (K' · H)) fun t21 H =>
 zab t18 true H (fun K' => zaf 0 t21 (K' · H)) fun t22 H =>
 zab t18 true H (fun K' => zad false 1 t22 H (K' · H)) fun t23 H =>
 zab t18 true H (fun K' => zac .eql false t23 (.int .i64 2) (K' · H)) fun t24 H =>
 zaj t18 t24 (.bool false) fun t25 =>
 zab t25 true H (fun K' => K' t9 H) fun t27 H =>
 zab t25 true H (fun K' => zai 3 t27 (.int .i64 0) (K' · H)) fun t28 H =>
 zab t25 true H (fun K' => zaf 1 t28 (K' · H)) fun t29 H =>
 zab t25 true H (fun K' => zad false 1 t29 H (K' · H)) fun t30 H =>
 zab t25 true H (fun K' => K' t0 H) fun t31 H =>
 zab t25 true H (fun K' => zac .eql false t30 t31 (K' · H)) fun t32 H =>
 zaj t25 t32 (.bool false) fun t33 =>
 K t33 H
theorem zxR {t0 : AV} {H : zaa} {K : Kt} (h : HSc H → zrf t0 H K) : ACalls tP zgs [t0] H K :=
 zam (M := zxP) Tryz.func104 (c := zxQ) (by kernel_rfl) (fun hs => Eq.mpr (by kernel_rfl) (h hs))
def zEl (_ : Nat) : List Bool := []
noncomputable def zEm : Code := Tryz.f83.body.getD .skip
def zth (t0 : AV) (H : zaa) (K : Kt) : Prop :=
 ACalls tP zkn [t0] H fun t8 H =>
 zas t8 0 fun t9 =>
 zas t8 1 fun t10 =>
 zas t8 2 fun t11 =>
 zac .eql false t11 (.int .i64 0) fun t13 =>
 zab t13 true H (fun K' => K' t9 H) fun t15 H =>
 zab t13 true H (fun K' => zah 1 t15 (K' · H)) fun t16 H =>
 zab t13 true H (fun K' => zac .eql false t16 (.int .i64 2) (K' · H)) fun t17 H =>
 zaj t13 t17 (.bool false) fun t18 =>
 zab t18 true H (fun K' => K' t9 H) fun t20 H =>
 zab t18 true H (fun K' => zai 3 t20 (.int .i64 0) (K' · H)) fun t21 H =>
 zab t18 true H (fun K' => zaf 0 t21 (K' · H)) fun t22 H =>
 zab t18 true H (fun K' => zad false 1 t22 H (K' · H)) fun t23 H =>
 zab t18 true H (fun K' => zac .eql false t23 (.int .i64 2) (K' · H)) fun t24 H =>
 zaj t18 t24 (.bool false) fun t25 =>
 zab t25 true H (fun K' => K' t9 H) fun t27 H =>
 zab t25 true H (fun K' => zai 3 t27 (.int .i64 0) (K' · H)) fun t28 H =>
 zab t25 true H (fun K' => zaf 1 t28 (K' · H)) fun t29 H =>
 zab t25 true H (fun K' => zad false 1 t29 H (K' · H)) fun t30 H =>
 zab t25 true H (fun K' => K' t0 H) fun t31 H =>
 zab t25 true H (fun K' => zac .eql false t30 t31 (K' · H)) fun t32 H =>
 zaj t25 t32 (.bool false) fun t33 =>
 K t33 H
theorem zEn {t0 : AV} {H : zaa} {K : Kt} (h : HSc H → zth t0 H K) : ACalls tP zgW [t0] H K :=
 zam (M := zEl) Tryz.func83 (c := zEm) (by kernel_rfl) (fun hs => Eq.mpr (by kernel_rfl) (h hs))
end Go.Proofs.YtacebbdfgbfgiaaGreat

namespace Go.Proofs.YtacebbdfgbfgiaaGreat
open Go Go.Abs
def kwds : List (List UInt8) := [[97, 114, 114, 97, 121], [98, 111, 111, 108], [99, 97, 116, 99, 104], [100, 97, 116, 97], [101, 108, 115, 101], [101, 110, 100], [102, 97, 108, 115, 101], [102, 110], [102, 117, 110], [103, 101, 116], [105, 102], [105, 110], [105, 110, 116], [108, 101, 110], [108, 101, 116], [109, 97, 116, 99, 104], [110, 101, 119], [114, 97, 105, 115, 101], [114, 101, 97, 100], [114, 101, 102], [115, 101, 116], [116, 104, 101, 110], [116, 105, 99, 107], [116, 114, 117, 101], [116, 114, 121], [117, 110, 105, 116], [119, 105, 116, 104], [119, 114, 105, 116, 101]]
def kwF (ws : List (List UInt8)) (s : List UInt8) : Bool := ws.any (s == ·)
theorem zcc {H : zaa} {K : AV → zaa → Prop} {r : AV} (hsc : HSc H) (hv : r.isV = true) (hr : r.scV H.length = true) (h : K r H) : Out H.length K r H := by
 have := Out.same (J := []) rfl hsc hv hr h
 simpa using this
theorem zbT (b c : UInt8) : ((b.toNat : Int) == (c.toNat : Int)) = (b == c) := by
 rw [Bool.eq_iff_iff]
 simp only [beq_iff_eq]
 constructor
 ·intro h; exact UInt8.toNat_inj.mp (by omega)
 ·rintro rfl; rfl
theorem zpu (b : UInt8) (H : zaa) (K : AV → zaa → Prop) (hK : K (.bool (zbs b)) H) : ACalls tP zgu [.int .u8 b.toNat] H K := by
 refine ACalls.out (zyd fun hs => ?_)
 have hO := zcc (K := K) (H := H) (r := .bool (zbs b)) hs rfl rfl hK
 unfold zbs at hO
 cases h1 : decide (97 ≤ (b.toNat : Int)) <;> simp [zrn, h1] <;> simpa [h1] using hO
theorem zhn (b : UInt8) (H : zaa) (K : AV → zaa → Prop) (hK : K (.bool (bUp b)) H) : ACalls tP zev [.int .u8 b.toNat] H K := by
 refine ACalls.out (zyg fun hs => ?_)
 have hO := zcc (K := K) (H := H) (r := .bool (bUp b)) hs rfl rfl hK
 unfold bUp at hO
 cases h1 : decide (65 ≤ (b.toNat : Int)) <;> simp [zro, h1] <;> simpa [h1] using hO
theorem zj7 (b : UInt8) (H : zaa) (K : AV → zaa → Prop) (hK : K (.bool (zaH b)) H) : ACalls tP zfk [.int .u8 b.toNat] H K := by
 refine ACalls.out (zyj fun hs => ?_)
 have hO := zcc (K := K) (H := H) (r := .bool (zaH b)) hs rfl rfl hK
 unfold zaH at hO
 cases h1 : decide (48 ≤ (b.toNat : Int)) <;> simp [zrp, h1] <;> simpa [h1] using hO
theorem zkl (b : UInt8) (H : zaa) (K : AV → zaa → Prop) (hK : K (.bool (zbs b)) H) : ACalls tP zgy [.int .u8 b.toNat] H K := by
 refine ACalls.out (zzb fun hs => ?_)
 have hO := zcc (K := K) (H := H) (r := .bool (zbs b)) hs rfl rfl hK
 unfold zbs at hO
 cases h1 : decide (97 ≤ (b.toNat : Int)) <;> simp [zrF, h1] <;> simpa [h1] using hO
theorem zho (b : UInt8) (H : zaa) (K : AV → zaa → Prop) (hK : K (.bool (bUp b)) H) : ACalls tP zfm [.int .u8 b.toNat] H K := by
 refine ACalls.out (zzk fun hs => ?_)
 have hO := zcc (K := K) (H := H) (r := .bool (bUp b)) hs rfl rfl hK
 unfold bUp at hO
 cases h1 : decide (65 ≤ (b.toNat : Int)) <;> simp [zrG, h1] <;> simpa [h1] using hO
theorem zj8 (b : UInt8) (H : zaa) (K : AV → zaa → Prop) (hK : K (.bool (zaH b)) H) : ACalls tP zdZ [.int .u8 b.toNat] H K := by
 refine ACalls.out (zzz fun hs => ?_)
 have hO := zcc (K := K) (H := H) (r := .bool (zaH b)) hs rfl rfl hK
 unfold zaH at hO
 cases h1 : decide (48 ≤ (b.toNat : Int)) <;> simp [zrL, h1] <;> simpa [h1] using hO
theorem zuL (b : UInt8) (H : zaa) (K : AV → zaa → Prop) (hK : K (.bool (zcu b)) H) : ACalls tP zku [.int .u8 b.toNat] H K := by
 refine ACalls.out (zy2 fun hs => ?_)
 have hO := zcc (K := K) (H := H) (r := .bool (zcu b)) hs rfl rfl hK
 unfold zcu at hO
 have e1 : ((b.toNat : Int) == 9) = (b == 9) := zbT b 9
 have e2 : ((b.toNat : Int) == 10) = (b == 10) := zbT b 10
 have e3 : ((b.toNat : Int) == 13) = (b == 13) := zbT b 13
 have e4 : ((b.toNat : Int) == 32) = (b == 32) := zbT b 32
 cases h1 : (b == 9) <;> cases h2 : (b == 10) <;> cases h3 : (b == 13) <;> simp [zrC, e1, e2, e3, e4, h1, h2, h3] <;> simpa [h1, h2, h3] using hO
theorem zxt (b : UInt8) (H : zaa) (K : AV → zaa → Prop) (hK : K (.bool (bIn b)) H) : ACalls tP zfn [.int .u8 b.toNat] H K := by
 refine ACalls.out (zzt fun hs => ?_)
 have hO := zcc (K := K) (H := H) (r := .bool (bIn b)) hs rfl rfl hK
 unfold bIn at hO
 have e1 : ((b.toNat : Int) == 95) = (b == 95) := zbT b 95
 unfold zrJ
 refine zkl b _ _ ?_
 cases h1 : zbs b with
 | true => simp; simpa [h1] using hO
 | false =>
  simp
  refine zho b _ _ ?_
  cases h2 : bUp b with
  | true => simp; simpa [h1, h2] using hO
  | false =>
   simp
   refine zj8 b _ _ ?_
   cases h3 : zaH b with
   | true => simp; simpa [h1, h2, h3] using hO
   | false => simp [e1]; simpa [h1, h2, h3] using hO
theorem zvq (s : List UInt8) (H : zaa) (K : AV → zaa → Prop) (hK : K (.bool (kwF kwds s)) H) : ACalls tP zkw [.str s] H K := by
 refine ACalls.out (zzw fun hs => ?_)
 have hO := zcc (K := K) (H := H) (r := .bool (kwF kwds s)) hs rfl rfl hK
 have step : ∀ (w : List UInt8) (ws : List (List UInt8)) (rest : Prop), (Out H.length K (.bool (kwF ws s)) H → rest) → Out H.length K (.bool (kwF (w :: ws) s)) H →
   zac .eql false (.str s) (.str w) fun t => zag t (zaV t H (Out H.length K)) rest := by
  intro w ws rest h h'
  simp only [kwF, List.any_cons] at h h'
  cases e : (s == w) with
  | true => simpa [zaV, e] using h'
  | false => rw [e, Bool.false_or] at h'; simpa [zaV, e] using h h'
 unfold zrK
 revert hO
 unfold kwds
 iterate 27 refine step _ _ _ ?_
 intro h'
 simp only [kwF, List.any_cons, List.any_nil, Bool.or_false] at h'
 cases e : (s == [119, 114, 105, 116, 101]) <;> rw [e] at h' <;> simpa [zaV, e] using h'
theorem zvr (s : List UInt8) (H : zaa) (K : AV → zaa → Prop) (hK : K (.bool (kwF kwds s)) H) : ACalls tP zgv [.str s] H K := by
 refine ACalls.out (zyo fun hs => ?_)
 have hO := zcc (K := K) (H := H) (r := .bool (kwF kwds s)) hs rfl rfl hK
 have e : zrq (.str s) H (Out H.length K) = zlH (.str s) (.sl (kwds.map fun w => [.str w]) .full) (.int .i64 0) H (Out H.length K) := rfl
 rw [e]
 have hlen : kwds.length = 28 := rfl
 generalize kwds = ws at *
 refine zym (Inv := fun q t4 H' => ∃ i : Nat, i ≤ ws.length ∧ q = ws.length - i ∧ t4 = .int .i64 i ∧ kwF (ws.drop i) s = kwF ws s ∧ H' = H) ws.length ?_ ?_
 ·intro _; exact ⟨0, by omega, by omega, rfl, by simp, rfl⟩
 ·rintro q t8 H' ⟨i, hi, rfl, rfl, ho, rfl⟩ hsc _ hsF Kb hKb
  by_cases hlt : i < ws.length
  ·rw [List.drop_eq_getElem_cons hlt] at ho
   simp only [kwF, List.any_cons] at ho
   cases hz : (ws[i] == s) with
   | true =>
    have hz' : (s == ws[i]) = true := by rw [beq_iff_eq] at hz ⊢; exact hz.symm
    rw [hz', Bool.true_or] at ho
    simp [zhB, hlt, hz]
    unfold kwF at hO
    rw [← ho] at hO
    exact hO
   | false =>
    have hz' : (s == ws[i]) = false := by rw [beq_eq_false_iff_ne] at hz ⊢; exact fun h => hz h.symm
    rw [hz', Bool.false_or] at ho
    simp [zhB, hlt, hz]
    rw [zal (by omega) (by omega)]
    refine hKb _ _ ⟨ws.length - (i + 1), by omega, Back.here (Nat.le_refl _) hs ?_ ⟨_, rfl, i + 1, by omega, rfl, by simp, ho, rfl⟩⟩
    simp [zhC, AV.sc, AV.scV, AV.scA, AV.scB]
  ·simp [zhB, hlt]
   obtain rfl : i = ws.length := by omega
   rw [List.drop_length] at ho
   rw [← ho] at hO
   exact hO
end Go.Proofs.YtacebbdfgbfgiaaGreat
namespace Go.Proofs.YtacebbdfgbfgiaaGreat
open Go Go.Abs
theorem zoE {b : UInt8} (h : zaH b = true) : 48 ≤ (b.toNat : Int) ∧ (b.toNat : Int) ≤ 57 := by simpa [zaH] using h
theorem zwC (s : List UInt8) (hd : ∀ b ∈ s, zaH b = true) (hl : s.length ≤ 1000000) (H : zaa) (K : AV → zaa → Prop) (hK : K (.bool (zbD s 0)) H) : ACalls tP zfo [.str s] H K := by
 refine ACalls.out (zzE fun hs => ?_)
 have hO := zcc (K := K) (H := H) (r := .bool (zbD s 0)) hs rfl rfl hK
 simp [zrM]
 refine zzC (Inv := fun q t3 t7 H' => ∃ (i : Nat) (n : Int), i ≤ s.length ∧ q = s.length - i ∧ t7 = .int .i64 i ∧ t3 = .int .i64 n ∧ 0 ≤ n ∧ n ≤ 1000000 ∧ zbD (s.drop i) n = zbD s 0 ∧ H' = H) s.length ?_ ?_
 ·intro _; exact ⟨0, 0, by omega, by omega, rfl, rfl, by omega, by omega, by simp, rfl⟩
 ·rintro q t3 t7 H' ⟨i, n, hi, rfl, rfl, rfl, hn0, hn1, ho, rfl⟩ hsc _ hsF Kb hKb
  by_cases hlt : i < s.length
  ·have hb := zoE (hd s[i] (List.getElem_mem hlt))
   rw [List.drop_eq_getElem_cons hlt, zbD] at ho
   simp [zlZ, hlt]
   rw [IntWalk.u8_in _ (by omega), zal (n := n * 10) (by omega) (by omega), zal (n := (s[i].toNat : Int) - 48) (by omega) (by omega), zal (by omega) (by omega), zal (by omega) (by omega)]
   by_cases hg : 1000000 < n * 10 + ((s[i].toNat : Int) - 48)
   ·rw [if_pos hg] at ho
    have hg' : decide (1000000 < n * 10 + ((s[i].toNat : Int) - 48)) = true := by simpa using hg
    rw [← ho] at hO
    rw [hg']
    simpa using hO
   ·rw [if_neg hg] at ho
    have hg' : decide (1000000 < n * 10 + ((s[i].toNat : Int) - 48)) = false := by simpa using hg
    rw [hg']
    simp only [zoq, Bool.false_eq_true, if_false]
    refine hKb _ _ ⟨s.length - (i + 1), by omega, Back.here (Nat.le_refl _) hs ?_ ⟨_, _, rfl, i + 1, _, by omega, rfl, by simp, rfl, by omega, by omega, ho, rfl⟩⟩
    simp [zhV, AV.sc, AV.scV, AV.scA, AV.scB]
  ·simp [zlZ, hlt]
   obtain rfl : i = s.length := by omega
   rw [List.drop_length, zbD] at ho
   rw [← ho] at hO
   exact hO
theorem zp8 (cl : UInt8 → Bool) (f : FuncId) (hcl : zdq tP f = true) (hf : ∀ (b : UInt8) (H : zaa) (K : AV → zaa → Prop), K (.bool (cl b)) H → ACalls tP f [.int .u8 b.toNat] H K)
  (s : List UInt8) (hl : s.length ≤ 1000000) (H : zaa) (K : AV → zaa → Prop) (hK : K (.str (s.takeWhile cl)) H) : ACalls tP zgz [.str s, .fn f []] H K := by
 refine ACalls.out (zzp fun hs => ?_)
 have hO := zcc (K := K) (H := H) (r := .str (s.takeWhile cl)) hs rfl rfl hK
 simp [zrH]
 refine zzn (Inv := fun q t5 H' => ∃ i : Nat, i ≤ s.length ∧ q = s.length - i ∧ t5 = .int .i64 i ∧ s.take i ++ (s.drop i).takeWhile cl = s.takeWhile cl ∧ H' = H) s.length ?_ ?_
 ·intro _; exact ⟨0, by omega, by omega, rfl, by simp, rfl⟩
 ·rintro q t5 H' ⟨i, hi, rfl, rfl, ho, rfl⟩ hsc _ hsF Kb hKb
  by_cases hlt : i < s.length
  ·rw [List.drop_eq_getElem_cons hlt, List.takeWhile_cons] at ho
   simp [zlX, hlt]
   simp only [aCallV, hcl, List.append_nil]
   refine hf _ _ _ ?_
   cases hc : cl s[i] with
   | true =>
    rw [hc, if_pos rfl, List.append_cons, ← List.take_succ_eq_append_getElem hlt] at ho
    simp
    rw [zal (by omega) (by omega)]
    refine hKb _ _ ⟨s.length - (i + 1), by omega, Back.here (Nat.le_refl _) hs ?_ ⟨_, rfl, i + 1, by omega, rfl, by simp, ho, rfl⟩⟩
    simp [zhT, AV.sc, AV.scV, AV.scA, AV.scB]
   | false =>
    rw [hc, if_neg (by simp), List.append_nil] at ho
    rw [← ho] at hO
    simp [hi]
    exact hO
  ·simp [zlX, hlt]
   obtain rfl : i = s.length := by omega
   rw [List.drop_length, List.takeWhile_nil, List.append_nil, List.take_length] at ho
   rw [← ho] at hO
   simpa using hO
theorem zxq (s : List UInt8) (hd : ∀ b ∈ s, zaH b = true) (hl : s.length ≤ 1000000) (H : zaa) (K : AV → zaa → Prop) (hK : ∀ n, K (.tup [.int .i64 n, .bool (zbD s 0)]) H) : ACalls tP zew [.str s] H K := by
 refine ACalls.out (zyu fun hs => ?_)
 have hO : ∀ n, Out H.length K (.tup [.int .i64 n, .bool (zbD s 0)]) H := fun n => Out.tup0 hs (hK n) ⟨za4 rfl rfl, za4 rfl rfl, trivial⟩
 simp only [zrr]
 refine zys (Inv := fun q t3 t7 H' => ∃ (i : Nat) (n : Int), i ≤ s.length ∧ q = s.length - i ∧ t7 = .int .i64 i ∧ t3 = .int .i64 n ∧ 0 ≤ n ∧ n ≤ 1000000 ∧ zbD (s.drop i) n = zbD s 0 ∧ H' = H) s.length ?_ ?_
 ·intro _; exact ⟨0, 0, by omega, by omega, rfl, rfl, by omega, by omega, by simp, rfl⟩
 ·rintro q t3 t7 H' ⟨i, n, hi, rfl, rfl, rfl, hn0, hn1, ho, rfl⟩ hsc _ hsF Kb hKb
  by_cases hlt : i < s.length
  ·have hb := zoE (hd s[i] (List.getElem_mem hlt))
   rw [List.drop_eq_getElem_cons hlt, zbD] at ho
   simp [zlI, hlt]
   rw [IntWalk.u8_in _ (by omega), zal (n := n * 10) (by omega) (by omega), zal (n := (s[i].toNat : Int) - 48) (by omega) (by omega), zal (by omega) (by omega), zal (by omega) (by omega)]
   by_cases hg : 1000000 < n * 10 + ((s[i].toNat : Int) - 48)
   ·rw [if_pos hg] at ho
    have hg' : decide (1000000 < n * 10 + ((s[i].toNat : Int) - 48)) = true := by simpa using hg
    rw [← ho] at hO
    rw [hg']
    simpa [AV.isV] using hO 0
   ·rw [if_neg hg] at ho
    have hg' : decide (1000000 < n * 10 + ((s[i].toNat : Int) - 48)) = false := by simpa using hg
    rw [hg']
    simp only [zoq, Bool.false_eq_true, if_false]
    refine hKb _ _ ⟨s.length - (i + 1), by omega, Back.here (Nat.le_refl _) hs ?_ ⟨_, _, rfl, i + 1, _, by omega, rfl, by simp, rfl, by omega, by omega, ho, rfl⟩⟩
    simp [zhE, AV.sc, AV.scV, AV.scA, AV.scB]
  ·simp [zlI, hlt, AV.isV]
   obtain rfl : i = s.length := by omega
   rw [List.drop_length, zbD] at ho
   rw [← ho] at hO
   exact hO n
theorem zxg (b : UInt8) (r : List UInt8) : (b :: r).take 1 = [b] := by simp
theorem zlf {s : List UInt8} (h : ¬ 2 ≤ s.length) : zcz s = false := by
 match s, h with
 | [], _ => rfl
 | [b], _ => simp [zcz]
 | _ :: _ :: _, h => simp at h
theorem zqq (b : UInt8) (r : List UInt8) (h : zcz (b :: r) = false) : sgn (b :: r) = if sgns.contains b = true then 1 else 0 := by simp [sgn, h]
theorem zwz (b : UInt8) (r : List UInt8) (H : zaa) (K : AV → zaa → Prop) (hK : K (.str ((b :: r).take (sgn (b :: r)))) H) : ACalls tP zkx [.str (b :: r)] H K := by
 refine ACalls.out (zzI fun hs => ?_)
 have hO := zcc (K := K) (H := H) (r := .str ((b :: r).take (sgn (b :: r)))) hs rfl rfl hK
 have one : zcz (b :: r) = false → zhW (.str (b :: r)) H (Out H.length K) := by
  intro h2
  rw [zqq b r h2] at hO
  have hO : Out H.length K (.str (if sgns.contains b = true then [b] else [])) H := by
   cases hc : sgns.contains b <;> rw [hc] at hO <;> simpa using hO
  have step : ∀ (c : UInt8) (cs : List UInt8) (rest : Prop), (Out H.length K (.str (if cs.contains b = true then [b] else [])) H → rest) → Out H.length K (.str (if (c :: cs).contains b = true then [b] else [])) H →
    zac .eql false (.str [b]) (.str [c]) fun t => zag t (zbU (.str (b :: r)) t H (Out H.length K)) rest := by
   intro c cs rest h h'
   rw [List.contains_cons] at h'
   cases e : (b == c) with
   | true => rw [e] at h'; simpa [zbU, e] using h'
   | false =>
    rw [e, Bool.false_or] at h'
    simpa [zbU, e] using h h'
  unfold zhW
  simp only [zuw, zus, zur, Int.toNat_one, zxg, List.drop_zero]
  refine ⟨by decide, ⟨by omega, by simp⟩, ?_⟩
  revert hO
  unfold sgns
  iterate 12 refine step _ _ _ ?_
  intro h'
  rw [List.contains_cons] at h'
  cases e : (b == 95) <;> rw [e] at h' <;> simpa [zbU, e] using h'
 by_cases hl : 2 ≤ (b :: r).length
 ·have hl' : (2 : Int) ≤ r.length + 1 := by simp only [List.length_cons] at hl; omega
  have hl2 : 1 ≤ r.length := by simp only [List.length_cons] at hl; omega
  cases h2 : zcz (b :: r) with
  | true =>
   have h3 : sgn (b :: r) = 2 := by simp [sgn, h2]
   rw [h3] at hO
   unfold zcz at h2
   simp only [List.take_succ_cons] at h2 hO
   cases e1 : (b :: List.take 1 r == [45, 62]) with
   | true => simpa [zeN, hl', hl2, zea, e1] using hO
   | false =>
    cases e2 : (b :: List.take 1 r == [60, 61]) with
    | true => simpa [zeN, hl', hl2, zea, e1, e2] using hO
    | false =>
     rw [e1, e2] at h2
     simp only [Bool.false_or] at h2
     simpa [zeN, hl', hl2, zea, e1, e2, h2] using hO
  | false =>
   have ho := one h2
   unfold zcz at h2
   simp only [List.take_succ_cons] at h2
   rw [Bool.or_eq_false_iff, Bool.or_eq_false_iff] at h2
   simpa [zeN, hl', hl2, zea, h2.1.1, h2.1.2, h2.2] using ho
 ·have ho := one (zlf hl)
  have : ¬ ((2 : Int) ≤ r.length + 1) := by simp only [List.length_cons] at hl; omega
  simpa [zeN, this] using ho
end Go.Proofs.YtacebbdfgbfgiaaGreat
namespace Go.Proofs.YtacebbdfgbfgiaaGreat
open Go Go.Abs
set_option maxRecDepth 4000
theorem zwy (b : UInt8) (r : List UInt8) (H : zaa) (K : AV → zaa → Prop) (hK : K (.int .i64 (sgn (b :: r))) H) : ACalls tP zkq [.str (b :: r)] H K := by
 refine ACalls.out (zyA fun hs => ?_)
 have hO := zcc (K := K) (H := H) (r := .int .i64 (sgn (b :: r))) hs rfl rfl hK
 have one : zcz (b :: r) = false → zlL (.str (b :: r)) (.str sgns) (.int .i64 0) H (Out H.length K) := by
  intro h2
  rw [zqq b r h2] at hO
  have hlen : sgns.length = 13 := rfl
  generalize sgns = ws at *
  refine zyy (Inv := fun q t4 H' => ∃ i : Nat, i ≤ ws.length ∧ q = ws.length - i ∧ t4 = .int .i64 i ∧ (ws.drop i).contains b = ws.contains b ∧ H' = H) ws.length ?_ ?_
  ·intro _; exact ⟨0, by omega, by omega, rfl, by simp, rfl⟩
  ·rintro q t8 H' ⟨i, hi, rfl, rfl, ho, rfl⟩ hsc _ hsF Kb hKb
   by_cases hlt : i < ws.length
   ·rw [List.drop_eq_getElem_cons hlt, List.contains_cons] at ho
    have e1 := zbT b ws[i]
    cases hz : (b == ws[i]) with
    | true =>
     rw [hz, Bool.true_or] at ho
     rw [← ho] at hO
     simpa [zhG, hlt, e1, hz] using hO
    | false =>
     rw [hz, Bool.false_or] at ho
     simp [zhG, hlt, e1, hz]
     rw [zal (by omega) (by omega)]
     refine hKb _ _ ⟨ws.length - (i + 1), by omega, Back.here (Nat.le_refl _) hs ?_ ⟨_, rfl, i + 1, by omega, rfl, by simp, ho, rfl⟩⟩
     simp [zhH, AV.sc, AV.scV, AV.scA, AV.scB]
   ·obtain rfl : i = ws.length := by omega
    rw [List.drop_length] at ho
    rw [← ho] at hO
    simpa [zhG, hlt] using hO
 by_cases hl : 2 ≤ (b :: r).length
 ·have hl' : (2 : Int) ≤ r.length + 1 := by simp only [List.length_cons] at hl; omega
  have hl2 : 1 ≤ r.length := by simp only [List.length_cons] at hl; omega
  cases h2 : zcz (b :: r) with
  | true =>
   have h3 : sgn (b :: r) = 2 := by simp [sgn, h2]
   rw [h3] at hO
   unfold zcz at h2
   simp only [List.take_succ_cons] at h2 hO
   cases e1 : (b :: List.take 1 r == [45, 62]) with
   | true => simpa [zeI, hl', hl2, e1] using hO
   | false =>
    cases e2 : (b :: List.take 1 r == [60, 61]) with
    | true => simpa [zeI, hl', hl2, e1, e2] using hO
    | false =>
     rw [e1, e2] at h2
     simp only [Bool.false_or] at h2
     simpa [zeI, hl', hl2, e1, e2, h2] using hO
  | false =>
   have ho := one h2
   unfold sgns at ho
   unfold zcz at h2
   simp only [List.take_succ_cons] at h2
   rw [Bool.or_eq_false_iff, Bool.or_eq_false_iff] at h2
   simpa [zeI, hl', hl2, h2.1.1, h2.1.2, h2.2] using ho
 ·have ho := one (zlf hl)
  unfold sgns at ho
  have : ¬ ((2 : Int) ≤ r.length + 1) := by simp only [List.length_cons] at hl; omega
  simpa [zeI, this] using ho

def Tk.cs (t : Tk) : List AV := [.int .i64 t.kind, .str t.text, .int .i64 t.pos]
def zhc (kw : List UInt8 → Bool) (b : UInt8) (r : List UInt8) (i : Nat) : AV :=
 match tok kw b r with
 | .error e => .tup [.agg [.int .i64 0, .str [], .int .i64 0], .int .i64 e]
 | .ok (k, n) => .tup [.agg (Tk.cs ⟨k, (b :: r).take n, i⟩), .int .i64 0]
theorem zhj {p : UInt8 → Bool} (b : UInt8) (r : List UInt8) : (b :: r).take ((r.takeWhile p).length + 1) = b :: r.takeWhile p := by
 rw [List.take_succ_cons]
 congr 1
 induction r with
 | nil => simp
 | cons c r ih => by_cases h : p c = true <;> simp [h, ih]
theorem zvs : zdq tP zfn = true := by kernel_rfl
theorem zvt : zdq tP zdZ = true := by kernel_rfl
theorem zpT {H J : zaa} {K : AV → zaa → Prop} {k p e : Int} {t : List UInt8} (hs : HSc H) (h : K (.tup [.agg [.int .i64 k, .str t, .int .i64 p], .int .i64 e]) H) :
  Out H.length K (.tup [.agg [.int .i64 k, .str t, .int .i64 p], .int .i64 e]) (H ++ J) := Out.tup hs h ⟨za4 rfl rfl, za4 rfl rfl, trivial⟩
def zhN (t4 t6 : AV) (H : zaa) (K : AV → zaa → Prop) : Prop :=
 zaf 1 t6 fun t69 =>
 zad false 1 t69 H fun t70 =>
 ACalls tP zfo [t70] H fun t71 H =>
 aUn .not t71 fun t72 =>
 zag t72
 (zav [(.int .i64 0), (.str []), (.int .i64 0)] [(0, 1), (1, 1), (2, 1)] [] fun t73 =>
 zak 3 t4 t73 H fun H =>
 zad true 3 t4 H fun r0 =>
 zax [r0, (.int .i64 9)] (K · H))
 (zeM t4 t6 H K)
theorem zwo (s : List UInt8) (hl : s.length ≤ 1000000) (i : Nat) (hi : i < s.length) (H : zaa) (K : AV → zaa → Prop) (hK : K (zhc (kwF kwds) s[i] (s.drop (i + 1)) i) H) : ACalls tP zkv [.str s, .int .i64 i] H K := by
 refine ACalls.out (zy5 fun hs => ?_)
 have hdr := List.drop_eq_getElem_cons hi
 have hrl : (s.drop i).length ≤ 1000000 := by simp; omega
 generalize hb : s[i] = b at *
 generalize hr : s.drop (i + 1) = r at *
 have hb' : s[i]?.getD 0 = b := by simp [hi, hb]
 have post : ∀ (k : Int) (n : Nat), tok (kwF kwds) b r = .ok (k, n) → ∀ t, (b :: r).take n = t → zeM (.ptr H.length 0) (.ptr (H.length + 1) 0) (H ++ [.cells [.int .i64 0, .str [], .int .i64 0], .cells [.int .i64 k, .str t, .int .i64 i]]) (Out H.length K) := by
  intro k n ht t hte
  subst hte
  simp [zhc, ht, Tk.cs] at hK
  simp [zeM, zrD, AV.known, AV.isV]
  exact zpT hs hK
 have bad : ∀ e : Int, tok (kwF kwds) b r = .error e → ∀ J, Out H.length K (.tup [.agg [.int .i64 0, .str [], .int .i64 0], .int .i64 e]) (H ++ J) := by
  intro e ht J
  simp [zhc, ht] at hK
  exact zpT hs hK
 have hi' := Nat.le_of_lt hi
 by_cases hLU : (zbs b || bUp b) = true
 ·have hin : bIn b = true := by simp [bIn, hLU]
  simp [zlT, hi, hb, hi', zav, zaU, AV.known]
  refine zkl b _ _ ?_
  have hc : zbs b = true ∨ (zbs b = false ∧ bUp b = true) := by cases hL : zbs b <;> simp [hL] at hLU ⊢; exact hLU
  have hpost := fun k => post k ((r.takeWhile bIn).length + 1)
  simp only [tok, hLU, if_true, zhj] at hpost
  rcases hc with hL | ⟨hL, hU⟩
  case' inl => simp [hL]
  case' inr => simp [hL]; refine zho b _ _ ?_; simp [hU]
  all_goals
   rw [hdr]
   refine zp8 bIn zfn zvs zxt (b :: r) (by rw [← hdr]; exact hrl) _ _ ?_
   simp [hin, AV.known]
   by_cases hn : (r.takeWhile bIn).length + 1 > 24
   ·have hn' : (24 : Int) < (r.takeWhile bIn).length + 1 := by omega
    have := bad 9 (by simp only [tok, hLU, if_true]; rw [if_pos hn])
    simp [hn', AV.known, AV.isV]
    exact this _
   ·have hn' : ¬ (24 : Int) < (r.takeWhile bIn).length + 1 := by omega
    simp [hn']
    refine zho b _ _ ?_
    rw [if_neg hn] at hpost
    cases hU : bUp b with
    | true =>
     simp [AV.known, zeL]
     exact hpost 2 (by simp [hU]) _ rfl
    | false =>
     simp [AV.known]
     refine zvq _ _ _ ?_
     cases hkw : kwF kwds (b :: r.takeWhile bIn) with
     | true =>
      simp [AV.known, zeL]
      exact hpost 4 (by simp [hU, hkw]) _ rfl
     | false =>
      simp [AV.known, zeL]
      exact hpost 1 (by simp [hU, hkw]) _ rfl
 ·have hL : zbs b = false := by simp at hLU; exact hLU.1
  have hU : bUp b = false := by simp at hLU; exact hLU.2
  simp [zlT, hi, hb, zav, zaU, AV.known]
  refine zkl b _ _ ?_
  simp [hL]
  refine zho b _ _ ?_
  simp [hU]
  refine zj8 b _ _ ?_
  cases hD : zaH b with
  | true =>
   simp [hi', AV.known]
   rw [hdr]
   refine zp8 zaH zdZ zvt zj8 (b :: r) (by rw [← hdr]; exact hrl) _ _ ?_
   have e1 : ((b.toNat : Int) == 48) = (b == 48) := zbT b 48
   have htk : tok (kwF kwds) b r = if (b == 48 && decide ((r.takeWhile zaH).length + 1 > 1)) = true then .error 2 else if zbD (b :: r.takeWhile zaH) 0 = true then .ok (3, (r.takeWhile zaH).length + 1) else .error 9 := by
    simp only [tok, hLU, hD, if_true, zhj]
    rfl
   have hsm : ∀ J, ACalls tP zfo [.str (b :: r.takeWhile zaH)] (H ++ J) fun t H' => t = .bool (zbD (b :: r.takeWhile zaH) 0) ∧ H' = H ++ J := by
    intro J
    refine zwC _ ?_ ?_ _ _ ⟨rfl, rfl⟩
    ·intro c hc
     rcases List.mem_cons.1 hc with rfl | hc
     ·exact hD
     ·exact List.all_eq_true.1 (List.all_takeWhile) c hc
    ·have h1 : (r.takeWhile zaH).length ≤ r.length := (List.takeWhile_sublist _).length_le
     rw [hdr] at hrl
     simp at hrl ⊢
     omega
   simp [hD, AV.known, e1]
   have hpost := post 3 ((r.takeWhile zaH).length + 1)
   rw [zhj] at hpost
   rw [htk] at hpost bad
   have last : ∀ J, (¬ (b == 48 && decide ((r.takeWhile zaH).length + 1 > 1)) = true) → J = [.cells [.int .i64 0, .str [], .int .i64 0], .cells [.int .i64 3, .str (b :: r.takeWhile zaH), .int .i64 i]] → zhN (.ptr H.length 0) (.ptr (H.length + 1) 0) (H ++ J) (Out H.length K) := by
    rintro J hne rfl
    rw [if_neg hne] at hpost bad
    simp [zhN]
    refine (hsm _).mono ?_
    rintro _ _ ⟨rfl, rfl⟩
    cases hv : zbD (b :: r.takeWhile zaH) 0 with
    | true =>
     simp
     exact hpost (by simp [hv]) _ rfl
    | false =>
     simp [AV.known, zav, zaU, AV.isV]
     exact bad 9 (by simp [hv]) _
   cases hz : (b == 48) with
   | true =>
    simp [hz]
    by_cases hn : 1 < (r.takeWhile zaH).length + 1
    ·have hn' : (1 : Int) < (r.takeWhile zaH).length + 1 := by omega
     have hd : decide ((r.takeWhile zaH).length + 1 > 1) = true := decide_eq_true hn
     have := bad 2 (by rw [hz, hd]; rfl)
     simp [hn', AV.known, AV.isV]
     exact this _
    ·have hn' : ¬ (1 : Int) < (r.takeWhile zaH).length + 1 := by omega
     have hd : decide ((r.takeWhile zaH).length + 1 > 1) = false := decide_eq_false hn
     have := last _ (by rw [hz, hd]; decide) rfl
     simp [zhN, zav, zaU] at this
     simp [hn']
     exact this
   | false =>
    have := last _ (by simp [hz]) rfl
    simp [zhN, zav, zaU] at this
    simp [hz]
    exact this
  | false => 
   simp [hi', AV.known]
   rw [hdr]
   refine zwz b r _ _ ?_
   simp [AV.known]
   have htk : tok (kwF kwds) b r = if sgn (b :: r) = 0 then .error 2 else .ok (5, sgn (b :: r)) := by
    simp only [tok, hLU, hD]
    rfl
   by_cases hz : sgn (b :: r) = 0
   ·have := bad 2 (by rw [htk, if_pos hz])
    simp [hz, AV.isV]
    exact this _
   ·have := post 5 (sgn (b :: r)) (by rw [htk, if_neg hz]) _ rfl
    have he : (List.take (sgn (b :: r)) (b :: r)).isEmpty = false := by
     cases h : sgn (b :: r) with
     | zero => exact absurd h hz
     | succ n => simp
    simp [he]
    exact this
end Go.Proofs.YtacebbdfgbfgiaaGreat
