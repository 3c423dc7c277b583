import Derived.Test.YtacebbdfgbfgiaaGreatKNum
import Derived.Test.YtacebbdfgbfgiaaGreatProg
import Derived.KernelRfl
import Derived.Test.YtacebbdfgbfgiaaGreatTK
import Derived.Test.YtacebbdfgbfgiaaGreatKGY3
set_option linter.unusedSimpArgs false
set_option linter.unusedVariables false
namespace Go.Proofs.YtacebbdfgbfgiaaGreat
open Go Go.Abs
set_option maxRecDepth 100000
def zdU : Nat → List Bool
 | 5 => rl false [0,1,4,2,54]
 | 9 => rl false [0,1,4,2,54]
 | _ => []
noncomputable def zkT : Code := Tryz.f122.body.getD .skip
noncomputable def zwA : List ResultVar := Tryz.f122.results.toList
def zex (t0 t5 t6 : AV) : List AV := t0 :: ux 4 (t5 :: t6 :: ux 54 [])
def zpQ : List Bool := zdU 5
noncomputable def zkU : Code := zap [1, 0, 1, 1, 1, 1, 0, 0, 0] zkT
def zpN (K : Kt) : AExit → List AV → zaa → Prop := zaq tP zdU [1, 0, 1, 1, 1, 1, 0, 0] zkT (zax tP zwA K)
def zg9 (t0 t5 t6 : AV) (H : zaa) (K : Kt) : Prop := ALoop tP zkU (zpN K) (zex t0 t5 t6) H
def zey (t0 t5 t6 : AV) (H : zaa) (K : Kt) (Kb5 : Lt) : Prop :=
 Kb5 (zex t0 t5 t6) H
def zg7 (t0 t5 t6 : AV) : List AV := t0 :: ux 4 (t5 :: t6 :: ux 54 [])
def zwy : List Bool := zdU 9
noncomputable def zwv : Code := zap [1, 0, 1, 0, 1, 0, 0, 0, 0] zkU
def zwu (K : Kt) (Kb5 : Lt) : AExit → List AV → zaa → Prop := zaq tP zdU [1, 0, 1, 0, 1, 0, 0, 0] zkU (zby zpQ Kb5 (zpN K))
def zpP (t0 t5 t6 : AV) (H : zaa) (K : Kt) (Kb5 : Lt) : Prop := ALoop tP zwv (zwu K Kb5) (zg7 t0 t5 t6) H
def zpO (t0 t5 : AV) (H : zaa) (K : Kt) : Prop :=
 zah 0 t0 fun t57 =>
 zav [(.int .i64 0), (.str []), (.int .i64 0)] [(0, 1), (1, 1), (2, 1)] [(0, (.int .i64 6)), (2, t57)] fun t58 =>
 zaw 3 [(.int .i64 0), (.str []), (.int .i64 0)] 1 [(0, t58)] fun t59 =>
 zar zdg 3 32 t5 t59 H fun t60 H =>
 zas [t60, (.int .i64 0), (.int .i64 0)] (K · H)
def zg8 (t0 t5 : AV) (H : zaa) (K : Kt) : Prop :=
 zpO t0 t5 H K
def zkS (t0 t5 t6 : AV) (H : zaa) (K : Kt) (Kb5 : Lt) (Kb9 : Lt) : Prop :=
 zah 0 t0 fun t28 =>
 zac .lss false t6 t28 fun t29 =>
 zag t29
 (za7 t0 t6 fun t34 =>
 zac .eql false t34 (.int .u8 10) fun t35 =>
 zag t35
 (zey t0 t5 t6 H K Kb5)
 (zac .add false t6 (.int .i64 1) fun t31 =>
 Kb9 (zg7 t0 t5 t31) H))
 (zg8 t0 t5 H K)
def zkR (t0 t5 t6 : AV) (H : zaa) (K : Kt) (Kb5 : Lt) : Prop :=
 zah 0 t0 fun t14 =>
 zac .lss false t6 t14 fun t15 =>
 zag t15
 (za7 t0 t6 fun t18 =>
 ACalls tP zjC [t18] H fun t19 H =>
 zag t19
 (zac .add false t6 (.int .i64 1) fun t21 =>
 zey t0 t5 t21 H K Kb5)
 (za7 t0 t6 fun t24 =>
 zac .eql false t24 (.int .u8 35) fun t25 =>
 zag t25
 (zpP t0 t5 t6 H K Kb5)
 (ACalls tP zjD [t0, t6] H fun t39 H =>
 zat t39 0 fun t40 =>
 zat t39 1 fun t41 =>
 zau [(.int .i64 0), (.str []), (.int .i64 0)] H fun t7 H =>
 zak 3 t7 t40 H fun H =>
 zac .neq false t41 (.int .i64 0) fun t43 =>
 zag t43
 (zas [.snil, t6, t41] (K · H))
 (zad true 3 t7 H fun t47 =>
 zaw 3 [(.int .i64 0), (.str []), (.int .i64 0)] 1 [(0, t47)] fun t48 =>
 zar zdg 3 32 t5 t48 H fun t49 H =>
 zaf 1 t7 fun t51 =>
 zad false 1 t51 H fun t52 =>
 zah 0 t52 fun t53 =>
 zac .add false t6 t53 fun t54 =>
 zey t0 t49 t54 H K Kb5))))
 (zg8 t0 t5 H K)
def zkQ (t0 : AV) (H : zaa) (K : Kt) : Prop :=
 zah 0 t0 fun t10 =>
 zac .gtr false t10 (.int .i64 16384) fun t11 =>
 zag t11
 (zas [.snil, (.int .i64 0), (.int .i64 9)] (K · H))
 (zg9 t0 .snil (.int .i64 0) H K)
theorem zwx {t0 t5 t6 : AV} {H : zaa} {K : Kt} {Kb5 : Lt} (Inv : Nat → AV → zaa → Prop) (n : Nat) (h0 : HSc H → Inv n t6 H)
  (round : Rd1 (fun t6 => zg7 t0 t5 t6) (fun t6 => fun H Kb9 => zkS t0 t5 t6 H K Kb5 Kb9) H Inv) : zpP t0 t5 t6 H K Kb5 :=
 lp1 (M := zdU) zwy t6 (by kernel_rfl) Inv n h0 round
theorem zww {t0 t5 t6 : AV} {H : zaa} {K : Kt} (Inv : Nat → AV → AV → zaa → Prop) (n : Nat) (h0 : HSc H → Inv n t5 t6 H)
  (round : Rd2 (fun t5 => fun t6 => zex t0 t5 t6) (fun t5 => fun t6 => fun H Kb5 => zkR t0 t5 t6 H K Kb5) H Inv) : zg9 t0 t5 t6 H K :=
 lp2 (M := zdU) zpQ t5 t6 (by kernel_rfl) Inv n h0 round
theorem zwz {t0 : AV} {H : zaa} {K : Kt} (h : HSc H → zkQ t0 H K) : ACalls tP zjA [t0] H K :=
 zal (M := zdU) Tryz.func122 (c := zkT) (by kernel_rfl) (fun hs => Eq.mpr (by kernel_rfl) (h hs))
def zcc : Nat → List Bool
 | 5 => rl false [0,1,4,2,193]
 | 10 => rl false [0,1,4,2,193]
 | 18 => rl false [0,1,4,4,191]
 | 29 => rl false [0,1,4,4,191]
 | _ => []
noncomputable def zkF : Code := Tryz.f103.body.getD .skip
noncomputable def zvJ : List ResultVar := Tryz.f103.results.toList
def zdT (t0 t5 t6 : AV) : List AV := t0 :: ux 4 (t5 :: t6 :: ux 193 [])
def zgX : List Bool := zcc 5
noncomputable def zdS : Code := zap [1, 1, 1, 0, 1, 0, 0] zkF
def zgR (K : Kt) : AExit → List AV → zaa → Prop := zaq tP zcc [1, 1, 1, 0, 1, 0] zkF (zax tP zvJ K)
def zgW (t0 t5 t6 : AV) (H : zaa) (K : Kt) : Prop := ALoop tP zdS (zgR K) (zdT t0 t5 t6) H
def zdt (t0 t5 t6 : AV) (H : zaa) (K : Kt) (Kb5 : Lt) : Prop :=
 Kb5 (zdT t0 t5 t6) H
def zgU (t0 t5 t6 : AV) : List AV := t0 :: ux 4 (t5 :: t6 :: ux 193 [])
def zvF : List Bool := zcc 10
noncomputable def zvy : Code := zap [1, 0, 1, 1, 0, 1, 0, 0, 0, 0] zdS
def zvv (K : Kt) (Kb5 : Lt) : AExit → List AV → zaa → Prop := zaq tP zcc [1, 0, 1, 1, 0, 1, 0, 0, 0] zdS (zby zgX Kb5 (zgR K))
def zpy (t0 t5 t6 : AV) (H : zaa) (K : Kt) (Kb5 : Lt) : Prop := ALoop tP zvy (zvv K Kb5) (zgU t0 t5 t6) H
def zkC (t0 t5 t6 : AV) (H : zaa) (K : Kt) (Kb5 : Lt) (Kb10 : Lt) : Prop :=
 zah 0 t0 fun t42 =>
 zac .lss false t6 t42 fun t43 =>
 zab t43 true H (fun K' => K' t0 H) fun t45 H =>
 zab t43 true H (fun K' => K' t6 H) fun t46 H =>
 zab t43 true H (fun K' => za7 t45 t46 (K' · H)) fun t47 H =>
 zab t43 true H (fun K' => zac .neq false t47 (.int .u8 10) (K' · H)) fun t48 H =>
 zai t43 t48 (.bool false) fun t49 =>
 zag t49
 (zac .add false t6 (.int .i64 1) fun t51 =>
 Kb10 (zgU t0 t5 t51) H)
 (zdt t0 t5 t6 H K Kb5)
def zfs (t0 t5 t6 t7 t8 : AV) : List AV := t0 :: ux 4 (t5 :: t6 :: t7 :: t8 :: ux 191 [])
def zvG : List Bool := zcc 18
noncomputable def zvz : Code := zap [1, 0, 1, 1, 1, 1, 0, 0, 1, 0, 0, 0, 0] zdS
def zvw (K : Kt) (Kb5 : Lt) : AExit → List AV → zaa → Prop := zaq tP zcc [1, 0, 1, 1, 1, 1, 0, 0, 1, 0, 0, 0] zdS (zby zgX Kb5 (zgR K))
def zkG (t0 t5 t6 t7 t8 : AV) (H : zaa) (K : Kt) (Kb5 : Lt) : Prop := ALoop tP zvz (zvw K Kb5) (zfs t0 t5 t6 t7 t8) H
def zft (t0 t5 t6 t8 : AV) (H : zaa) (K : Kt) (Kb5 : Lt) : Prop :=
 zac .add false t6 t8 fun t193 =>
 zdt t0 t5 t193 H K Kb5
def zdv (t0 t5 t6 t8 : AV) (H : zaa) (K : Kt) (Kb5 : Lt) : Prop :=
 zft t0 t5 t6 t8 H K Kb5
def zdu (t0 t5 t6 t8 t9 : AV) (H : zaa) (K : Kt) (Kb5 : Lt) : Prop :=
 zac .add false t6 t8 fun t135 =>
 zaC 0 0 t0 (some t6) (some t135) fun t136 =>
 zav [(.int .i64 0), (.str []), (.int .i64 0)] [(0, 1), (1, 1), (2, 1)] [(0, t9), (1, t136), (2, t6)] fun t138 =>
 zaw 3 [(.int .i64 0), (.str []), (.int .i64 0)] 1 [(0, t138)] fun t139 =>
 zar zaT 3 32 t5 t139 H fun t140 H =>
 zdv t0 t140 t6 t8 H K Kb5
def zkD (t0 t5 t6 t7 t8 : AV) (H : zaa) (K : Kt) (Kb5 : Lt) (Kb18 : Lt) : Prop :=
 zac .add false t6 t8 fun t79 =>
 zah 0 t0 fun t81 =>
 zac .lss false t79 t81 fun t82 =>
 zab t82 true H (fun K' => K' t0 H) fun t84 H =>
 zab t82 true H (fun K' => K' t6 H) fun t85 H =>
 zab t82 true H (fun K' => K' t8 H) fun t86 H =>
 zab t82 true H (fun K' => zac .add false t85 t86 (K' · H)) fun t87 H =>
 zab t82 true H (fun K' => za7 t84 t87 (K' · H)) fun t88 H =>
 zab t82 true H (fun K' => ACalls tP zfZ [t88] H K') fun t89 H =>
 zab t82 true H (fun K' => K' t89 H) fun t90 H =>
 zab t90 false H (fun K' => K' t0 H) fun t91 H =>
 zab t90 false H (fun K' => K' t6 H) fun t92 H =>
 zab t90 false H (fun K' => K' t8 H) fun t93 H =>
 zab t90 false H (fun K' => zac .add false t92 t93 (K' · H)) fun t94 H =>
 zab t90 false H (fun K' => za7 t91 t94 (K' · H)) fun t95 H =>
 zab t90 false H (fun K' => ACalls tP zeh [t95] H K') fun t96 H =>
 zab t82 true H (fun K' => zai t90 (.bool true) t96 (K' · H)) fun t97 H =>
 zab t82 true H (fun K' => K' t97 H) fun t98 H =>
 zab t98 false H (fun K' => K' t0 H) fun t99 H =>
 zab t98 false H (fun K' => K' t6 H) fun t100 H =>
 zab t98 false H (fun K' => K' t8 H) fun t101 H =>
 zab t98 false H (fun K' => zac .add false t100 t101 (K' · H)) fun t102 H =>
 zab t98 false H (fun K' => za7 t99 t102 (K' · H)) fun t103 H =>
 zab t98 false H (fun K' => ACalls tP ze3 [t103] H K') fun t104 H =>
 zab t82 true H (fun K' => zai t98 (.bool true) t104 (K' · H)) fun t105 H =>
 zab t82 true H (fun K' => K' t105 H) fun t106 H =>
 zab t106 false H (fun K' => K' t0 H) fun t107 H =>
 zab t106 false H (fun K' => K' t6 H) fun t108 H =>
 zab t106 false H (fun K' => K' t8 H) fun t109 H =>
 zab t106 false H (fun K' => zac .add false t108 t109 (K' · H)) fun t110 H =>
 zab t106 false H (fun K' => za7 t107 t110 (K' · H)) fun t111 H =>
 zab t106 false H (fun K' => zac .eql false t111 (.int .u8 95) (K' · H)) fun t112 H =>
 zab t82 true H (fun K' => zai t106 (.bool true) t112 (K' · H)) fun t113 H =>
 zai t82 t113 (.bool false) fun t114 =>
 zag t114
 (zac .add false t8 (.int .i64 1) fun t116 =>
 Kb18 (zfs t0 t5 t6 t7 t116) H)
 (zac .gtr false t8 (.int .i64 24) fun t118 =>
 zag t118
 (zas [.snil, t6, (.int .i64 9)] (K · H))
 (ACalls tP zeh [t7] H fun t121 H =>
 zag t121
 (zdu t0 t5 t6 t8 (.int .i64 2) H K Kb5)
 (zac .add false t6 t8 fun t126 =>
 zaC 0 0 t0 (some t6) (some t126) fun t127 =>
 ACalls tP zf0 [t127] H fun t128 H =>
 zag t128
 (zdu t0 t5 t6 t8 (.int .i64 4) H K Kb5)
 (zdu t0 t5 t6 t8 (.int .i64 1) H K Kb5))))
def zgV (t0 t5 t6 t7 t8 : AV) : List AV := t0 :: ux 4 (t5 :: t6 :: t7 :: t8 :: ux 191 [])
def zvH : List Bool := zcc 29
noncomputable def zvA : Code := zap [1, 0, 1, 1, 1, 1, 0, 0, 1, 1, 1, 0, 0, 0, 0] zdS
def zvx (K : Kt) (Kb5 : Lt) : AExit → List AV → zaa → Prop := zaq tP zcc [1, 0, 1, 1, 1, 1, 0, 0, 1, 1, 1, 0, 0, 0] zdS (zby zgX Kb5 (zgR K))
def zkH (t0 t5 t6 t7 t8 : AV) (H : zaa) (K : Kt) (Kb5 : Lt) : Prop := ALoop tP zvA (zvx K Kb5) (zgV t0 t5 t6 t7 t8) H
def zkE (t0 t5 t6 t7 t8 : AV) (H : zaa) (K : Kt) (Kb5 : Lt) (Kb29 : Lt) : Prop :=
 zac .add false t6 t8 fun t146 =>
 zah 0 t0 fun t148 =>
 zac .lss false t146 t148 fun t149 =>
 zab t149 true H (fun K' => K' t0 H) fun t151 H =>
 zab t149 true H (fun K' => K' t6 H) fun t152 H =>
 zab t149 true H (fun K' => K' t8 H) fun t153 H =>
 zab t149 true H (fun K' => zac .add false t152 t153 (K' · H)) fun t154 H =>
 zab t149 true H (fun K' => za7 t151 t154 (K' · H)) fun t155 H =>
 zab t149 true H (fun K' => ACalls tP ze3 [t155] H K') fun t156 H =>
 zai t149 t156 (.bool false) fun t157 =>
 zag t157
 (zac .add false t8 (.int .i64 1) fun t159 =>
 Kb29 (zgV t0 t5 t6 t7 t159) H)
 (zac .gtr false t8 (.int .i64 1) fun t161 =>
 zab t161 true H (fun K' => K' t7 H) fun t163 H =>
 zab t161 true H (fun K' => zac .eql false t163 (.int .u8 48) (K' · H)) fun t164 H =>
 zai t161 t164 (.bool false) fun t165 =>
 zag t165
 (zas [.snil, t6, (.int .i64 2)] (K · H))
 (zac .add false t6 t8 fun t172 =>
 zaC 0 0 t0 (some t6) (some t172) fun t173 =>
 ACalls tP zei [t173] H fun t174 H =>
 zat t174 0 fun t175 =>
 zat t174 1 fun t176 =>
 aUn .not t176 fun t178 =>
 zag t178
 (zas [.snil, t6, (.int .i64 9)] (K · H))
 (zac .add false t6 t8 fun t185 =>
 zaC 0 0 t0 (some t6) (some t185) fun t186 =>
 zav [(.int .i64 0), (.str []), (.int .i64 0)] [(0, 1), (1, 1), (2, 1)] [(0, (.int .i64 3)), (1, t186), (2, t6)] fun t188 =>
 zaw 3 [(.int .i64 0), (.str []), (.int .i64 0)] 1 [(0, t188)] fun t189 =>
 zar zaT 3 32 t5 t189 H fun t190 H =>
 zdv t0 t190 t6 t8 H K Kb5)))
def zgS (t0 t5 t6 : AV) (H : zaa) (K : Kt) (Kb5 : Lt) : Prop :=
 zah 0 t0 fun t17 =>
 zac .lss false t6 t17 fun t18 =>
 zag t18
 (za7 t0 t6 fun t21 =>
 zac .eql false t21 (.int .u8 9) fun t23 =>
 zab t23 false H (fun K' => K' t21 H) fun t25 H =>
 zab t23 false H (fun K' => zac .eql false t25 (.int .u8 10) (K' · H)) fun t26 H =>
 zai t23 (.bool true) t26 fun t27 =>
 zab t27 false H (fun K' => K' t21 H) fun t29 H =>
 zab t27 false H (fun K' => zac .eql false t29 (.int .u8 13) (K' · H)) fun t30 H =>
 zai t27 (.bool true) t30 fun t31 =>
 zab t31 false H (fun K' => K' t21 H) fun t33 H =>
 zab t31 false H (fun K' => zac .eql false t33 (.int .u8 32) (K' · H)) fun t34 H =>
 zai t31 (.bool true) t34 fun t35 =>
 zag t35
 (zac .add false t6 (.int .i64 1) fun t37 =>
 zdt t0 t5 t37 H K Kb5)
 (zac .eql false t21 (.int .u8 35) fun t39 =>
 zag t39
 (zpy t0 t5 t6 H K Kb5)
 (ACalls tP zfZ [t21] H fun t72 H =>
 zab t72 false H (fun K' => K' t21 H) fun t74 H =>
 zab t72 false H (fun K' => ACalls tP zeh [t74] H K') fun t75 H =>
 zai t72 (.bool true) t75 fun t76 =>
 zag t76
 (zkG t0 t5 t6 t21 (.int .i64 1) H K Kb5)
 (ACalls tP ze3 [t21] H fun t143 H =>
 zag t143
 (zkH t0 t5 t6 t21 (.int .i64 1) H K Kb5)
 (zaC 0 0 t0 (some t6) none fun t54 =>
 ACalls tP zjy [t54] H fun t55 H =>
 zac .eql false t55 (.int .i64 0) fun t57 =>
 zag t57
 (zas [.snil, t6, (.int .i64 2)] (K · H))
 (zac .add false t6 t55 fun t64 =>
 zaC 0 0 t0 (some t6) (some t64) fun t65 =>
 zav [(.int .i64 0), (.str []), (.int .i64 0)] [(0, 1), (1, 1), (2, 1)] [(0, (.int .i64 5)), (1, t65), (2, t6)] fun t67 =>
 zaw 3 [(.int .i64 0), (.str []), (.int .i64 0)] 1 [(0, t67)] fun t68 =>
 zar zaT 3 32 t5 t68 H fun t69 H =>
 zdv t0 t69 t6 t55 H K Kb5))))))
 (zah 0 t0 fun t196 =>
 zav [(.int .i64 0), (.str []), (.int .i64 0)] [(0, 1), (1, 1), (2, 1)] [(0, (.int .i64 6)), (1, (.str [])), (2, t196)] fun t197 =>
 zaw 3 [(.int .i64 0), (.str []), (.int .i64 0)] 1 [(0, t197)] fun t198 =>
 zar zaT 3 32 t5 t198 H fun t199 H =>
 zas [t199, (.int .i64 0), (.int .i64 0)] (K · H))
def zkB (t0 : AV) (H : zaa) (K : Kt) : Prop :=
 zah 0 t0 fun t13 =>
 zac .gtr false t13 (.int .i64 16384) fun t14 =>
 zag t14
 (zas [.snil, (.int .i64 0), (.int .i64 9)] (K · H))
 (zgW t0 .snil (.int .i64 0) H K)
theorem zvB {t0 t5 t6 : AV} {H : zaa} {K : Kt} {Kb5 : Lt} (Inv : Nat → AV → zaa → Prop) (n : Nat) (h0 : HSc H → Inv n t6 H)
  (round : Rd1 (fun t6 => zgU t0 t5 t6) (fun t6 => fun H Kb10 => zkC t0 t5 t6 H K Kb5 Kb10) H Inv) : zpy t0 t5 t6 H K Kb5 :=
 lp1 (M := zcc) zvF t6 (by kernel_rfl) Inv n h0 round
theorem zvC {t0 t5 t6 t7 t8 : AV} {H : zaa} {K : Kt} {Kb5 : Lt} (Inv : Nat → AV → zaa → Prop) (n : Nat) (h0 : HSc H → Inv n t8 H)
  (round : Rd1 (fun t8 => zfs t0 t5 t6 t7 t8) (fun t8 => fun H Kb18 => zkD t0 t5 t6 t7 t8 H K Kb5 Kb18) H Inv) : zkG t0 t5 t6 t7 t8 H K Kb5 :=
 lp1 (M := zcc) zvG t8 (by kernel_rfl) Inv n h0 round
theorem zvD {t0 t5 t6 t7 t8 : AV} {H : zaa} {K : Kt} {Kb5 : Lt} (Inv : Nat → AV → zaa → Prop) (n : Nat) (h0 : HSc H → Inv n t8 H)
  (round : Rd1 (fun t8 => zgV t0 t5 t6 t7 t8) (fun t8 => fun H Kb29 => zkE t0 t5 t6 t7 t8 H K Kb5 Kb29) H Inv) : zkH t0 t5 t6 t7 t8 H K Kb5 :=
 lp1 (M := zcc) zvH t8 (by kernel_rfl) Inv n h0 round
theorem zvE {t0 t5 t6 : AV} {H : zaa} {K : Kt} (Inv : Nat → AV → AV → zaa → Prop) (n : Nat) (h0 : HSc H → Inv n t5 t6 H)
  (round : Rd2 (fun t5 => fun t6 => zdT t0 t5 t6) (fun t5 => fun t6 => fun H Kb5 => zgS t0 t5 t6 H K Kb5) H Inv) : zgW t0 t5 t6 H K :=
 lp2 (M := zcc) zgX t5 t6 (by kernel_rfl) Inv n h0 round
theorem zvI {t0 : AV} {H : zaa} {K : Kt} (h : HSc H → zkB t0 H K) : ACalls tP zjv [t0] H K :=
 zal (M := zcc) Tryz.func103 (c := zkF) (by kernel_rfl) (fun hs => Eq.mpr (by kernel_rfl) (h hs))
def zwP (_ : Nat) : List Bool := []
noncomputable def zwQ : Code := Tryz.f135.body.getD .skip
def zpV (t0 : AV) (H : zaa) (K : Kt) : Prop :=
 zac .eql false t0 (.int .u8 9) fun t4 =>
 zab t4 false H (fun K' => K' t0 H) fun t6 H =>
 zab t4 false H (fun K' => zac .eql false t6 (.int .u8 10) (K' · H)) fun t7 H =>
 zai t4 (.bool true) t7 fun t8 =>
 zab t8 false H (fun K' => K' t0 H) fun t10 H =>
 zab t8 false H (fun K' => zac .eql false t10 (.int .u8 13) (K' · H)) fun t11 H =>
 zai t8 (.bool true) t11 fun t12 =>
 zab t12 false H (fun K' => K' t0 H) fun t14 H =>
 zab t12 false H (fun K' => zac .eql false t14 (.int .u8 32) (K' · H)) fun t15 H =>
 zai t12 (.bool true) t15 fun t16 =>
 K t16 H
theorem zwR {t0 : AV} {H : zaa} {K : Kt} (h : HSc H → zpV t0 H K) : ACalls tP zjC [t0] H K :=
 zal (M := zwP) Tryz.func135 (c := zwQ) (by kernel_rfl) (fun hs => Eq.mpr (by kernel_rfl) (h hs))
def zwS (_ : Nat) : List Bool := []
noncomputable def zwT : Code := Tryz.f136.body.getD .skip
def zpW (t4 t6 : AV) (H : zaa) (K : Kt) : Prop :=
 zad true 3 t6 H fun t74 =>
 zak 3 t4 t74 H fun H =>
 zad true 3 t4 H fun r0 =>
 zas [r0, (.int .i64 0)] (K · H)
def zeA (t4 t6 : AV) (H : zaa) (K : Kt) : Prop :=
 zpW t4 t6 H K
def zez (t4 t6 : AV) (H : zaa) (K : Kt) : Prop :=
 zeA t4 t6 H K
def zkX (t0 t1 : AV) (H : zaa) (K : Kt) : Prop :=
 zau [(.int .i64 0), (.str []), (.int .i64 0)] H fun t4 H =>
 zav [(.int .i64 0), (.str []), (.int .i64 0)] [(0, 1), (1, 1), (2, 1)] [(2, t1)] fun t9 =>
 zau [(.int .i64 0), (.str []), (.int .i64 0)] H fun t6 H =>
 zak 3 t6 t9 H fun H =>
 za7 t0 t1 fun t12 =>
 ACalls tP zf4 [t12] H fun t25 H =>
 zab t25 false H (fun K' => K' t12 H) fun t27 H =>
 zab t25 false H (fun K' => ACalls tP ze4 [t27] H K') fun t28 H =>
 zai t25 (.bool true) t28 fun t29 =>
 zag t29
 (zaC 0 0 t0 (some t1) none fun t32 =>
 ACalls tP zf5 [t32, (.fn ze5 [])] H fun t33 H =>
 zaf 1 t6 fun t34 =>
 zak 1 t34 t33 H fun H =>
 zaf 1 t6 fun t37 =>
 zad false 1 t37 H fun t38 =>
 zah 0 t38 fun t39 =>
 zac .gtr false t39 (.int .i64 24) fun t40 =>
 zag t40
 (zav [(.int .i64 0), (.str []), (.int .i64 0)] [(0, 1), (1, 1), (2, 1)] [] fun t41 =>
 zak 3 t4 t41 H fun H =>
 zad true 3 t4 H fun r0 =>
 zas [r0, (.int .i64 9)] (K · H))
 (ACalls tP ze4 [t12] H fun t44 H =>
 zag t44
 (zaf 0 t6 fun t45 =>
 zak 1 t45 (.int .i64 2) H fun H =>
 zez t4 t6 H K)
 (zaf 1 t6 fun t47 =>
 zad false 1 t47 H fun t48 =>
 ACalls tP zjE [t48] H fun t49 H =>
 zag t49
 (zaf 0 t6 fun t50 =>
 zak 1 t50 (.int .i64 4) H fun H =>
 zez t4 t6 H K)
 (zaf 0 t6 fun t35 =>
 zak 1 t35 (.int .i64 1) H fun H =>
 zez t4 t6 H K))))
 (ACalls tP zdM [t12] H fun t53 H =>
 zag t53
 (zaf 0 t6 fun t54 =>
 zak 1 t54 (.int .i64 3) H fun H =>
 zaC 0 0 t0 (some t1) none fun t57 =>
 ACalls tP zf5 [t57, (.fn zdM [])] H fun t58 H =>
 zaf 1 t6 fun t59 =>
 zak 1 t59 t58 H fun H =>
 zac .eql false t12 (.int .u8 48) fun t61 =>
 zab t61 true H (fun K' => zaf 1 t6 (K' · H)) fun t63 H =>
 zab t61 true H (fun K' => zad false 1 t63 H (K' · H)) fun t64 H =>
 zab t61 true H (fun K' => zah 0 t64 (K' · H)) fun t65 H =>
 zab t61 true H (fun K' => zac .gtr false t65 (.int .i64 1) (K' · H)) fun t66 H =>
 zai t61 t66 (.bool false) fun t67 =>
 zag t67
 (zav [(.int .i64 0), (.str []), (.int .i64 0)] [(0, 1), (1, 1), (2, 1)] [] fun t68 =>
 zak 3 t4 t68 H fun H =>
 zad true 3 t4 H fun r0 =>
 zas [r0, (.int .i64 2)] (K · H))
 (zaf 1 t6 fun t69 =>
 zad false 1 t69 H fun t70 =>
 ACalls tP ze6 [t70] H fun t71 H =>
 aUn .not t71 fun t72 =>
 zag t72
 (zav [(.int .i64 0), (.str []), (.int .i64 0)] [(0, 1), (1, 1), (2, 1)] [] fun t73 =>
 zak 3 t4 t73 H fun H =>
 zad true 3 t4 H fun r0 =>
 zas [r0, (.int .i64 9)] (K · H))
 (zeA t4 t6 H K)))
 (zaf 0 t6 fun t13 =>
 zak 1 t13 (.int .i64 5) H fun H =>
 zaC 0 0 t0 (some t1) none fun t16 =>
 ACalls tP zjF [t16] H fun t17 H =>
 zaf 1 t6 fun t18 =>
 zak 1 t18 t17 H fun H =>
 zaf 1 t6 fun t19 =>
 zad false 1 t19 H fun t20 =>
 zac .eql false t20 (.str []) fun t21 =>
 zag t21
 (zav [(.int .i64 0), (.str []), (.int .i64 0)] [(0, 1), (1, 1), (2, 1)] [] fun t22 =>
 zak 3 t4 t22 H fun H =>
 zad true 3 t4 H fun r0 =>
 zas [r0, (.int .i64 2)] (K · H))
 (zeA t4 t6 H K)))
theorem zwU {t0 t1 : AV} {H : zaa} {K : Kt} (h : HSc H → zkX t0 t1 H K) : ACalls tP zjD [t0, t1] H K :=
 zal (M := zwS) Tryz.func136 (c := zwT) (by kernel_rfl) (fun hs => Eq.mpr (by kernel_rfl) (h hs))
def zv0 (_ : Nat) : List Bool := []
noncomputable def zv1 : Code := Tryz.f116.body.getD .skip
def zpG (t0 : AV) (H : zaa) (K : Kt) : Prop :=
 zac .geq false t0 (.int .u8 97) fun t4 =>
 zab t4 true H (fun K' => K' t0 H) fun t6 H =>
 zab t4 true H (fun K' => zac .leq false t6 (.int .u8 122) (K' · H)) fun t7 H =>
 zai t4 t7 (.bool false) fun t8 =>
 K t8 H
theorem zv2 {t0 : AV} {H : zaa} {K : Kt} (h : HSc H → zpG t0 H K) : ACalls tP zfZ [t0] H K :=
 zal (M := zv0) Tryz.func116 (c := zv1) (by kernel_rfl) (fun hs => Eq.mpr (by kernel_rfl) (h hs))
def zv3 (_ : Nat) : List Bool := []
noncomputable def zv4 : Code := Tryz.f117.body.getD .skip
def zpH (t0 : AV) (H : zaa) (K : Kt) : Prop :=
 zac .geq false t0 (.int .u8 65) fun t4 =>
 zab t4 true H (fun K' => K' t0 H) fun t6 H =>
 zab t4 true H (fun K' => zac .leq false t6 (.int .u8 90) (K' · H)) fun t7 H =>
 zai t4 t7 (.bool false) fun t8 =>
 K t8 H
theorem zv5 {t0 : AV} {H : zaa} {K : Kt} (h : HSc H → zpH t0 H K) : ACalls tP zeh [t0] H K :=
 zal (M := zv3) Tryz.func117 (c := zv4) (by kernel_rfl) (fun hs => Eq.mpr (by kernel_rfl) (h hs))
def zv6 (_ : Nat) : List Bool := []
noncomputable def zv7 : Code := Tryz.f118.body.getD .skip
def zpI (t0 : AV) (H : zaa) (K : Kt) : Prop :=
 zac .geq false t0 (.int .u8 48) fun t4 =>
 zab t4 true H (fun K' => K' t0 H) fun t6 H =>
 zab t4 true H (fun K' => zac .leq false t6 (.int .u8 57) (K' · H)) fun t7 H =>
 zai t4 t7 (.bool false) fun t8 =>
 K t8 H
theorem zv8 {t0 : AV} {H : zaa} {K : Kt} (h : HSc H → zpI t0 H K) : ACalls tP ze3 [t0] H K :=
 zal (M := zv6) Tryz.func118 (c := zv7) (by kernel_rfl) (fun hs => Eq.mpr (by kernel_rfl) (h hs))
def zgZ : Nat → List Bool
 | 3 => rl false [0,1,2,2,13]
 | _ => []
noncomputable def zkK : Code := Tryz.f119.body.getD .skip
noncomputable def zwe : List ResultVar := Tryz.f119.results.toList
def zg1 (t0 t3 t4 : AV) : List AV := t0 :: ux 2 (t3 :: t4 :: ux 13 [])
def zwc : List Bool := zgZ 3
noncomputable def zwa : Code := zap [1, 1, 0, 1, 0, 0] zkK
def zv9 (K : Kt) : AExit → List AV → zaa → Prop := zaq tP zgZ [1, 1, 0, 1, 0] zkK (zax tP zwe K)
def zkL (t0 t3 t4 : AV) (H : zaa) (K : Kt) : Prop := ALoop tP zwa (zv9 K) (zg1 t0 t3 t4) H
def zg0 (t0 t3 t4 : AV) (H : zaa) (K : Kt) (Kb3 : Lt) : Prop :=
 zah 1 t3 fun t8 =>
 zac .lss false t4 t8 fun t9 =>
 zag t9
 (zaj 1 t3 t4 fun t14 =>
 zad false 1 t14 H fun t15 =>
 zac .eql false t15 t0 fun t17 =>
 zag t17
 (K (.bool true) H)
 (zac .add false t4 (.int .i64 1) fun t11 =>
 Kb3 (zg1 t0 t3 t11) H))
 (K (.bool false) H)
def zpJ (t0 : AV) (H : zaa) (K : Kt) : Prop :=
 zaw 1 [(.str [])] 28 [(0, (.str [97, 114, 114, 97, 121])), (1, (.str [98, 111, 111, 108])), (2, (.str [99, 97, 116, 99, 104])), (3, (.str [100, 97, 116, 97])), (4, (.str [101, 108, 115, 101])), (5, (.str [101, 110, 100])), (6, (.str [102, 97, 108, 115, 101])), (7, (.str [102, 110])), (8, (.str [102, 117, 110])), (9, (.str [103, 101, 116])), (10, (.str [105, 102])), (11, (.str [105, 110])), (12, (.str [105, 110, 116])), (13, (.str [108, 101, 110])), (14, (.str [108, 101, 116])), (15, (.str [109, 97, 116, 99, 104])), (16, (.str [110, 101, 119])), (17, (.str [114, 97, 105, 115, 101])), (18, (.str [114, 101, 97, 100])), (19, (.str [114, 101, 102])), (20, (.str [115, 101, 116])), (21, (.str [116, 104, 101, 110])), (22, (.str [116, 105, 99, 107])), (23, (.str [116, 114, 117, 101])), (24, (.str [116, 114, 121])), (25, (.str [117, 110, 105, 116])), (26, (.str [119, 105, 116, 104])), (27, (.str [119, 114, 105, 116, 101]))] fun t5 =>
 zkL t0 t5 (.int .i64 0) H K
theorem zwb {t0 t3 t4 : AV} {H : zaa} {K : Kt} (Inv : Nat → AV → zaa → Prop) (n : Nat) (h0 : HSc H → Inv n t4 H)
  (round : Rd1 (fun t4 => zg1 t0 t3 t4) (fun t4 => fun H Kb3 => zg0 t0 t3 t4 H K Kb3) H Inv) : zkL t0 t3 t4 H K :=
 lp1 (M := zgZ) zwc t4 (by kernel_rfl) Inv n h0 round
theorem zwd {t0 : AV} {H : zaa} {K : Kt} (h : HSc H → zpJ t0 H K) : ACalls tP zf0 [t0] H K :=
 zal (M := zgZ) Tryz.func119 (c := zkK) (by kernel_rfl) (fun hs => Eq.mpr (by kernel_rfl) (h hs))
def zg2 : Nat → List Bool
 | 3 => rl false [0,1,3,2,17]
 | _ => []
noncomputable def zkN : Code := Tryz.f120.body.getD .skip
noncomputable def zwk : List ResultVar := Tryz.f120.results.toList
def zg3 (t0 t4 t5 : AV) : List AV := t0 :: ux 3 (t4 :: t5 :: ux 17 [])
def zwi : List Bool := zg2 3
noncomputable def zwg : Code := zap [1, 1, 0, 1, 0, 0] zkN
def zwf (K : Kt) : AExit → List AV → zaa → Prop := zaq tP zg2 [1, 1, 0, 1, 0] zkN (zax tP zwk K)
def zpL (t0 t4 t5 : AV) (H : zaa) (K : Kt) : Prop := ALoop tP zwg (zwf K) (zg3 t0 t4 t5) H
def zkM (t0 t4 t5 : AV) (H : zaa) (K : Kt) (Kb3 : Lt) : Prop :=
 zah 0 t0 fun t8 =>
 zac .lss false t5 t8 fun t9 =>
 zag t9
 (zac .mul false t4 (.int .i64 10) fun t13 =>
 za7 t0 t5 fun t16 =>
 zac .sub false t16 (.int .u8 48) fun t17 =>
 zcf .i64 t17 fun t18 =>
 zac .add false t13 t18 fun t19 =>
 zac .gtr false t19 (.int .i64 1000000) fun t21 =>
 zag t21
 (zas [(.int .i64 0), (.bool false)] (K · H))
 (zac .add false t5 (.int .i64 1) fun t11 =>
 Kb3 (zg3 t0 t19 t11) H))
 (zas [t4, (.bool true)] (K · H))
def zpK (t0 : AV) (H : zaa) (K : Kt) : Prop :=
 zpL t0 (.int .i64 0) (.int .i64 0) H K
theorem zwh {t0 t4 t5 : AV} {H : zaa} {K : Kt} (Inv : Nat → AV → AV → zaa → Prop) (n : Nat) (h0 : HSc H → Inv n t4 t5 H)
  (round : Rd2 (fun t4 => fun t5 => zg3 t0 t4 t5) (fun t4 => fun t5 => fun H Kb3 => zkM t0 t4 t5 H K Kb3) H Inv) : zpL t0 t4 t5 H K :=
 lp2 (M := zg2) zwi t4 t5 (by kernel_rfl) Inv n h0 round
theorem zwj {t0 : AV} {H : zaa} {K : Kt} (h : HSc H → zpK t0 H K) : ACalls tP zei [t0] H K :=
 zal (M := zg2) Tryz.func120 (c := zkN) (by kernel_rfl) (fun hs => Eq.mpr (by kernel_rfl) (h hs))
def zg4 : Nat → List Bool
 | 5 => rl false [0,1,2,2,30]
 | _ => []
noncomputable def zkO : Code := Tryz.f121.body.getD .skip
noncomputable def zwq : List ResultVar := Tryz.f121.results.toList
def zg6 (t0 t3 t4 : AV) : List AV := t0 :: ux 2 (t3 :: t4 :: ux 30 [])
def zwo : List Bool := zg4 5
noncomputable def zwm : Code := zap [1, 1, 1, 0, 1, 0, 0] zkO
def zwl (K : Kt) : AExit → List AV → zaa → Prop := zaq tP zg4 [1, 1, 1, 0, 1, 0] zkO (zax tP zwq K)
def zkP (t0 t3 t4 : AV) (H : zaa) (K : Kt) : Prop := ALoop tP zwm (zwl K) (zg6 t0 t3 t4) H
def zg5 (t0 t3 t4 : AV) (H : zaa) (K : Kt) (Kb5 : Lt) : Prop :=
 zah 0 t3 fun t25 =>
 zac .lss false t4 t25 fun t26 =>
 zag t26
 (zae H (fun K' => K' t0 H) fun t29 =>
 zae H (fun K' => za7 t29 (.int .i64 0) (K' · H)) fun t30 =>
 zae H (fun K' => K' t3 H) fun t31 =>
 zae H (fun K' => K' t4 H) fun t32 =>
 zae H (fun K' => za7 t31 t32 (K' · H)) fun t33 =>
 zae H (fun K' => zac .eql false t30 t33 (K' · H)) fun t34 =>
 zag t34
 (K (.int .i64 1) H)
 (zac .add false t4 (.int .i64 1) fun t28 =>
 Kb5 (zg6 t0 t3 t28) H))
 (K (.int .i64 0) H)
def zew (t0 : AV) (H : zaa) (K : Kt) : Prop :=
 zah 0 t0 fun t6 =>
 zac .geq false t6 (.int .i64 2) fun t7 =>
 zab t7 true H (fun K' => K' t0 H) fun t9 H =>
 zab t7 true H (fun K' => zaC 0 0 t9 none (some (.int .i64 2)) (K' · H)) fun t10 H =>
 zab t7 true H (fun K' => zac .eql false t10 (.str [45, 62]) (K' · H)) fun t11 H =>
 zab t7 true H (fun K' => K' t11 H) fun t12 H =>
 zab t12 false H (fun K' => K' t0 H) fun t13 H =>
 zab t12 false H (fun K' => zaC 0 0 t13 none (some (.int .i64 2)) (K' · H)) fun t14 H =>
 zab t12 false H (fun K' => zac .eql false t14 (.str [60, 61]) (K' · H)) fun t15 H =>
 zab t7 true H (fun K' => zai t12 (.bool true) t15 (K' · H)) fun t16 H =>
 zab t7 true H (fun K' => K' t16 H) fun t17 H =>
 zab t17 false H (fun K' => K' t0 H) fun t18 H =>
 zab t17 false H (fun K' => zaC 0 0 t18 none (some (.int .i64 2)) (K' · H)) fun t19 H =>
 zab t17 false H (fun K' => zac .eql false t19 (.str [61, 61]) (K' · H)) fun t20 H =>
 zab t7 true H (fun K' => zai t17 (.bool true) t20 (K' · H)) fun t21 H =>
 zai t7 t21 (.bool false) fun t22 =>
 zag t22
 (K (.int .i64 2) H)
 (zkP t0 (.str [40, 41, 44, 61, 124, 43, 45, 42, 47, 37, 60, 59, 95]) (.int .i64 0) H K)
theorem zwn {t0 t3 t4 : AV} {H : zaa} {K : Kt} (Inv : Nat → AV → zaa → Prop) (n : Nat) (h0 : HSc H → Inv n t4 H)
  (round : Rd1 (fun t4 => zg6 t0 t3 t4) (fun t4 => fun H Kb5 => zg5 t0 t3 t4 H K Kb5) H Inv) : zkP t0 t3 t4 H K :=
 lp1 (M := zg4) zwo t4 (by kernel_rfl) Inv n h0 round
theorem zwp {t0 : AV} {H : zaa} {K : Kt} (h : HSc H → zew t0 H K) : ACalls tP zjy [t0] H K :=
 zal (M := zg4) Tryz.func121 (c := zkO) (by kernel_rfl) (fun hs => Eq.mpr (by kernel_rfl) (h hs))
def zwY (_ : Nat) : List Bool := []
noncomputable def zwZ : Code := Tryz.f141.body.getD .skip
def zpY (t0 : AV) (H : zaa) (K : Kt) : Prop :=
 zac .geq false t0 (.int .u8 97) fun t4 =>
 zab t4 true H (fun K' => K' t0 H) fun t6 H =>
 zab t4 true H (fun K' => zac .leq false t6 (.int .u8 122) (K' · H)) fun t7 H =>
 zai t4 t7 (.bool false) fun t8 =>
 K t8 H
theorem zw0 {t0 : AV} {H : zaa} {K : Kt} (h : HSc H → zpY t0 H K) : ACalls tP zf4 [t0] H K :=
 zal (M := zwY) Tryz.func141 (c := zwZ) (by kernel_rfl) (fun hs => Eq.mpr (by kernel_rfl) (h hs))
def zw7 (_ : Nat) : List Bool := []
noncomputable def zw8 : Code := Tryz.f142.body.getD .skip
def zp0 (t0 : AV) (H : zaa) (K : Kt) : Prop :=
 zac .geq false t0 (.int .u8 65) fun t4 =>
 zab t4 true H (fun K' => K' t0 H) fun t6 H =>
 zab t4 true H (fun K' => zac .leq false t6 (.int .u8 90) (K' · H)) fun t7 H =>
 zai t4 t7 (.bool false) fun t8 =>
 K t8 H
theorem zw9 {t0 : AV} {H : zaa} {K : Kt} (h : HSc H → zp0 t0 H K) : ACalls tP ze4 [t0] H K :=
 zal (M := zw7) Tryz.func142 (c := zw8) (by kernel_rfl) (fun hs => Eq.mpr (by kernel_rfl) (h hs))
def zhg : Nat → List Bool
 | 2 => rl false [0,2,3,1,16]
 | _ => []
noncomputable def zk1 : Code := Tryz.f143.body.getD .skip
noncomputable def zxf : List ResultVar := Tryz.f143.results.toList
def zhh (t0 t1 t5 : AV) : List AV := t0 :: t1 :: ux 3 (t5 :: ux 16 [])
def zxd : List Bool := zhg 2
noncomputable def zxb : Code := zap [1, 1, 0, 0, 0] zk1
def zxa (K : Kt) : AExit → List AV → zaa → Prop := zaq tP zhg [1, 1, 0, 0] zk1 (zax tP zxf K)
def zp2 (t0 t1 t5 : AV) (H : zaa) (K : Kt) : Prop := ALoop tP zxb (zxa K) (zhh t0 t1 t5) H
def zk0 (t0 t1 t5 : AV) (H : zaa) (K : Kt) (Kb2 : Lt) : Prop :=
 zah 0 t0 fun t8 =>
 zac .lss false t5 t8 fun t9 =>
 zab t9 true H (fun K' => K' t1 H) fun t11 H =>
 zab t9 true H (fun K' => K' t0 H) fun t12 H =>
 zab t9 true H (fun K' => K' t5 H) fun t13 H =>
 zab t9 true H (fun K' => za7 t12 t13 (K' · H)) fun t14 H =>
 zab t9 true H (fun K' => aCallV tP t11 [t14] H K') fun t15 H =>
 zai t9 t15 (.bool false) fun t16 =>
 zag t16
 (zac .add false t5 (.int .i64 1) fun t18 =>
 Kb2 (zhh t0 t1 t18) H)
 (zaC 0 0 t0 none (some t5) fun t21 =>
 K t21 H)
def zp1 (t0 t1 : AV) (H : zaa) (K : Kt) : Prop :=
 zp2 t0 t1 (.int .i64 0) H K
theorem zxc {t0 t1 t5 : AV} {H : zaa} {K : Kt} (Inv : Nat → AV → zaa → Prop) (n : Nat) (h0 : HSc H → Inv n t5 H)
  (round : Rd1 (fun t5 => zhh t0 t1 t5) (fun t5 => fun H Kb2 => zk0 t0 t1 t5 H K Kb2) H Inv) : zp2 t0 t1 t5 H K :=
 lp1 (M := zhg) zxd t5 (by kernel_rfl) Inv n h0 round
theorem zxe {t0 t1 : AV} {H : zaa} {K : Kt} (h : HSc H → zp1 t0 t1 H K) : ACalls tP zf5 [t0, t1] H K :=
 zal (M := zhg) Tryz.func143 (c := zk1) (by kernel_rfl) (fun hs => Eq.mpr (by kernel_rfl) (h hs))
def zxg (_ : Nat) : List Bool := []
noncomputable def zxh : Code := Tryz.f144.body.getD .skip
def zp3 (t0 : AV) (H : zaa) (K : Kt) : Prop :=
 ACalls tP zf4 [t0] H fun t4 H =>
 zab t4 false H (fun K' => K' t0 H) fun t6 H =>
 zab t4 false H (fun K' => ACalls tP ze4 [t6] H K') fun t7 H =>
 zai t4 (.bool true) t7 fun t8 =>
 zab t8 false H (fun K' => K' t0 H) fun t10 H =>
 zab t8 false H (fun K' => ACalls tP zdM [t10] H K') fun t11 H =>
 zai t8 (.bool true) t11 fun t12 =>
 zab t12 false H (fun K' => K' t0 H) fun t14 H =>
 zab t12 false H (fun K' => zac .eql false t14 (.int .u8 95) (K' · H)) fun t15 H =>
 zai t12 (.bool true) t15 fun t16 =>
 K t16 H
theorem zxi {t0 : AV} {H : zaa} {K : Kt} (h : HSc H → zp3 t0 H K) : ACalls tP ze5 [t0] H K :=
 zal (M := zxg) Tryz.func144 (c := zxh) (by kernel_rfl) (fun hs => Eq.mpr (by kernel_rfl) (h hs))
def zxj (_ : Nat) : List Bool := []
noncomputable def zxk : Code := Tryz.f145.body.getD .skip
def zaQ (t4 : AV) (H : zaa) (K : Kt) : Prop :=
 zag t4
 (K (.bool true) H)
 (K (.bool false) H)
def zp4 (t0 : AV) (H : zaa) (K : Kt) : Prop :=
 zac .eql false t0 (.str [97, 114, 114, 97, 121]) fun t5 =>
 zag t5
 (zaQ t5 H K)
 (zac .eql false t0 (.str [98, 111, 111, 108]) fun t6 =>
 zag t6
 (zaQ t6 H K)
 (zac .eql false t0 (.str [99, 97, 116, 99, 104]) fun t7 =>
 zag t7
 (zaQ t7 H K)
 (zac .eql false t0 (.str [100, 97, 116, 97]) fun t8 =>
 zag t8
 (zaQ t8 H K)
 (zac .eql false t0 (.str [101, 108, 115, 101]) fun t9 =>
 zag t9
 (zaQ t9 H K)
 (zac .eql false t0 (.str [101, 110, 100]) fun t10 =>
 zag t10
 (zaQ t10 H K)
 (zac .eql false t0 (.str [102, 97, 108, 115, 101]) fun t11 =>
 zag t11
 (zaQ t11 H K)
 (zac .eql false t0 (.str [102, 110]) fun t12 =>
 zag t12
 (zaQ t12 H K)
 (zac .eql false t0 (.str [102, 117, 110]) fun t13 =>
 zag t13
 (zaQ t13 H K)
 (zac .eql false t0 (.str [103, 101, 116]) fun t14 =>
 zag t14
 (zaQ t14 H K)
 (zac .eql false t0 (.str [105, 102]) fun t15 =>
 zag t15
 (zaQ t15 H K)
 (zac .eql false t0 (.str [105, 110]) fun t16 =>
 zag t16
 (zaQ t16 H K)
 (zac .eql false t0 (.str [105, 110, 116]) fun t17 =>
 zag t17
 (zaQ t17 H K)
 (zac .eql false t0 (.str [108, 101, 110]) fun t18 =>
 zag t18
 (zaQ t18 H K)
 (zac .eql false t0 (.str [108, 101, 116]) fun t19 =>
 zag t19
 (zaQ t19 H K)
 (zac .eql false t0 (.str [109, 97, 116, 99, 104]) fun t20 =>
 zag t20
 (zaQ t20 H K)
 (zac .eql false t0 (.str [110, 101, 119]) fun t21 =>
 zag t21
 (zaQ t21 H K)
 (zac .eql false t0 (.str [114, 97, 105, 115, 101]) fun t22 =>
 zag t22
 (zaQ t22 H K)
 (zac .eql false t0 (.str [114, 101, 97, 100]) fun t23 =>
 zag t23
 (zaQ t23 H K)
 (zac .eql false t0 (.str [114, 101, 102]) fun t24 =>
 zag t24
 (zaQ t24 H K)
 (zac .eql false t0 (.str [115, 101, 116]) fun t25 =>
 zag t25
 (zaQ t25 H K)
 (zac .eql false t0 (.str [116, 104, 101, 110]) fun t26 =>
 zag t26
 (zaQ t26 H K)
 (zac .eql false t0 (.str [116, 105, 99, 107]) fun t27 =>
 zag t27
 (zaQ t27 H K)
 (zac .eql false t0 (.str [116, 114, 117, 101]) fun t28 =>
 zag t28
 (zaQ t28 H K)
 (zac .eql false t0 (.str [116, 114, 121]) fun t29 =>
 zag t29
 (zaQ t29 H K)
 (zac .eql false t0 (.str [117, 110, 105, 116]) fun t30 =>
 zag t30
 (zaQ t30 H K)
 (zac .eql false t0 (.str [119, 105, 116, 104]) fun t31 =>
 zag t31
 (zaQ t31 H K)
 (zac .eql false t0 (.str [119, 114, 105, 116, 101]) fun t32 =>
 zaQ t32 H K)))))))))))))))))))))))))))
theorem zxl {t0 : AV} {H : zaa} {K : Kt} (h : HSc H → zp4 t0 H K) : ACalls tP zjE [t0] H K :=
 zal (M := zxj) Tryz.func145 (c := zxk) (by kernel_rfl) (fun hs => Eq.mpr (by kernel_rfl) (h hs))
def zxm (_ : Nat) : List Bool := []
noncomputable def zxn : Code := Tryz.f146.body.getD .skip
def zp5 (t0 : AV) (H : zaa) (K : Kt) : Prop :=
 zac .geq false t0 (.int .u8 48) fun t4 =>
 zab t4 true H (fun K' => K' t0 H) fun t6 H =>
 zab t4 true H (fun K' => zac .leq false t6 (.int .u8 57) (K' · H)) fun t7 H =>
 zai t4 t7 (.bool false) fun t8 =>
 K t8 H
theorem zxo {t0 : AV} {H : zaa} {K : Kt} (h : HSc H → zp5 t0 H K) : ACalls tP zdM [t0] H K :=
 zal (M := zxm) Tryz.func146 (c := zxn) (by kernel_rfl) (fun hs => Eq.mpr (by kernel_rfl) (h hs))
def zhi : Nat → List Bool
 | 3 => rl false [0,1,2,1,2,2,13]
 | _ => []
noncomputable def zk3 : Code := Tryz.f147.body.getD .skip
noncomputable def zxu : List ResultVar := Tryz.f147.results.toList
def zhj (t0 t3 t6 t7 : AV) : List AV := t0 :: ux 2 (t3 :: ux 2 (t6 :: t7 :: ux 13 []))
def zxs : List Bool := zhi 3
noncomputable def zxq : Code := zap [1, 1, 0, 1, 0, 0] zk3
def zxp (K : Kt) : AExit → List AV → zaa → Prop := zaq tP zhi [1, 1, 0, 1, 0] zk3 (zax tP zxu K)
def zp7 (t0 t3 t6 t7 : AV) (H : zaa) (K : Kt) : Prop := ALoop tP zxq (zxp K) (zhj t0 t3 t6 t7) H
def zk2 (t0 t3 t6 t7 : AV) (H : zaa) (K : Kt) (Kb3 : Lt) : Prop :=
 zac .lss false t7 t6 fun t8 =>
 zag t8
 (zac .mul false t3 (.int .i64 10) fun t11 =>
 za7 t0 t7 fun t14 =>
 zac .sub false t14 (.int .u8 48) fun t15 =>
 zcf .i64 t15 fun t16 =>
 zac .add false t11 t16 fun t17 =>
 zac .gtr false t17 (.int .i64 1000000) fun t19 =>
 zag t19
 (K (.bool false) H)
 (zac .add false t7 (.int .i64 1) fun t20 =>
 Kb3 (zhj t0 t17 t6 t20) H))
 (K (.bool true) H)
def zp6 (t0 : AV) (H : zaa) (K : Kt) : Prop :=
 zah 0 t0 fun t6 =>
 zp7 t0 (.int .i64 0) t6 (.int .i64 0) H K
theorem zxr {t0 t3 t6 t7 : AV} {H : zaa} {K : Kt} (Inv : Nat → AV → AV → zaa → Prop) (n : Nat) (h0 : HSc H → Inv n t3 t7 H)
  (round : Rd2 (fun t3 => fun t7 => zhj t0 t3 t6 t7) (fun t3 => fun t7 => fun H Kb3 => zk2 t0 t3 t6 t7 H K Kb3) H Inv) : zp7 t0 t3 t6 t7 H K :=
 lp2 (M := zhi) zxs t3 t7 (by kernel_rfl) Inv n h0 round
theorem zxt {t0 : AV} {H : zaa} {K : Kt} (h : HSc H → zp6 t0 H K) : ACalls tP ze6 [t0] H K :=
 zal (M := zhi) Tryz.func147 (c := zk3) (by kernel_rfl) (fun hs => Eq.mpr (by kernel_rfl) (h hs))
def zxv (_ : Nat) : List Bool := []
noncomputable def zxw : Code := Tryz.f148.body.getD .skip
def zbI (t0 t16 : AV) (H : zaa) (K : Kt) : Prop :=
 zag t16
 (zaC 0 0 t0 none (some (.int .i64 1)) fun t31 =>
 K t31 H)
 (K (.str []) H)
def zhk (t0 : AV) (H : zaa) (K : Kt) : Prop :=
 zaC 0 0 t0 none (some (.int .i64 1)) fun t15 =>
 zac .eql false t15 (.str [40]) fun t17 =>
 zag t17
 (zbI t0 t17 H K)
 (zac .eql false t15 (.str [41]) fun t18 =>
 zag t18
 (zbI t0 t18 H K)
 (zac .eql false t15 (.str [44]) fun t19 =>
 zag t19
 (zbI t0 t19 H K)
 (zac .eql false t15 (.str [61]) fun t20 =>
 zag t20
 (zbI t0 t20 H K)
 (zac .eql false t15 (.str [124]) fun t21 =>
 zag t21
 (zbI t0 t21 H K)
 (zac .eql false t15 (.str [43]) fun t22 =>
 zag t22
 (zbI t0 t22 H K)
 (zac .eql false t15 (.str [45]) fun t23 =>
 zag t23
 (zbI t0 t23 H K)
 (zac .eql false t15 (.str [42]) fun t24 =>
 zag t24
 (zbI t0 t24 H K)
 (zac .eql false t15 (.str [47]) fun t25 =>
 zag t25
 (zbI t0 t25 H K)
 (zac .eql false t15 (.str [37]) fun t26 =>
 zag t26
 (zbI t0 t26 H K)
 (zac .eql false t15 (.str [60]) fun t27 =>
 zag t27
 (zbI t0 t27 H K)
 (zac .eql false t15 (.str [59]) fun t28 =>
 zag t28
 (zbI t0 t28 H K)
 (zac .eql false t15 (.str [95]) fun t29 =>
 zbI t0 t29 H K))))))))))))
def zdV (t0 t8 : AV) (H : zaa) (K : Kt) : Prop :=
 zag t8
 (zaC 0 0 t0 none (some (.int .i64 2)) fun t13 =>
 K t13 H)
 (zhk t0 H K)
def zeB (t0 : AV) (H : zaa) (K : Kt) : Prop :=
 zah 0 t0 fun t4 =>
 zac .geq false t4 (.int .i64 2) fun t5 =>
 zag t5
 (zaC 0 0 t0 none (some (.int .i64 2)) fun t7 =>
 zac .eql false t7 (.str [45, 62]) fun t9 =>
 zag t9
 (zdV t0 t9 H K)
 (zac .eql false t7 (.str [60, 61]) fun t10 =>
 zag t10
 (zdV t0 t10 H K)
 (zac .eql false t7 (.str [61, 61]) fun t11 =>
 zdV t0 t11 H K)))
 (zhk t0 H K)
theorem zxx {t0 : AV} {H : zaa} {K : Kt} (h : HSc H → zeB t0 H K) : ACalls tP zjF [t0] H K :=
 zal (M := zxv) Tryz.func148 (c := zxw) (by kernel_rfl) (fun hs => Eq.mpr (by kernel_rfl) (h hs))
def zvK (_ : Nat) : List Bool := []
noncomputable def zvL : Code := Tryz.f104.body.getD .skip
def zpz (t0 : AV) (H : zaa) (K : Kt) : Prop :=
 ACalls tP zjA [t0] H fun t8 H =>
 zat t8 0 fun t9 =>
 zat t8 1 fun t10 =>
 zat t8 2 fun t11 =>
 zac .eql false t11 (.int .i64 0) fun t13 =>
 zab t13 true H (fun K' => K' t9 H) fun t15 H =>
 zab t13 true H (fun K' => zah 1 t15 (K' · H)) fun t16 H =>
 zab t13 true H (fun K' => zac .eql false t16 (.int .i64 2) (K' · H)) fun t17 H =>
 zai t13 t17 (.bool false) fun t18 =>
 zab t18 true H (fun K' => K' t9 H) fun t20 H =>
 zab t18 true H (fun K' => zaj 3 t20 (.int .i64 0) (K' · H)) fun t21 H =>
 zab t18 true H (fun K' => zaf 0 t21 (K' · H)) fun t22 H =>
 zab t18 true H (fun K' => zad false 1 t22 H (K' · H)) fun t23 H =>
 zab t18 true H (fun K' => zac .eql false t23 (.int .i64 2) (K' · H)) fun t24 H =>
 zai t18 t24 (.bool false) fun t25 =>
 zab t25 true H (fun K' => K' t9 H) fun t27 H =>
 zab t25 true H (fun K' => zaj 3 t27 (.int .i64 0) (K' · H)) fun t28 H =>
 zab t25 true H (fun K' => zaf 1 t28 (K' · H)) fun t29 H =>
 zab t25 true H (fun K' => zad false 1 t29 H (K' · H)) fun t30 H =>
 zab t25 true H (fun K' => K' t0 H) fun t31 H =>
 zab t25 true H (fun K' => zac .eql false t30 t31 (K' · H)) fun t32 H =>
 zai t25 t32 (.bool false) fun t33 =>
 K t33 H
theorem zvM {t0 : AV} {H : zaa} {K : Kt} (h : HSc H → zpz t0 H K) : ACalls tP zfX [t0] H K :=
 zal (M := zvK) Tryz.func104 (c := zvL) (by kernel_rfl) (fun hs => Eq.mpr (by kernel_rfl) (h hs))
def zBz (_ : Nat) : List Bool := []
noncomputable def zBA : Code := Tryz.f83.body.getD .skip
def zrt (t0 : AV) (H : zaa) (K : Kt) : Prop :=
 ACalls tP zjv [t0] H fun t8 H =>
 zat t8 0 fun t9 =>
 zat t8 1 fun t10 =>
 zat t8 2 fun t11 =>
 zac .eql false t11 (.int .i64 0) fun t13 =>
 zab t13 true H (fun K' => K' t9 H) fun t15 H =>
 zab t13 true H (fun K' => zah 1 t15 (K' · H)) fun t16 H =>
 zab t13 true H (fun K' => zac .eql false t16 (.int .i64 2) (K' · H)) fun t17 H =>
 zai t13 t17 (.bool false) fun t18 =>
 zab t18 true H (fun K' => K' t9 H) fun t20 H =>
 zab t18 true H (fun K' => zaj 3 t20 (.int .i64 0) (K' · H)) fun t21 H =>
 zab t18 true H (fun K' => zaf 0 t21 (K' · H)) fun t22 H =>
 zab t18 true H (fun K' => zad false 1 t22 H (K' · H)) fun t23 H =>
 zab t18 true H (fun K' => zac .eql false t23 (.int .i64 2) (K' · H)) fun t24 H =>
 zai t18 t24 (.bool false) fun t25 =>
 zab t25 true H (fun K' => K' t9 H) fun t27 H =>
 zab t25 true H (fun K' => zaj 3 t27 (.int .i64 0) (K' · H)) fun t28 H =>
 zab t25 true H (fun K' => zaf 1 t28 (K' · H)) fun t29 H =>
 zab t25 true H (fun K' => zad false 1 t29 H (K' · H)) fun t30 H =>
 zab t25 true H (fun K' => K' t0 H) fun t31 H =>
 zab t25 true H (fun K' => zac .eql false t30 t31 (K' · H)) fun t32 H =>
 zai t25 t32 (.bool false) fun t33 =>
 K t33 H
theorem zBB {t0 : AV} {H : zaa} {K : Kt} (h : HSc H → zrt t0 H K) : ACalls tP zgn [t0] H K :=
 zal (M := zBz) Tryz.func83 (c := zBA) (by kernel_rfl) (fun hs => Eq.mpr (by kernel_rfl) (h hs))
end Go.Proofs.YtacebbdfgbfgiaaGreat

namespace Go.Proofs.YtacebbdfgbfgiaaGreat
open Go Go.Abs
def kwds : List (List UInt8) := [[97, 114, 114, 97, 121], [98, 111, 111, 108], [99, 97, 116, 99, 104], [100, 97, 116, 97], [101, 108, 115, 101], [101, 110, 100], [102, 97, 108, 115, 101], [102, 110], [102, 117, 110], [103, 101, 116], [105, 102], [105, 110], [105, 110, 116], [108, 101, 110], [108, 101, 116], [109, 97, 116, 99, 104], [110, 101, 119], [114, 97, 105, 115, 101], [114, 101, 97, 100], [114, 101, 102], [115, 101, 116], [116, 104, 101, 110], [116, 105, 99, 107], [116, 114, 117, 101], [116, 114, 121], [117, 110, 105, 116], [119, 105, 116, 104], [119, 114, 105, 116, 101]]
def kwF (ws : List (List UInt8)) (s : List UInt8) : Bool := ws.any (s == ·)
theorem zb0 {H : zaa} {K : AV → zaa → Prop} {r : AV} (hsc : HSc H) (hv : r.isV = true) (hr : r.scV H.length = true) (h : K r H) : Out H.length K r H := by
 have := Out.same (J := []) rfl hsc hv hr h
 simpa using this
theorem zbG (b c : UInt8) : ((b.toNat : Int) == (c.toNat : Int)) = (b == c) := by
 rw [Bool.eq_iff_iff]
 simp only [beq_iff_eq]
 constructor
 ·intro h; exact UInt8.toNat_inj.mp (by omega)
 ·rintro rfl; rfl
theorem zn1 (b : UInt8) (H : zaa) (K : AV → zaa → Prop) (hK : K (.bool (zbj b)) H) : ACalls tP zfZ [.int .u8 b.toNat] H K := by
 refine ACalls.out (zv2 fun hs => ?_)
 have hO := zb0 (K := K) (H := H) (r := .bool (zbj b)) hs rfl rfl hK
 unfold zbj at hO
 cases h1 : decide (97 ≤ (b.toNat : Int)) <;> simp [zpG, h1] <;> simpa [h1] using hO
theorem zgM (b : UInt8) (H : zaa) (K : AV → zaa → Prop) (hK : K (.bool (bUp b)) H) : ACalls tP zeh [.int .u8 b.toNat] H K := by
 refine ACalls.out (zv5 fun hs => ?_)
 have hO := zb0 (K := K) (H := H) (r := .bool (bUp b)) hs rfl rfl hK
 unfold bUp at hO
 cases h1 : decide (65 ≤ (b.toNat : Int)) <;> simp [zpH, h1] <;> simpa [h1] using hO
theorem zjf (b : UInt8) (H : zaa) (K : AV → zaa → Prop) (hK : K (.bool (zaE b)) H) : ACalls tP ze3 [.int .u8 b.toNat] H K := by
 refine ACalls.out (zv8 fun hs => ?_)
 have hO := zb0 (K := K) (H := H) (r := .bool (zaE b)) hs rfl rfl hK
 unfold zaE at hO
 cases h1 : decide (48 ≤ (b.toNat : Int)) <;> simp [zpI, h1] <;> simpa [h1] using hO
theorem zju (b : UInt8) (H : zaa) (K : AV → zaa → Prop) (hK : K (.bool (zbj b)) H) : ACalls tP zf4 [.int .u8 b.toNat] H K := by
 refine ACalls.out (zw0 fun hs => ?_)
 have hO := zb0 (K := K) (H := H) (r := .bool (zbj b)) hs rfl rfl hK
 unfold zbj at hO
 cases h1 : decide (97 ≤ (b.toNat : Int)) <;> simp [zpY, h1] <;> simpa [h1] using hO
theorem zgN (b : UInt8) (H : zaa) (K : AV → zaa → Prop) (hK : K (.bool (bUp b)) H) : ACalls tP ze4 [.int .u8 b.toNat] H K := by
 refine ACalls.out (zw9 fun hs => ?_)
 have hO := zb0 (K := K) (H := H) (r := .bool (bUp b)) hs rfl rfl hK
 unfold bUp at hO
 cases h1 : decide (65 ≤ (b.toNat : Int)) <;> simp [zp0, h1] <;> simpa [h1] using hO
theorem zjg (b : UInt8) (H : zaa) (K : AV → zaa → Prop) (hK : K (.bool (zaE b)) H) : ACalls tP zdM [.int .u8 b.toNat] H K := by
 refine ACalls.out (zxo fun hs => ?_)
 have hO := zb0 (K := K) (H := H) (r := .bool (zaE b)) hs rfl rfl hK
 unfold zaE at hO
 cases h1 : decide (48 ≤ (b.toNat : Int)) <;> simp [zp5, h1] <;> simpa [h1] using hO
theorem zsU (b : UInt8) (H : zaa) (K : AV → zaa → Prop) (hK : K (.bool (zcl b)) H) : ACalls tP zjC [.int .u8 b.toNat] H K := by
 refine ACalls.out (zwR fun hs => ?_)
 have hO := zb0 (K := K) (H := H) (r := .bool (zcl b)) hs rfl rfl hK
 unfold zcl at hO
 have e1 : ((b.toNat : Int) == 9) = (b == 9) := zbG b 9
 have e2 : ((b.toNat : Int) == 10) = (b == 10) := zbG b 10
 have e3 : ((b.toNat : Int) == 13) = (b == 13) := zbG b 13
 have e4 : ((b.toNat : Int) == 32) = (b == 32) := zbG b 32
 cases h1 : (b == 9) <;> cases h2 : (b == 10) <;> cases h3 : (b == 13) <;> simp [zpV, e1, e2, e3, e4, h1, h2, h3] <;> simpa [h1, h2, h3] using hO
theorem zvo (b : UInt8) (H : zaa) (K : AV → zaa → Prop) (hK : K (.bool (bIn b)) H) : ACalls tP ze5 [.int .u8 b.toNat] H K := by
 refine ACalls.out (zxi fun hs => ?_)
 have hO := zb0 (K := K) (H := H) (r := .bool (bIn b)) hs rfl rfl hK
 unfold bIn at hO
 have e1 : ((b.toNat : Int) == 95) = (b == 95) := zbG b 95
 unfold zp3
 refine zju b _ _ ?_
 cases h1 : zbj b with
 | true => simp; simpa [h1] using hO
 | false =>
  simp
  refine zgN b _ _ ?_
  cases h2 : bUp b with
  | true => simp; simpa [h1, h2] using hO
  | false =>
   simp
   refine zjg b _ _ ?_
   cases h3 : zaE b with
   | true => simp; simpa [h1, h2, h3] using hO
   | false => simp [e1]; simpa [h1, h2, h3] using hO
theorem ztv (s : List UInt8) (H : zaa) (K : AV → zaa → Prop) (hK : K (.bool (kwF kwds s)) H) : ACalls tP zjE [.str s] H K := by
 refine ACalls.out (zxl fun hs => ?_)
 have hO := zb0 (K := K) (H := H) (r := .bool (kwF kwds s)) hs rfl rfl hK
 have step : ∀ (w : List UInt8) (ws : List (List UInt8)) (rest : Prop), (Out H.length K (.bool (kwF ws s)) H → rest) → Out H.length K (.bool (kwF (w :: ws) s)) H →
   zac .eql false (.str s) (.str w) fun t => zag t (zaQ t H (Out H.length K)) rest := by
  intro w ws rest h h'
  simp only [kwF, List.any_cons] at h h'
  cases e : (s == w) with
  | true => simpa [zaQ, e] using h'
  | false => rw [e, Bool.false_or] at h'; simpa [zaQ, e] using h h'
 unfold zp4
 revert hO
 unfold kwds
 iterate 27 refine step _ _ _ ?_
 intro h'
 simp only [kwF, List.any_cons, List.any_nil, Bool.or_false] at h'
 cases e : (s == [119, 114, 105, 116, 101]) <;> rw [e] at h' <;> simpa [zaQ, e] using h'
theorem ztw (s : List UInt8) (H : zaa) (K : AV → zaa → Prop) (hK : K (.bool (kwF kwds s)) H) : ACalls tP zf0 [.str s] H K := by
 refine ACalls.out (zwd fun hs => ?_)
 have hO := zb0 (K := K) (H := H) (r := .bool (kwF kwds s)) hs rfl rfl hK
 have e : zpJ (.str s) H (Out H.length K) = zkL (.str s) (.sl (kwds.map fun w => [.str w]) .full) (.int .i64 0) H (Out H.length K) := rfl
 rw [e]
 have hlen : kwds.length = 28 := rfl
 generalize kwds = ws at *
 refine zwb (Inv := fun q t4 H' => ∃ i : Nat, i ≤ ws.length ∧ q = ws.length - i ∧ t4 = .int .i64 i ∧ kwF (ws.drop i) s = kwF ws s ∧ H' = H) ws.length ?_ ?_
 ·intro _; exact ⟨0, by omega, by omega, rfl, by simp, rfl⟩
 ·rintro q t8 H' ⟨i, hi, rfl, rfl, ho, rfl⟩ hsc _ hsF Kb hKb
  by_cases hlt : i < ws.length
  ·rw [List.drop_eq_getElem_cons hlt] at ho
   simp only [kwF, List.any_cons] at ho
   cases hz : (ws[i] == s) with
   | true =>
    have hz' : (s == ws[i]) = true := by rw [beq_iff_eq] at hz ⊢; exact hz.symm
    rw [hz', Bool.true_or] at ho
    simp [zg0, hlt, hz]
    unfold kwF at hO
    rw [← ho] at hO
    exact hO
   | false =>
    have hz' : (s == ws[i]) = false := by rw [beq_eq_false_iff_ne] at hz ⊢; exact fun h => hz h.symm
    rw [hz', Bool.false_or] at ho
    simp [zg0, hlt, hz]
    rw [zan (by omega) (by omega)]
    refine hKb _ _ ⟨ws.length - (i + 1), by omega, Back.here (Nat.le_refl _) hs ?_ ⟨_, rfl, i + 1, by omega, rfl, by simp, ho, rfl⟩⟩
    simp [zg1, AV.sc, AV.scV, AV.scA, AV.scB]
  ·simp [zg0, hlt]
   obtain rfl : i = ws.length := by omega
   rw [List.drop_length] at ho
   rw [← ho] at hO
   exact hO
end Go.Proofs.YtacebbdfgbfgiaaGreat
namespace Go.Proofs.YtacebbdfgbfgiaaGreat
open Go Go.Abs
theorem znf {b : UInt8} (h : zaE b = true) : 48 ≤ (b.toNat : Int) ∧ (b.toNat : Int) ≤ 57 := by simpa [zaE] using h
theorem zuz (s : List UInt8) (hd : ∀ b ∈ s, zaE b = true) (hl : s.length ≤ 1000000) (H : zaa) (K : AV → zaa → Prop) (hK : K (.bool (zbu s 0)) H) : ACalls tP ze6 [.str s] H K := by
 refine ACalls.out (zxt fun hs => ?_)
 have hO := zb0 (K := K) (H := H) (r := .bool (zbu s 0)) hs rfl rfl hK
 simp [zp6]
 refine zxr (Inv := fun q t3 t7 H' => ∃ (i : Nat) (n : Int), i ≤ s.length ∧ q = s.length - i ∧ t7 = .int .i64 i ∧ t3 = .int .i64 n ∧ 0 ≤ n ∧ n ≤ 1000000 ∧ zbu (s.drop i) n = zbu s 0 ∧ H' = H) s.length ?_ ?_
 ·intro _; exact ⟨0, 0, by omega, by omega, rfl, rfl, by omega, by omega, by simp, rfl⟩
 ·rintro q t3 t7 H' ⟨i, n, hi, rfl, rfl, rfl, hn0, hn1, ho, rfl⟩ hsc _ hsF Kb hKb
  by_cases hlt : i < s.length
  ·have hb := znf (hd s[i] (List.getElem_mem hlt))
   rw [List.drop_eq_getElem_cons hlt, zbu] at ho
   simp [zk2, hlt]
   rw [IntWalk.u8_in _ (by omega), zan (n := n * 10) (by omega) (by omega), zan (n := (s[i].toNat : Int) - 48) (by omega) (by omega), zan (by omega) (by omega), zan (by omega) (by omega)]
   by_cases hg : 1000000 < n * 10 + ((s[i].toNat : Int) - 48)
   ·rw [if_pos hg] at ho
    have hg' : decide (1000000 < n * 10 + ((s[i].toNat : Int) - 48)) = true := by simpa using hg
    rw [← ho] at hO
    rw [hg']
    simpa using hO
   ·rw [if_neg hg] at ho
    have hg' : decide (1000000 < n * 10 + ((s[i].toNat : Int) - 48)) = false := by simpa using hg
    rw [hg']
    simp only [zm4, Bool.false_eq_true, if_false]
    refine hKb _ _ ⟨s.length - (i + 1), by omega, Back.here (Nat.le_refl _) hs ?_ ⟨_, _, rfl, i + 1, _, by omega, rfl, by simp, rfl, by omega, by omega, ho, rfl⟩⟩
    simp [zhj, AV.sc, AV.scV, AV.scA, AV.scB]
  ·simp [zk2, hlt]
   obtain rfl : i = s.length := by omega
   rw [List.drop_length, zbu] at ho
   rw [← ho] at hO
   exact hO
theorem zoE (cl : UInt8 → Bool) (f : FuncId) (hcl : zde tP f = true) (hf : ∀ (b : UInt8) (H : zaa) (K : AV → zaa → Prop), K (.bool (cl b)) H → ACalls tP f [.int .u8 b.toNat] H K)
  (s : List UInt8) (hl : s.length ≤ 1000000) (H : zaa) (K : AV → zaa → Prop) (hK : K (.str (s.takeWhile cl)) H) : ACalls tP zf5 [.str s, .fn f []] H K := by
 refine ACalls.out (zxe fun hs => ?_)
 have hO := zb0 (K := K) (H := H) (r := .str (s.takeWhile cl)) hs rfl rfl hK
 simp [zp1]
 refine zxc (Inv := fun q t5 H' => ∃ i : Nat, i ≤ s.length ∧ q = s.length - i ∧ t5 = .int .i64 i ∧ s.take i ++ (s.drop i).takeWhile cl = s.takeWhile cl ∧ H' = H) s.length ?_ ?_
 ·intro _; exact ⟨0, by omega, by omega, rfl, by simp, rfl⟩
 ·rintro q t5 H' ⟨i, hi, rfl, rfl, ho, rfl⟩ hsc _ hsF Kb hKb
  by_cases hlt : i < s.length
  ·rw [List.drop_eq_getElem_cons hlt, List.takeWhile_cons] at ho
   simp [zk0, hlt]
   simp only [aCallV, hcl, List.append_nil]
   refine hf _ _ _ ?_
   cases hc : cl s[i] with
   | true =>
    rw [hc, if_pos rfl, List.append_cons, ← List.take_succ_eq_append_getElem hlt] at ho
    simp
    rw [zan (by omega) (by omega)]
    refine hKb _ _ ⟨s.length - (i + 1), by omega, Back.here (Nat.le_refl _) hs ?_ ⟨_, rfl, i + 1, by omega, rfl, by simp, ho, rfl⟩⟩
    simp [zhh, AV.sc, AV.scV, AV.scA, AV.scB]
   | false =>
    rw [hc, if_neg (by simp), List.append_nil] at ho
    rw [← ho] at hO
    simp [hi]
    exact hO
  ·simp [zk0, hlt]
   obtain rfl : i = s.length := by omega
   rw [List.drop_length, List.takeWhile_nil, List.append_nil, List.take_length] at ho
   rw [← ho] at hO
   simpa using hO
theorem zvl (s : List UInt8) (hd : ∀ b ∈ s, zaE b = true) (hl : s.length ≤ 1000000) (H : zaa) (K : AV → zaa → Prop) (hK : ∀ n, K (.tup [.int .i64 n, .bool (zbu s 0)]) H) : ACalls tP zei [.str s] H K := by
 refine ACalls.out (zwj fun hs => ?_)
 have hO : ∀ n, Out H.length K (.tup [.int .i64 n, .bool (zbu s 0)]) H := fun n => Out.tup0 hs (hK n) ⟨zaM rfl rfl, zaM rfl rfl, trivial⟩
 simp only [zpK]
 refine zwh (Inv := fun q t3 t7 H' => ∃ (i : Nat) (n : Int), i ≤ s.length ∧ q = s.length - i ∧ t7 = .int .i64 i ∧ t3 = .int .i64 n ∧ 0 ≤ n ∧ n ≤ 1000000 ∧ zbu (s.drop i) n = zbu s 0 ∧ H' = H) s.length ?_ ?_
 ·intro _; exact ⟨0, 0, by omega, by omega, rfl, rfl, by omega, by omega, by simp, rfl⟩
 ·rintro q t3 t7 H' ⟨i, n, hi, rfl, rfl, rfl, hn0, hn1, ho, rfl⟩ hsc _ hsF Kb hKb
  by_cases hlt : i < s.length
  ·have hb := znf (hd s[i] (List.getElem_mem hlt))
   rw [List.drop_eq_getElem_cons hlt, zbu] at ho
   simp [zkM, hlt]
   rw [IntWalk.u8_in _ (by omega), zan (n := n * 10) (by omega) (by omega), zan (n := (s[i].toNat : Int) - 48) (by omega) (by omega), zan (by omega) (by omega), zan (by omega) (by omega)]
   by_cases hg : 1000000 < n * 10 + ((s[i].toNat : Int) - 48)
   ·rw [if_pos hg] at ho
    have hg' : decide (1000000 < n * 10 + ((s[i].toNat : Int) - 48)) = true := by simpa using hg
    rw [← ho] at hO
    rw [hg']
    simpa [AV.isV] using hO 0
   ·rw [if_neg hg] at ho
    have hg' : decide (1000000 < n * 10 + ((s[i].toNat : Int) - 48)) = false := by simpa using hg
    rw [hg']
    simp only [zm4, Bool.false_eq_true, if_false]
    refine hKb _ _ ⟨s.length - (i + 1), by omega, Back.here (Nat.le_refl _) hs ?_ ⟨_, _, rfl, i + 1, _, by omega, rfl, by simp, rfl, by omega, by omega, ho, rfl⟩⟩
    simp [zg3, AV.sc, AV.scV, AV.scA, AV.scB]
  ·simp [zkM, hlt, AV.isV]
   obtain rfl : i = s.length := by omega
   rw [List.drop_length, zbu] at ho
   rw [← ho] at hO
   exact hO n
theorem zvc (b : UInt8) (r : List UInt8) : (b :: r).take 1 = [b] := by simp
theorem zkm {s : List UInt8} (h : ¬ 2 ≤ s.length) : zcq s = false := by
 match s, h with
 | [], _ => rfl
 | [b], _ => simp [zcq]
 | _ :: _ :: _, h => simp at h
theorem zoU (b : UInt8) (r : List UInt8) (h : zcq (b :: r) = false) : sgn (b :: r) = if sgns.contains b = true then 1 else 0 := by simp [sgn, h]
theorem zuw (b : UInt8) (r : List UInt8) (H : zaa) (K : AV → zaa → Prop) (hK : K (.str ((b :: r).take (sgn (b :: r)))) H) : ACalls tP zjF [.str (b :: r)] H K := by
 refine ACalls.out (zxx fun hs => ?_)
 have hO := zb0 (K := K) (H := H) (r := .str ((b :: r).take (sgn (b :: r)))) hs rfl rfl hK
 have one : zcq (b :: r) = false → zhk (.str (b :: r)) H (Out H.length K) := by
  intro h2
  rw [zoU b r h2] at hO
  have hO : Out H.length K (.str (if sgns.contains b = true then [b] else [])) H := by
   cases hc : sgns.contains b <;> rw [hc] at hO <;> simpa using hO
  have step : ∀ (c : UInt8) (cs : List UInt8) (rest : Prop), (Out H.length K (.str (if cs.contains b = true then [b] else [])) H → rest) → Out H.length K (.str (if (c :: cs).contains b = true then [b] else [])) H →
    zac .eql false (.str [b]) (.str [c]) fun t => zag t (zbI (.str (b :: r)) t H (Out H.length K)) rest := by
   intro c cs rest h h'
   rw [List.contains_cons] at h'
   cases e : (b == c) with
   | true => rw [e] at h'; simpa [zbI, e] using h'
   | false =>
    rw [e, Bool.false_or] at h'
    simpa [zbI, e] using h h'
  unfold zhk
  simp only [zsD, zsy, zsx, Int.toNat_one, zvc, List.drop_zero]
  refine ⟨by decide, ⟨by omega, by simp⟩, ?_⟩
  revert hO
  unfold sgns
  iterate 12 refine step _ _ _ ?_
  intro h'
  rw [List.contains_cons] at h'
  cases e : (b == 95) <;> rw [e] at h' <;> simpa [zbI, e] using h'
 by_cases hl : 2 ≤ (b :: r).length
 ·have hl' : (2 : Int) ≤ r.length + 1 := by simp only [List.length_cons] at hl; omega
  have hl2 : 1 ≤ r.length := by simp only [List.length_cons] at hl; omega
  cases h2 : zcq (b :: r) with
  | true =>
   have h3 : sgn (b :: r) = 2 := by simp [sgn, h2]
   rw [h3] at hO
   unfold zcq at h2
   simp only [List.take_succ_cons] at h2 hO
   cases e1 : (b :: List.take 1 r == [45, 62]) with
   | true => simpa [zeB, hl', hl2, zdV, e1] using hO
   | false =>
    cases e2 : (b :: List.take 1 r == [60, 61]) with
    | true => simpa [zeB, hl', hl2, zdV, e1, e2] using hO
    | false =>
     rw [e1, e2] at h2
     simp only [Bool.false_or] at h2
     simpa [zeB, hl', hl2, zdV, e1, e2, h2] using hO
  | false =>
   have ho := one h2
   unfold zcq at h2
   simp only [List.take_succ_cons] at h2
   rw [Bool.or_eq_false_iff, Bool.or_eq_false_iff] at h2
   simpa [zeB, hl', hl2, zdV, h2.1.1, h2.1.2, h2.2] using ho
 ·have ho := one (zkm hl)
  have : ¬ ((2 : Int) ≤ r.length + 1) := by simp only [List.length_cons] at hl; omega
  simpa [zeB, this] using ho
end Go.Proofs.YtacebbdfgbfgiaaGreat
namespace Go.Proofs.YtacebbdfgbfgiaaGreat
open Go Go.Abs
set_option maxRecDepth 4000
theorem zuv (b : UInt8) (r : List UInt8) (H : zaa) (K : AV → zaa → Prop) (hK : K (.int .i64 (sgn (b :: r))) H) : ACalls tP zjy [.str (b :: r)] H K := by
 refine ACalls.out (zwp fun hs => ?_)
 have hO := zb0 (K := K) (H := H) (r := .int .i64 (sgn (b :: r))) hs rfl rfl hK
 have one : zcq (b :: r) = false → zkP (.str (b :: r)) (.str sgns) (.int .i64 0) H (Out H.length K) := by
  intro h2
  rw [zoU b r h2] at hO
  have hlen : sgns.length = 13 := rfl
  generalize sgns = ws at *
  refine zwn (Inv := fun q t4 H' => ∃ i : Nat, i ≤ ws.length ∧ q = ws.length - i ∧ t4 = .int .i64 i ∧ (ws.drop i).contains b = ws.contains b ∧ H' = H) ws.length ?_ ?_
  ·intro _; exact ⟨0, by omega, by omega, rfl, by simp, rfl⟩
  ·rintro q t8 H' ⟨i, hi, rfl, rfl, ho, rfl⟩ hsc _ hsF Kb hKb
   by_cases hlt : i < ws.length
   ·rw [List.drop_eq_getElem_cons hlt, List.contains_cons] at ho
    have e1 := zbG b ws[i]
    cases hz : (b == ws[i]) with
    | true =>
     rw [hz, Bool.true_or] at ho
     rw [← ho] at hO
     simpa [zg5, hlt, e1, hz] using hO
    | false =>
     rw [hz, Bool.false_or] at ho
     simp [zg5, hlt, e1, hz]
     rw [zan (by omega) (by omega)]
     refine hKb _ _ ⟨ws.length - (i + 1), by omega, Back.here (Nat.le_refl _) hs ?_ ⟨_, rfl, i + 1, by omega, rfl, by simp, ho, rfl⟩⟩
     simp [zg6, AV.sc, AV.scV, AV.scA, AV.scB]
   ·obtain rfl : i = ws.length := by omega
    rw [List.drop_length] at ho
    rw [← ho] at hO
    simpa [zg5, hlt] using hO
 by_cases hl : 2 ≤ (b :: r).length
 ·have hl' : (2 : Int) ≤ r.length + 1 := by simp only [List.length_cons] at hl; omega
  have hl2 : 1 ≤ r.length := by simp only [List.length_cons] at hl; omega
  cases h2 : zcq (b :: r) with
  | true =>
   have h3 : sgn (b :: r) = 2 := by simp [sgn, h2]
   rw [h3] at hO
   unfold zcq at h2
   simp only [List.take_succ_cons] at h2 hO
   cases e1 : (b :: List.take 1 r == [45, 62]) with
   | true => simpa [zew, hl', hl2, e1] using hO
   | false =>
    cases e2 : (b :: List.take 1 r == [60, 61]) with
    | true => simpa [zew, hl', hl2, e1, e2] using hO
    | false =>
     rw [e1, e2] at h2
     simp only [Bool.false_or] at h2
     simpa [zew, hl', hl2, e1, e2, h2] using hO
  | false =>
   have ho := one h2
   unfold sgns at ho
   unfold zcq at h2
   simp only [List.take_succ_cons] at h2
   rw [Bool.or_eq_false_iff, Bool.or_eq_false_iff] at h2
   simpa [zew, hl', hl2, h2.1.1, h2.1.2, h2.2] using ho
 ·have ho := one (zkm hl)
  unfold sgns at ho
  have : ¬ ((2 : Int) ≤ r.length + 1) := by simp only [List.length_cons] at hl; omega
  simpa [zew, this] using ho

def Tk.cs (t : Tk) : List AV := [.int .i64 t.kind, .str t.text, .int .i64 t.pos]
def zgC (kw : List UInt8 → Bool) (b : UInt8) (r : List UInt8) (i : Nat) : AV :=
 match tok kw b r with
 | .error e => .tup [.agg [.int .i64 0, .str [], .int .i64 0], .int .i64 e]
 | .ok (k, n) => .tup [.agg (Tk.cs ⟨k, (b :: r).take n, i⟩), .int .i64 0]
theorem zgH {p : UInt8 → Bool} (b : UInt8) (r : List UInt8) : (b :: r).take ((r.takeWhile p).length + 1) = b :: r.takeWhile p := by
 rw [List.take_succ_cons]
 congr 1
 induction r with
 | nil => simp
 | cons c r ih => by_cases h : p c = true <;> simp [h, ih]
theorem ztx : zde tP ze5 = true := by kernel_rfl
theorem zty : zde tP zdM = true := by kernel_rfl
theorem zop {H J : zaa} {K : AV → zaa → Prop} {k p e : Int} {t : List UInt8} (hs : HSc H) (h : K (.tup [.agg [.int .i64 k, .str t, .int .i64 p], .int .i64 e]) H) :
  Out H.length K (.tup [.agg [.int .i64 k, .str t, .int .i64 p], .int .i64 e]) (H ++ J) := Out.tup hs h ⟨zaM rfl rfl, zaM rfl rfl, trivial⟩
def zhc (t4 t6 : AV) (H : zaa) (K : AV → zaa → Prop) : Prop :=
 zaf 1 t6 fun t69 =>
 zad false 1 t69 H fun t70 =>
 ACalls tP ze6 [t70] H fun t71 H =>
 aUn .not t71 fun t72 =>
 zag t72
 (zav [(.int .i64 0), (.str []), (.int .i64 0)] [(0, 1), (1, 1), (2, 1)] [] fun t73 =>
 zak 3 t4 t73 H fun H =>
 zad true 3 t4 H fun r0 =>
 zas [r0, (.int .i64 9)] (K · H))
 (zeA t4 t6 H K)
theorem zup (s : List UInt8) (hl : s.length ≤ 1000000) (i : Nat) (hi : i < s.length) (H : zaa) (K : AV → zaa → Prop) (hK : K (zgC (kwF kwds) s[i] (s.drop (i + 1)) i) H) : ACalls tP zjD [.str s, .int .i64 i] H K := by
 refine ACalls.out (zwU fun hs => ?_)
 have hdr := List.drop_eq_getElem_cons hi
 have hrl : (s.drop i).length ≤ 1000000 := by simp; omega
 generalize hb : s[i] = b at *
 generalize hr : s.drop (i + 1) = r at *
 have hb' : s[i]?.getD 0 = b := by simp [hi, hb]
 have post : ∀ (k : Int) (n : Nat), tok (kwF kwds) b r = .ok (k, n) → ∀ t, (b :: r).take n = t → zeA (.ptr H.length 0) (.ptr (H.length + 1) 0) (H ++ [.cells [.int .i64 0, .str [], .int .i64 0], .cells [.int .i64 k, .str t, .int .i64 i]]) (Out H.length K) := by
  intro k n ht t hte
  subst hte
  simp [zgC, ht, Tk.cs] at hK
  simp [zeA, zpW, AV.known, AV.isV]
  exact zop hs hK
 have bad : ∀ e : Int, tok (kwF kwds) b r = .error e → ∀ J, Out H.length K (.tup [.agg [.int .i64 0, .str [], .int .i64 0], .int .i64 e]) (H ++ J) := by
  intro e ht J
  simp [zgC, ht] at hK
  exact zop hs hK
 have hi' := Nat.le_of_lt hi
 by_cases hLU : (zbj b || bUp b) = true
 ·have hin : bIn b = true := by simp [bIn, hLU]
  simp [zkX, hi, hb, hi', zav, zaV, AV.known]
  refine zju b _ _ ?_
  have hc : zbj b = true ∨ (zbj b = false ∧ bUp b = true) := by cases hL : zbj b <;> simp [hL] at hLU ⊢; exact hLU
  have hpost := fun k => post k ((r.takeWhile bIn).length + 1)
  simp only [tok, hLU, if_true, zgH] at hpost
  rcases hc with hL | ⟨hL, hU⟩
  case' inl => simp [hL]
  case' inr => simp [hL]; refine zgN b _ _ ?_; simp [hU]
  all_goals
   rw [hdr]
   refine zoE bIn ze5 ztx zvo (b :: r) (by rw [← hdr]; exact hrl) _ _ ?_
   simp [hin, AV.known]
   by_cases hn : (r.takeWhile bIn).length + 1 > 24
   ·have hn' : (24 : Int) < (r.takeWhile bIn).length + 1 := by omega
    have := bad 9 (by simp only [tok, hLU, if_true]; rw [if_pos hn])
    simp [hn', AV.known, AV.isV]
    exact this _
   ·have hn' : ¬ (24 : Int) < (r.takeWhile bIn).length + 1 := by omega
    simp [hn']
    refine zgN b _ _ ?_
    rw [if_neg hn] at hpost
    cases hU : bUp b with
    | true =>
     simp [AV.known, zez]
     exact hpost 2 (by simp [hU]) _ rfl
    | false =>
     simp [AV.known]
     refine ztv _ _ _ ?_
     cases hkw : kwF kwds (b :: r.takeWhile bIn) with
     | true =>
      simp [AV.known, zez]
      exact hpost 4 (by simp [hU, hkw]) _ rfl
     | false =>
      simp [AV.known, zez]
      exact hpost 1 (by simp [hU, hkw]) _ rfl
 ·have hL : zbj b = false := by simp at hLU; exact hLU.1
  have hU : bUp b = false := by simp at hLU; exact hLU.2
  simp [zkX, hi, hb, zav, zaV, AV.known]
  refine zju b _ _ ?_
  simp [hL]
  refine zgN b _ _ ?_
  simp [hU]
  refine zjg b _ _ ?_
  cases hD : zaE b with
  | true =>
   simp [hi', AV.known]
   rw [hdr]
   refine zoE zaE zdM zty zjg (b :: r) (by rw [← hdr]; exact hrl) _ _ ?_
   have e1 : ((b.toNat : Int) == 48) = (b == 48) := zbG b 48
   have htk : tok (kwF kwds) b r = if (b == 48 && decide ((r.takeWhile zaE).length + 1 > 1)) = true then .error 2 else if zbu (b :: r.takeWhile zaE) 0 = true then .ok (3, (r.takeWhile zaE).length + 1) else .error 9 := by
    simp only [tok, hLU, hD, if_true, zgH]
    rfl
   have hsm : ∀ J, ACalls tP ze6 [.str (b :: r.takeWhile zaE)] (H ++ J) fun t H' => t = .bool (zbu (b :: r.takeWhile zaE) 0) ∧ H' = H ++ J := by
    intro J
    refine zuz _ ?_ ?_ _ _ ⟨rfl, rfl⟩
    ·intro c hc
     rcases List.mem_cons.1 hc with rfl | hc
     ·exact hD
     ·exact List.all_eq_true.1 (List.all_takeWhile) c hc
    ·have h1 : (r.takeWhile zaE).length ≤ r.length := (List.takeWhile_sublist _).length_le
     rw [hdr] at hrl
     simp at hrl ⊢
     omega
   simp [hD, AV.known, e1]
   have hpost := post 3 ((r.takeWhile zaE).length + 1)
   rw [zgH] at hpost
   rw [htk] at hpost bad
   have last : ∀ J, (¬ (b == 48 && decide ((r.takeWhile zaE).length + 1 > 1)) = true) → J = [.cells [.int .i64 0, .str [], .int .i64 0], .cells [.int .i64 3, .str (b :: r.takeWhile zaE), .int .i64 i]] → zhc (.ptr H.length 0) (.ptr (H.length + 1) 0) (H ++ J) (Out H.length K) := by
    rintro J hne rfl
    rw [if_neg hne] at hpost bad
    simp [zhc]
    refine (hsm _).mono ?_
    rintro _ _ ⟨rfl, rfl⟩
    cases hv : zbu (b :: r.takeWhile zaE) 0 with
    | true =>
     simp
     exact hpost (by simp [hv]) _ rfl
    | false =>
     simp [AV.known, zav, zaV, AV.isV]
     exact bad 9 (by simp [hv]) _
   cases hz : (b == 48) with
   | true =>
    simp [hz]
    by_cases hn : 1 < (r.takeWhile zaE).length + 1
    ·have hn' : (1 : Int) < (r.takeWhile zaE).length + 1 := by omega
     have hd : decide ((r.takeWhile zaE).length + 1 > 1) = true := decide_eq_true hn
     have := bad 2 (by rw [hz, hd]; rfl)
     simp [hn', AV.known, AV.isV]
     exact this _
    ·have hn' : ¬ (1 : Int) < (r.takeWhile zaE).length + 1 := by omega
     have hd : decide ((r.takeWhile zaE).length + 1 > 1) = false := decide_eq_false hn
     have := last _ (by rw [hz, hd]; decide) rfl
     simp [zhc, zav, zaV] at this
     simp [hn']
     exact this
   | false =>
    have := last _ (by simp [hz]) rfl
    simp [zhc, zav, zaV] at this
    simp [hz]
    exact this
  | false => 
   simp [hi', AV.known]
   rw [hdr]
   refine zuw b r _ _ ?_
   simp [AV.known]
   have htk : tok (kwF kwds) b r = if sgn (b :: r) = 0 then .error 2 else .ok (5, sgn (b :: r)) := by
    simp only [tok, hLU, hD]
    rfl
   by_cases hz : sgn (b :: r) = 0
   ·have := bad 2 (by rw [htk, if_pos hz])
    simp [hz, AV.isV]
    exact this _
   ·have := post 5 (sgn (b :: r)) (by rw [htk, if_neg hz]) _ rfl
    have he : (List.take (sgn (b :: r)) (b :: r)).isEmpty = false := by
     cases h : sgn (b :: r) with
     | zero => exact absurd h hz
     | succ n => simp
    simp [he]
    exact this
end Go.Proofs.YtacebbdfgbfgiaaGreat
