import Derived.Test.YtddlhljflggenaaGreatDoorKNum
import Derived.Test.YtddlhljflggenaaGreatDoorProg
import Derived.KernelRfl
import Derived.Test.YtddlhljflggenaaGreatDoorKGT1
import Derived.Test.YtddlhljflggenaaGreatDoorAbsZ
set_option linter.unusedSimpArgs false
set_option linter.unusedVariables false
namespace Go.Proofs.YtddlhljflggenaaGreatDoor
open Go Go.Abs
set_option maxRecDepth 100000
def zEn (_ : Nat) : List Bool := []
noncomputable def zEo : Code := Tryz.f136.body.getD .skip
def zuS (t4 t6 : AV) (H : zaa) (K : Kt) : Prop :=
 zad true 3 t6 H fun t74 =>
 zal 3 t4 t74 H fun H =>
 zad true 3 t4 H fun r0 =>
 zaw [r0, (.int .i64 0)] (K · H)
def zfn (t4 t6 : AV) (H : zaa) (K : Kt) : Prop :=
 zuS t4 t6 H K
def zfm (t4 t6 : AV) (H : zaa) (K : Kt) : Prop :=
 zfn t4 t6 H K
def znV (t0 t1 : AV) (H : zaa) (K : Kt) : Prop :=
 zaz [(.int .i64 0), (.str []), (.int .i64 0)] H fun t4 H =>
 zau [(.int .i64 0), (.str []), (.int .i64 0)] [(0, 1), (1, 1), (2, 1)] [(2, t1)] fun t9 =>
 zaz [(.int .i64 0), (.str []), (.int .i64 0)] H fun t6 H =>
 zal 3 t6 t9 H fun H =>
 zbf t0 t1 fun t12 =>
 ACalls tP zhX [t12] H fun t25 H =>
 zab t25 false H (fun K' => K' t12 H) fun t27 H =>
 zab t25 false H (fun K' => ACalls tP zgc [t27] H K') fun t28 H =>
 zai t25 (.bool true) t28 fun t29 =>
 zaf t29
 (zaK 0 0 t0 (some t1) none fun t32 =>
 ACalls tP zhY [t32, (.fn zgd [])] H fun t33 H =>
 zag 1 t6 fun t34 =>
 zal 1 t34 t33 H fun H =>
 zag 1 t6 fun t37 =>
 zad false 1 t37 H fun t38 =>
 zah 0 t38 fun t39 =>
 zac .gtr false t39 (.int .i64 24) fun t40 =>
 zaf t40
 (zau [(.int .i64 0), (.str []), (.int .i64 0)] [(0, 1), (1, 1), (2, 1)] [] fun t41 =>
 zal 3 t4 t41 H fun H =>
 zad true 3 t4 H fun r0 =>
 zaw [r0, (.int .i64 9)] (K · H))
 (ACalls tP zgc [t12] H fun t44 H =>
 zaf t44
 (zag 0 t6 fun t45 =>
 zal 1 t45 (.int .i64 2) H fun H =>
 zfm t4 t6 H K)
 (zag 1 t6 fun t47 =>
 zad false 1 t47 H fun t48 =>
 ACalls tP zmc [t48] H fun t49 H =>
 zaf t49
 (zag 0 t6 fun t50 =>
 zal 1 t50 (.int .i64 4) H fun H =>
 zfm t4 t6 H K)
 (zag 0 t6 fun t35 =>
 zal 1 t35 (.int .i64 1) H fun H =>
 zfm t4 t6 H K))))
 (ACalls tP zep [t12] H fun t53 H =>
 zaf t53
 (zag 0 t6 fun t54 =>
 zal 1 t54 (.int .i64 3) H fun H =>
 zaK 0 0 t0 (some t1) none fun t57 =>
 ACalls tP zhY [t57, (.fn zep [])] H fun t58 H =>
 zag 1 t6 fun t59 =>
 zal 1 t59 t58 H fun H =>
 zac .eql false t12 (.int .u8 48) fun t61 =>
 zab t61 true H (fun K' => zag 1 t6 (K' · H)) fun t63 H =>
 zab t61 true H (fun K' => zad false 1 t63 H (K' · H)) fun t64 H =>
 zab t61 true H (fun K' => zah 0 t64 (K' · H)) fun t65 H =>
 zab t61 true H (fun K' => zac .gtr false t65 (.int .i64 1) (K' · H)) fun t66 H =>
 zai t61 t66 (.bool false) fun t67 =>
 zaf t67
 (zau [(.int .i64 0), (.str []), (.int .i64 0)] [(0, 1), (1, 1), (2, 1)] [] fun t68 =>
 zal 3 t4 t68 H fun H =>
 zad true 3 t4 H fun r0 =>
 zaw [r0, (.int .i64 2)] (K · H))
 (zag 1 t6 fun t69 =>
 zad false 1 t69 H fun t70 =>
 ACalls tP zge [t70] H fun t71 H =>
 aUn .not t71 fun t72 =>
 zaf t72
 (zau [(.int .i64 0), (.str []), (.int .i64 0)] [(0, 1), (1, 1), (2, 1)] [] fun t73 =>
 zal 3 t4 t73 H fun H =>
 zad true 3 t4 H fun r0 =>
 zaw [r0, (.int .i64 9)] (K · H))
 (zfn t4 t6 H K)))
 (zag 0 t6 fun t13 =>
 zal 1 t13 (.int .i64 5) H fun H =>
 zaK 0 0 t0 (some t1) none fun t16 =>
 ACalls tP zmd [t16] H fun t17 H =>
 zag 1 t6 fun t18 =>
 zal 1 t18 t17 H fun H =>
 zag 1 t6 fun t19 =>
 zad false 1 t19 H fun t20 =>
 zac .eql false t20 (.str []) fun t21 =>
 zaf t21
 (zau [(.int .i64 0), (.str []), (.int .i64 0)] [(0, 1), (1, 1), (2, 1)] [] fun t22 =>
 zal 3 t4 t22 H fun H =>
 zad true 3 t4 H fun r0 =>
 zaw [r0, (.int .i64 2)] (K · H))
 (zfn t4 t6 H K)))
theorem zEp {t0 t1 : AV} {H : zaa} {K : Kt} (h : HSc H → znV t0 t1 H K) : ACalls tP zma [t0, t1] H K :=
 zar (M := zEn) Tryz.func136 (c := zEo) (by kernel_rfl) (fun hs => Eq.mpr (by kernel_rfl) (h hs))
def zDQ (_ : Nat) : List Bool := []
noncomputable def zDR : Code := Tryz.f127.body.getD .skip
def zuK (t0 : AV) (H : zaa) (K : Kt) : Prop :=
 zac .geq false t0 (.int .u8 97) fun t4 =>
 zab t4 true H (fun K' => K' t0 H) fun t6 H =>
 zab t4 true H (fun K' => zac .leq false t6 (.int .u8 122) (K' · H)) fun t7 H =>
 zai t4 t7 (.bool false) fun t8 =>
 K t8 H
theorem zDS {t0 : AV} {H : zaa} {K : Kt} (h : HSc H → zuK t0 H K) : ACalls tP zhT [t0] H K :=
 zar (M := zDQ) Tryz.func127 (c := zDR) (by kernel_rfl) (fun hs => Eq.mpr (by kernel_rfl) (h hs))
def zDT (_ : Nat) : List Bool := []
noncomputable def zDU : Code := Tryz.f128.body.getD .skip
def zuL (t0 : AV) (H : zaa) (K : Kt) : Prop :=
 zac .geq false t0 (.int .u8 65) fun t4 =>
 zab t4 true H (fun K' => K' t0 H) fun t6 H =>
 zab t4 true H (fun K' => zac .leq false t6 (.int .u8 90) (K' · H)) fun t7 H =>
 zai t4 t7 (.bool false) fun t8 =>
 K t8 H
theorem zDV {t0 : AV} {H : zaa} {K : Kt} (h : HSc H → zuL t0 H K) : ACalls tP zeX [t0] H K :=
 zar (M := zDT) Tryz.func128 (c := zDU) (by kernel_rfl) (fun hs => Eq.mpr (by kernel_rfl) (h hs))
def zDW (_ : Nat) : List Bool := []
noncomputable def zDX : Code := Tryz.f129.body.getD .skip
def zuM (t0 : AV) (H : zaa) (K : Kt) : Prop :=
 zac .geq false t0 (.int .u8 48) fun t4 =>
 zab t4 true H (fun K' => K' t0 H) fun t6 H =>
 zab t4 true H (fun K' => zac .leq false t6 (.int .u8 57) (K' · H)) fun t7 H =>
 zai t4 t7 (.bool false) fun t8 =>
 K t8 H
theorem zDY {t0 : AV} {H : zaa} {K : Kt} (h : HSc H → zuM t0 H K) : ACalls tP zgb [t0] H K :=
 zar (M := zDW) Tryz.func129 (c := zDX) (by kernel_rfl) (fun hs => Eq.mpr (by kernel_rfl) (h hs))
def zi8 : Nat → List Bool
 | 3 => rl false [0,1,2,2,13]
 | _ => []
noncomputable def znP : Code := Tryz.f130.body.getD .skip
noncomputable def zD4 : List ResultVar := Tryz.f130.results.toList
def zja (t0 t3 t4 : AV) : List AV := t0 :: ux 2 (t3 :: t4 :: ux 13 [])
def zD2 : List Bool := zi8 3
noncomputable def zD0 : Code := zao [1, 1, 0, 1, 0, 0] znP
def zDZ (K : Kt) : AExit → List AV → zaa → Prop := zap tP zi8 [1, 1, 0, 1, 0] znP (zaA tP zD4 K)
def znQ (t0 t3 t4 : AV) (H : zaa) (K : Kt) : Prop := ALoop tP zD0 (zDZ K) (zja t0 t3 t4) H
def zi9 (t0 t3 t4 : AV) (H : zaa) (K : Kt) (Kb3 : Lt) : Prop :=
 zah 1 t3 fun t8 =>
 zac .lss false t4 t8 fun t9 =>
 zaf t9
 (zaj 1 t3 t4 fun t14 =>
 zad false 1 t14 H fun t15 =>
 zac .eql false t15 t0 fun t17 =>
 zaf t17
 (K (.bool true) H)
 (zac .add false t4 (.int .i64 1) fun t11 =>
 Kb3 (zja t0 t3 t11) H))
 (K (.bool false) H)
def zuN (t0 : AV) (H : zaa) (K : Kt) : Prop :=
 zay 1 [(.str [])] 28 [(0, (.str [97, 114, 114, 97, 121])), (1, (.str [98, 111, 111, 108])), (2, (.str [99, 97, 116, 99, 104])), (3, (.str [100, 97, 116, 97])), (4, (.str [101, 108, 115, 101])), (5, (.str [101, 110, 100])), (6, (.str [102, 97, 108, 115, 101])), (7, (.str [102, 110])), (8, (.str [102, 117, 110])), (9, (.str [103, 101, 116])), (10, (.str [105, 102])), (11, (.str [105, 110])), (12, (.str [105, 110, 116])), (13, (.str [108, 101, 110])), (14, (.str [108, 101, 116])), (15, (.str [109, 97, 116, 99, 104])), (16, (.str [110, 101, 119])), (17, (.str [114, 97, 105, 115, 101])), (18, (.str [114, 101, 97, 100])), (19, (.str [114, 101, 102])), (20, (.str [115, 101, 116])), (21, (.str [116, 104, 101, 110])), (22, (.str [116, 105, 99, 107])), (23, (.str [116, 114, 117, 101])), (24, (.str [116, 114, 121])), (25, (.str [117, 110, 105, 116])), (26, (.str [119, 105, 116, 104])), (27, (.str [119, 114, 105, 116, 101]))] fun t5 =>
 znQ t0 t5 (.int .i64 0) H K
theorem zD1 {t0 t3 t4 : AV} {H : zaa} {K : Kt} (Inv : Nat → AV → zaa → Prop) (n : Nat) (h0 : HSc H → Inv n t4 H)
  (round : Rd1 (fun t4 => zja t0 t3 t4) (fun t4 => fun H Kb3 => zi9 t0 t3 t4 H K Kb3) H Inv) : znQ t0 t3 t4 H K :=
 lp1 (M := zi8) zD2 t4 (by kernel_rfl) Inv n h0 round
theorem zD3 {t0 : AV} {H : zaa} {K : Kt} (h : HSc H → zuN t0 H K) : ACalls tP zhU [t0] H K :=
 zar (M := zi8) Tryz.func130 (c := znP) (by kernel_rfl) (fun hs => Eq.mpr (by kernel_rfl) (h hs))
def zjb : Nat → List Bool
 | 3 => rl false [0,1,3,2,17]
 | _ => []
noncomputable def znS : Code := Tryz.f131.body.getD .skip
noncomputable def zEa : List ResultVar := Tryz.f131.results.toList
def zjc (t0 t4 t5 : AV) : List AV := t0 :: ux 3 (t4 :: t5 :: ux 17 [])
def zD8 : List Bool := zjb 3
noncomputable def zD6 : Code := zao [1, 1, 0, 1, 0, 0] znS
def zD5 (K : Kt) : AExit → List AV → zaa → Prop := zap tP zjb [1, 1, 0, 1, 0] znS (zaA tP zEa K)
def zuP (t0 t4 t5 : AV) (H : zaa) (K : Kt) : Prop := ALoop tP zD6 (zD5 K) (zjc t0 t4 t5) H
def znR (t0 t4 t5 : AV) (H : zaa) (K : Kt) (Kb3 : Lt) : Prop :=
 zah 0 t0 fun t8 =>
 zac .lss false t5 t8 fun t9 =>
 zaf t9
 (zac .mul false t4 (.int .i64 10) fun t13 =>
 zbf t0 t5 fun t16 =>
 zac .sub false t16 (.int .u8 48) fun t17 =>
 zcy .i64 t17 fun t18 =>
 zac .add false t13 t18 fun t19 =>
 zac .gtr false t19 (.int .i64 1000000) fun t21 =>
 zaf t21
 (zaw [(.int .i64 0), (.bool false)] (K · H))
 (zac .add false t5 (.int .i64 1) fun t11 =>
 Kb3 (zjc t0 t19 t11) H))
 (zaw [t4, (.bool true)] (K · H))
def zuO (t0 : AV) (H : zaa) (K : Kt) : Prop :=
 zuP t0 (.int .i64 0) (.int .i64 0) H K
theorem zD7 {t0 t4 t5 : AV} {H : zaa} {K : Kt} (Inv : Nat → AV → AV → zaa → Prop) (n : Nat) (h0 : HSc H → Inv n t4 t5 H)
  (round : Rd2 (fun t4 => fun t5 => zjc t0 t4 t5) (fun t4 => fun t5 => fun H Kb3 => znR t0 t4 t5 H K Kb3) H Inv) : zuP t0 t4 t5 H K :=
 lp2 (M := zjb) zD8 t4 t5 (by kernel_rfl) Inv n h0 round
theorem zD9 {t0 : AV} {H : zaa} {K : Kt} (h : HSc H → zuO t0 H K) : ACalls tP zeY [t0] H K :=
 zar (M := zjb) Tryz.func131 (c := znS) (by kernel_rfl) (fun hs => Eq.mpr (by kernel_rfl) (h hs))
def zjd : Nat → List Bool
 | 5 => rl false [0,1,2,2,30]
 | _ => []
noncomputable def znT : Code := Tryz.f132.body.getD .skip
noncomputable def zEj : List ResultVar := Tryz.f132.results.toList
def zjf (t0 t3 t4 : AV) : List AV := t0 :: ux 2 (t3 :: t4 :: ux 30 [])
def zEh : List Bool := zjd 5
noncomputable def zEf : Code := zao [1, 1, 1, 0, 1, 0, 0] znT
def zEe (K : Kt) : AExit → List AV → zaa → Prop := zap tP zjd [1, 1, 1, 0, 1, 0] znT (zaA tP zEj K)
def znU (t0 t3 t4 : AV) (H : zaa) (K : Kt) : Prop := ALoop tP zEf (zEe K) (zjf t0 t3 t4) H
def zje (t0 t3 t4 : AV) (H : zaa) (K : Kt) (Kb5 : Lt) : Prop :=
 zah 0 t3 fun t25 =>
 zac .lss false t4 t25 fun t26 =>
 zaf t26
 (zae H (fun K' => K' t0 H) fun t29 =>
 zae H (fun K' => zbf t29 (.int .i64 0) (K' · H)) fun t30 =>
 zae H (fun K' => K' t3 H) fun t31 =>
 zae H (fun K' => K' t4 H) fun t32 =>
 zae H (fun K' => zbf t31 t32 (K' · H)) fun t33 =>
 zae H (fun K' => zac .eql false t30 t33 (K' · H)) fun t34 =>
 zaf t34
 (K (.int .i64 1) H)
 (zac .add false t4 (.int .i64 1) fun t28 =>
 Kb5 (zjf t0 t3 t28) H))
 (K (.int .i64 0) H)
def zfl (t0 : AV) (H : zaa) (K : Kt) : Prop :=
 zah 0 t0 fun t6 =>
 zac .geq false t6 (.int .i64 2) fun t7 =>
 zab t7 true H (fun K' => K' t0 H) fun t9 H =>
 zab t7 true H (fun K' => zaK 0 0 t9 none (some (.int .i64 2)) (K' · H)) fun t10 H =>
 zab t7 true H (fun K' => zac .eql false t10 (.str [45, 62]) (K' · H)) fun t11 H =>
 zab t7 true H (fun K' => K' t11 H) fun t12 H =>
 zab t12 false H (fun K' => K' t0 H) fun t13 H =>
 zab t12 false H (fun K' => zaK 0 0 t13 none (some (.int .i64 2)) (K' · H)) fun t14 H =>
 zab t12 false H (fun K' => zac .eql false t14 (.str [60, 61]) (K' · H)) fun t15 H =>
 zab t7 true H (fun K' => zai t12 (.bool true) t15 (K' · H)) fun t16 H =>
 zab t7 true H (fun K' => K' t16 H) fun t17 H =>
 zab t17 false H (fun K' => K' t0 H) fun t18 H =>
 zab t17 false H (fun K' => zaK 0 0 t18 none (some (.int .i64 2)) (K' · H)) fun t19 H =>
 zab t17 false H (fun K' => zac .eql false t19 (.str [61, 61]) (K' · H)) fun t20 H =>
 zab t7 true H (fun K' => zai t17 (.bool true) t20 (K' · H)) fun t21 H =>
 zai t7 t21 (.bool false) fun t22 =>
 zaf t22
 (K (.int .i64 2) H)
 (znU t0 (.str [40, 41, 44, 61, 124, 43, 45, 42, 47, 37, 60, 59, 95]) (.int .i64 0) H K)
theorem zEg {t0 t3 t4 : AV} {H : zaa} {K : Kt} (Inv : Nat → AV → zaa → Prop) (n : Nat) (h0 : HSc H → Inv n t4 H)
  (round : Rd1 (fun t4 => zjf t0 t3 t4) (fun t4 => fun H Kb5 => zje t0 t3 t4 H K Kb5) H Inv) : znU t0 t3 t4 H K :=
 lp1 (M := zjd) zEh t4 (by kernel_rfl) Inv n h0 round
theorem zEi {t0 : AV} {H : zaa} {K : Kt} (h : HSc H → zfl t0 H K) : ACalls tP zl7 [t0] H K :=
 zar (M := zjd) Tryz.func132 (c := znT) (by kernel_rfl) (fun hs => Eq.mpr (by kernel_rfl) (h hs))
def zEz (_ : Nat) : List Bool := []
noncomputable def zEA : Code := Tryz.f145.body.getD .skip
def zuW (t0 : AV) (H : zaa) (K : Kt) : Prop :=
 zac .geq false t0 (.int .u8 97) fun t4 =>
 zab t4 true H (fun K' => K' t0 H) fun t6 H =>
 zab t4 true H (fun K' => zac .leq false t6 (.int .u8 122) (K' · H)) fun t7 H =>
 zai t4 t7 (.bool false) fun t8 =>
 K t8 H
theorem zEB {t0 : AV} {H : zaa} {K : Kt} (h : HSc H → zuW t0 H K) : ACalls tP zhX [t0] H K :=
 zar (M := zEz) Tryz.func145 (c := zEA) (by kernel_rfl) (fun hs => Eq.mpr (by kernel_rfl) (h hs))
def zEC (_ : Nat) : List Bool := []
noncomputable def zED : Code := Tryz.f146.body.getD .skip
def zuX (t0 : AV) (H : zaa) (K : Kt) : Prop :=
 zac .geq false t0 (.int .u8 65) fun t4 =>
 zab t4 true H (fun K' => K' t0 H) fun t6 H =>
 zab t4 true H (fun K' => zac .leq false t6 (.int .u8 90) (K' · H)) fun t7 H =>
 zai t4 t7 (.bool false) fun t8 =>
 K t8 H
theorem zEE {t0 : AV} {H : zaa} {K : Kt} (h : HSc H → zuX t0 H K) : ACalls tP zgc [t0] H K :=
 zar (M := zEC) Tryz.func146 (c := zED) (by kernel_rfl) (fun hs => Eq.mpr (by kernel_rfl) (h hs))
def zjh : Nat → List Bool
 | 2 => rl false [0,2,3,1,16]
 | _ => []
noncomputable def znY : Code := Tryz.f147.body.getD .skip
noncomputable def zEK : List ResultVar := Tryz.f147.results.toList
def zji (t0 t1 t5 : AV) : List AV := t0 :: t1 :: ux 3 (t5 :: ux 16 [])
def zEI : List Bool := zjh 2
noncomputable def zEG : Code := zao [1, 1, 0, 0, 0] znY
def zEF (K : Kt) : AExit → List AV → zaa → Prop := zap tP zjh [1, 1, 0, 0] znY (zaA tP zEK K)
def zuZ (t0 t1 t5 : AV) (H : zaa) (K : Kt) : Prop := ALoop tP zEG (zEF K) (zji t0 t1 t5) H
def znX (t0 t1 t5 : AV) (H : zaa) (K : Kt) (Kb2 : Lt) : Prop :=
 zah 0 t0 fun t8 =>
 zac .lss false t5 t8 fun t9 =>
 zab t9 true H (fun K' => K' t1 H) fun t11 H =>
 zab t9 true H (fun K' => K' t0 H) fun t12 H =>
 zab t9 true H (fun K' => K' t5 H) fun t13 H =>
 zab t9 true H (fun K' => zbf t12 t13 (K' · H)) fun t14 H =>
 zab t9 true H (fun K' => aCallV tP t11 [t14] H K') fun t15 H =>
 zai t9 t15 (.bool false) fun t16 =>
 zaf t16
 (zac .add false t5 (.int .i64 1) fun t18 =>
 Kb2 (zji t0 t1 t18) H)
 (zaK 0 0 t0 none (some t5) fun t21 =>
 K t21 H)
def zuY (t0 t1 : AV) (H : zaa) (K : Kt) : Prop :=
 zuZ t0 t1 (.int .i64 0) H K
theorem zEH {t0 t1 t5 : AV} {H : zaa} {K : Kt} (Inv : Nat → AV → zaa → Prop) (n : Nat) (h0 : HSc H → Inv n t5 H)
  (round : Rd1 (fun t5 => zji t0 t1 t5) (fun t5 => fun H Kb2 => znX t0 t1 t5 H K Kb2) H Inv) : zuZ t0 t1 t5 H K :=
 lp1 (M := zjh) zEI t5 (by kernel_rfl) Inv n h0 round
theorem zEJ {t0 t1 : AV} {H : zaa} {K : Kt} (h : HSc H → zuY t0 t1 H K) : ACalls tP zhY [t0, t1] H K :=
 zar (M := zjh) Tryz.func147 (c := znY) (by kernel_rfl) (fun hs => Eq.mpr (by kernel_rfl) (h hs))
def zEL (_ : Nat) : List Bool := []
noncomputable def zEM : Code := Tryz.f148.body.getD .skip
def zu0 (t0 : AV) (H : zaa) (K : Kt) : Prop :=
 ACalls tP zhX [t0] H fun t4 H =>
 zab t4 false H (fun K' => K' t0 H) fun t6 H =>
 zab t4 false H (fun K' => ACalls tP zgc [t6] H K') fun t7 H =>
 zai t4 (.bool true) t7 fun t8 =>
 zab t8 false H (fun K' => K' t0 H) fun t10 H =>
 zab t8 false H (fun K' => ACalls tP zep [t10] H K') fun t11 H =>
 zai t8 (.bool true) t11 fun t12 =>
 zab t12 false H (fun K' => K' t0 H) fun t14 H =>
 zab t12 false H (fun K' => zac .eql false t14 (.int .u8 95) (K' · H)) fun t15 H =>
 zai t12 (.bool true) t15 fun t16 =>
 K t16 H
theorem zEN {t0 : AV} {H : zaa} {K : Kt} (h : HSc H → zu0 t0 H K) : ACalls tP zgd [t0] H K :=
 zar (M := zEL) Tryz.func148 (c := zEM) (by kernel_rfl) (fun hs => Eq.mpr (by kernel_rfl) (h hs))
def zEO (_ : Nat) : List Bool := []
noncomputable def zEP : Code := Tryz.f149.body.getD .skip
def za0 (t4 : AV) (H : zaa) (K : Kt) : Prop :=
 zaf t4
 (K (.bool true) H)
 (K (.bool false) H)
def zu1 (t0 : AV) (H : zaa) (K : Kt) : Prop :=
 zac .eql false t0 (.str [97, 114, 114, 97, 121]) fun t5 =>
 zaf t5
 (za0 t5 H K)
 (zac .eql false t0 (.str [98, 111, 111, 108]) fun t6 =>
 zaf t6
 (za0 t6 H K)
 (zac .eql false t0 (.str [99, 97, 116, 99, 104]) fun t7 =>
 zaf t7
 (za0 t7 H K)
 (zac .eql false t0 (.str [100, 97, 116, 97]) fun t8 =>
 zaf t8
 (za0 t8 H K)
 (zac .eql false t0 (.str [101, 108, 115, 101]) fun t9 =>
 zaf t9
 (za0 t9 H K)
 (zac .eql false t0 (.str [101, 110, 100]) fun t10 =>
 zaf t10
 (za0 t10 H K)
 (zac .eql false t0 (.str [102, 97, 108, 115, 101]) fun t11 =>
 zaf t11
 (za0 t11 H K)
 (zac .eql false t0 (.str [102, 110]) fun t12 =>
 zaf t12
 (za0 t12 H K)
 (zac .eql false t0 (.str [102, 117, 110]) fun t13 =>
 zaf t13
 (za0 t13 H K)
 (zac .eql false t0 (.str [103, 101, 116]) fun t14 =>
 zaf t14
 (za0 t14 H K)
 (zac .eql false t0 (.str [105, 102]) fun t15 =>
 zaf t15
 (za0 t15 H K)
 (zac .eql false t0 (.str [105, 110]) fun t16 =>
 zaf t16
 (za0 t16 H K)
 (zac .eql false t0 (.str [105, 110, 116]) fun t17 =>
 zaf t17
 (za0 t17 H K)
 (zac .eql false t0 (.str [108, 101, 110]) fun t18 =>
 zaf t18
 (za0 t18 H K)
 (zac .eql false t0 (.str [108, 101, 116]) fun t19 =>
 zaf t19
 (za0 t19 H K)
 (zac .eql false t0 (.str [109, 97, 116, 99, 104]) fun t20 =>
 zaf t20
 (za0 t20 H K)
 (zac .eql false t0 (.str [110, 101, 119]) fun t21 =>
 zaf t21
 (za0 t21 H K)
 (zac .eql false t0 (.str [114, 97, 105, 115, 101]) fun t22 =>
 zaf t22
 (za0 t22 H K)
 (zac .eql false t0 (.str [114, 101, 97, 100]) fun t23 =>
 zaf t23
 (za0 t23 H K)
 (zac .eql false t0 (.str [114, 101, 102]) fun t24 =>
 zaf t24
 (za0 t24 H K)
 (zac .eql false t0 (.str [115, 101, 116]) fun t25 =>
 zaf t25
 (za0 t25 H K)
 (zac .eql false t0 (.str [116, 104, 101, 110]) fun t26 =>
 zaf t26
 (za0 t26 H K)
 (zac .eql false t0 (.str [116, 105, 99, 107]) fun t27 =>
 zaf t27
 (za0 t27 H K)
 (zac .eql false t0 (.str [116, 114, 117, 101]) fun t28 =>
 zaf t28
 (za0 t28 H K)
 (zac .eql false t0 (.str [116, 114, 121]) fun t29 =>
 zaf t29
 (za0 t29 H K)
 (zac .eql false t0 (.str [117, 110, 105, 116]) fun t30 =>
 zaf t30
 (za0 t30 H K)
 (zac .eql false t0 (.str [119, 105, 116, 104]) fun t31 =>
 zaf t31
 (za0 t31 H K)
 (zac .eql false t0 (.str [119, 114, 105, 116, 101]) fun t32 =>
 za0 t32 H K)))))))))))))))))))))))))))
theorem zEQ {t0 : AV} {H : zaa} {K : Kt} (h : HSc H → zu1 t0 H K) : ACalls tP zmc [t0] H K :=
 zar (M := zEO) Tryz.func149 (c := zEP) (by kernel_rfl) (fun hs => Eq.mpr (by kernel_rfl) (h hs))
def zER (_ : Nat) : List Bool := []
noncomputable def zES : Code := Tryz.f150.body.getD .skip
def zu2 (t0 : AV) (H : zaa) (K : Kt) : Prop :=
 zac .geq false t0 (.int .u8 48) fun t4 =>
 zab t4 true H (fun K' => K' t0 H) fun t6 H =>
 zab t4 true H (fun K' => zac .leq false t6 (.int .u8 57) (K' · H)) fun t7 H =>
 zai t4 t7 (.bool false) fun t8 =>
 K t8 H
theorem zET {t0 : AV} {H : zaa} {K : Kt} (h : HSc H → zu2 t0 H K) : ACalls tP zep [t0] H K :=
 zar (M := zER) Tryz.func150 (c := zES) (by kernel_rfl) (fun hs => Eq.mpr (by kernel_rfl) (h hs))
def zjj : Nat → List Bool
 | 3 => rl false [0,1,2,1,2,2,13]
 | _ => []
noncomputable def zn0 : Code := Tryz.f151.body.getD .skip
noncomputable def zEZ : List ResultVar := Tryz.f151.results.toList
def zjk (t0 t3 t6 t7 : AV) : List AV := t0 :: ux 2 (t3 :: ux 2 (t6 :: t7 :: ux 13 []))
def zEX : List Bool := zjj 3
noncomputable def zEV : Code := zao [1, 1, 0, 1, 0, 0] zn0
def zEU (K : Kt) : AExit → List AV → zaa → Prop := zap tP zjj [1, 1, 0, 1, 0] zn0 (zaA tP zEZ K)
def zu4 (t0 t3 t6 t7 : AV) (H : zaa) (K : Kt) : Prop := ALoop tP zEV (zEU K) (zjk t0 t3 t6 t7) H
def znZ (t0 t3 t6 t7 : AV) (H : zaa) (K : Kt) (Kb3 : Lt) : Prop :=
 zac .lss false t7 t6 fun t8 =>
 zaf t8
 (zac .mul false t3 (.int .i64 10) fun t11 =>
 zbf t0 t7 fun t14 =>
 zac .sub false t14 (.int .u8 48) fun t15 =>
 zcy .i64 t15 fun t16 =>
 zac .add false t11 t16 fun t17 =>
 zac .gtr false t17 (.int .i64 1000000) fun t19 =>
 zaf t19
 (K (.bool false) H)
 (zac .add false t7 (.int .i64 1) fun t20 =>
 Kb3 (zjk t0 t17 t6 t20) H))
 (K (.bool true) H)
def zu3 (t0 : AV) (H : zaa) (K : Kt) : Prop :=
 zah 0 t0 fun t6 =>
 zu4 t0 (.int .i64 0) t6 (.int .i64 0) H K
theorem zEW {t0 t3 t6 t7 : AV} {H : zaa} {K : Kt} (Inv : Nat → AV → AV → zaa → Prop) (n : Nat) (h0 : HSc H → Inv n t3 t7 H)
  (round : Rd2 (fun t3 => fun t7 => zjk t0 t3 t6 t7) (fun t3 => fun t7 => fun H Kb3 => znZ t0 t3 t6 t7 H K Kb3) H Inv) : zu4 t0 t3 t6 t7 H K :=
 lp2 (M := zjj) zEX t3 t7 (by kernel_rfl) Inv n h0 round
theorem zEY {t0 : AV} {H : zaa} {K : Kt} (h : HSc H → zu3 t0 H K) : ACalls tP zge [t0] H K :=
 zar (M := zjj) Tryz.func151 (c := zn0) (by kernel_rfl) (fun hs => Eq.mpr (by kernel_rfl) (h hs))
def zE0 (_ : Nat) : List Bool := []
noncomputable def zE1 : Code := Tryz.f152.body.getD .skip
def zbQ (t0 t16 : AV) (H : zaa) (K : Kt) : Prop :=
 zaf t16
 (zaK 0 0 t0 none (some (.int .i64 1)) fun t31 =>
 K t31 H)
 (K (.str []) H)
def zjl (t0 : AV) (H : zaa) (K : Kt) : Prop :=
 zaK 0 0 t0 none (some (.int .i64 1)) fun t15 =>
 zac .eql false t15 (.str [40]) fun t17 =>
 zaf t17
 (zbQ t0 t17 H K)
 (zac .eql false t15 (.str [41]) fun t18 =>
 zaf t18
 (zbQ t0 t18 H K)
 (zac .eql false t15 (.str [44]) fun t19 =>
 zaf t19
 (zbQ t0 t19 H K)
 (zac .eql false t15 (.str [61]) fun t20 =>
 zaf t20
 (zbQ t0 t20 H K)
 (zac .eql false t15 (.str [124]) fun t21 =>
 zaf t21
 (zbQ t0 t21 H K)
 (zac .eql false t15 (.str [43]) fun t22 =>
 zaf t22
 (zbQ t0 t22 H K)
 (zac .eql false t15 (.str [45]) fun t23 =>
 zaf t23
 (zbQ t0 t23 H K)
 (zac .eql false t15 (.str [42]) fun t24 =>
 zaf t24
 (zbQ t0 t24 H K)
 (zac .eql false t15 (.str [47]) fun t25 =>
 zaf t25
 (zbQ t0 t25 H K)
 (zac .eql false t15 (.str [37]) fun t26 =>
 zaf t26
 (zbQ t0 t26 H K)
 (zac .eql false t15 (.str [60]) fun t27 =>
 zaf t27
 (zbQ t0 t27 H K)
 (zac .eql false t15 (.str [59]) fun t28 =>
 zaf t28
 (zbQ t0 t28 H K)
 (zac .eql false t15 (.str [95]) fun t29 =>
 zbQ t0 t29 H K))))))))))))
def zew (t0 t8 : AV) (H : zaa) (K : Kt) : Prop :=
 zaf t8
 (zaK 0 0 t0 none (some (.int .i64 2)) fun t13 =>
 K t13 H)
 (zjl t0 H K)
def zfo (t0 : AV) (H : zaa) (K : Kt) : Prop :=
 zah 0 t0 fun t4 =>
 zac .geq false t4 (.int .i64 2) fun t5 =>
 zaf t5
 (zaK 0 0 t0 none (some (.int .i64 2)) fun t7 =>
 zac .eql false t7 (.str [45, 62]) fun t9 =>
 zaf t9
 (zew t0 t9 H K)
 (zac .eql false t7 (.str [60, 61]) fun t10 =>
 zaf t10
 (zew t0 t10 H K)
 (zac .eql false t7 (.str [61, 61]) fun t11 =>
 zew t0 t11 H K)))
 (zjl t0 H K)
theorem zE2 {t0 : AV} {H : zaa} {K : Kt} (h : HSc H → zfo t0 H K) : ACalls tP zmd [t0] H K :=
 zar (M := zE0) Tryz.func152 (c := zE1) (by kernel_rfl) (fun hs => Eq.mpr (by kernel_rfl) (h hs))
def zLG (_ : Nat) : List Bool := []
noncomputable def zLH : Code := Tryz.f91.body.getD .skip
def zx6 (t0 : AV) (H : zaa) (K : Kt) : Prop :=
 ACalls tP zl5 [t0] H fun t8 H =>
 zav t8 0 fun t9 =>
 zav t8 1 fun t10 =>
 zav t8 2 fun t11 =>
 zac .eql false t11 (.int .i64 0) fun t13 =>
 zab t13 true H (fun K' => K' t9 H) fun t15 H =>
 zab t13 true H (fun K' => zah 1 t15 (K' · H)) fun t16 H =>
 zab t13 true H (fun K' => zac .eql false t16 (.int .i64 2) (K' · H)) fun t17 H =>
 zai t13 t17 (.bool false) fun t18 =>
 zab t18 true H (fun K' => K' t9 H) fun t20 H =>
 zab t18 true H (fun K' => zaj 3 t20 (.int .i64 0) (K' · H)) fun t21 H =>
 zab t18 true H (fun K' => zag 0 t21 (K' · H)) fun t22 H =>
 zab t18 true H (fun K' => zad false 1 t22 H (K' · H)) fun t23 H =>
 zab t18 true H (fun K' => zac .eql false t23 (.int .i64 2) (K' · H)) fun t24 H =>
 zai t18 t24 (.bool false) fun t25 =>
 zab t25 true H (fun K' => K' t9 H) fun t27 H =>
 zab t25 true H (fun K' => zaj 3 t27 (.int .i64 0) (K' · H)) fun t28 H =>
 zab t25 true H (fun K' => zag 1 t28 (K' · H)) fun t29 H =>
 zab t25 true H (fun K' => zad false 1 t29 H (K' · H)) fun t30 H =>
 zab t25 true H (fun K' => K' t0 H) fun t31 H =>
 zab t25 true H (fun K' => zac .eql false t30 t31 (K' · H)) fun t32 H =>
 zai t25 t32 (.bool false) fun t33 =>
 K t33 H
theorem zLI {t0 : AV} {H : zaa} {K : Kt} (h : HSc H → zx6 t0 H K) : ACalls tP zij [t0] H K :=
 zar (M := zLG) Tryz.func91 (c := zLH) (by kernel_rfl) (fun hs => Eq.mpr (by kernel_rfl) (h hs))
def zKg (_ : Nat) : List Bool := []
noncomputable def zKh : Code := Tryz.f76.body.getD .skip
def zxF (t0 : AV) (H : zaa) (K : Kt) : Prop :=
 ACalls tP zl4 [t0] H fun t8 H =>
 zav t8 0 fun t9 =>
 zav t8 1 fun t10 =>
 zav t8 2 fun t11 =>
 zac .eql false t11 (.int .i64 0) fun t13 =>
 zab t13 true H (fun K' => K' t9 H) fun t15 H =>
 zab t13 true H (fun K' => zah 1 t15 (K' · H)) fun t16 H =>
 zab t13 true H (fun K' => zac .eql false t16 (.int .i64 2) (K' · H)) fun t17 H =>
 zai t13 t17 (.bool false) fun t18 =>
 zab t18 true H (fun K' => K' t9 H) fun t20 H =>
 zab t18 true H (fun K' => zaj 3 t20 (.int .i64 0) (K' · H)) fun t21 H =>
 zab t18 true H (fun K' => zag 0 t21 (K' · H)) fun t22 H =>
 zab t18 true H (fun K' => zad false 1 t22 H (K' · H)) fun t23 H =>
 zab t18 true H (fun K' => zac .eql false t23 (.int .i64 2) (K' · H)) fun t24 H =>
 zai t18 t24 (.bool false) fun t25 =>
 zab t25 true H (fun K' => K' t9 H) fun t27 H =>
 zab t25 true H (fun K' => zaj 3 t27 (.int .i64 0) (K' · H)) fun t28 H =>
 zab t25 true H (fun K' => zag 1 t28 (K' · H)) fun t29 H =>
 zab t25 true H (fun K' => zad false 1 t29 H (K' · H)) fun t30 H =>
 zab t25 true H (fun K' => K' t0 H) fun t31 H =>
 zab t25 true H (fun K' => zac .eql false t30 t31 (K' · H)) fun t32 H =>
 zai t25 t32 (.bool false) fun t33 =>
 K t33 H
theorem zKi {t0 : AV} {H : zaa} {K : Kt} (h : HSc H → zxF t0 H K) : ACalls tP zid [t0] H K :=
 zar (M := zKg) Tryz.func76 (c := zKh) (by kernel_rfl) (fun hs => Eq.mpr (by kernel_rfl) (h hs))
end Go.Proofs.YtddlhljflggenaaGreatDoor

namespace Go.Proofs.YtddlhljflggenaaGreatDoor
open Go Go.Abs
def kwds : List (List UInt8) := [[97, 114, 114, 97, 121], [98, 111, 111, 108], [99, 97, 116, 99, 104], [100, 97, 116, 97], [101, 108, 115, 101], [101, 110, 100], [102, 97, 108, 115, 101], [102, 110], [102, 117, 110], [103, 101, 116], [105, 102], [105, 110], [105, 110, 116], [108, 101, 110], [108, 101, 116], [109, 97, 116, 99, 104], [110, 101, 119], [114, 97, 105, 115, 101], [114, 101, 97, 100], [114, 101, 102], [115, 101, 116], [116, 104, 101, 110], [116, 105, 99, 107], [116, 114, 117, 101], [116, 114, 121], [117, 110, 105, 116], [119, 105, 116, 104], [119, 114, 105, 116, 101]]
def kwF (ws : List (List UInt8)) (s : List UInt8) : Bool := ws.any (s == ·)
theorem zci {H : zaa} {K : AV → zaa → Prop} {r : AV} (hsc : HSc H) (hv : r.isV = true) (hr : r.scV H.length = true) (h : K r H) : Out H.length K r H := by
 have := Out.same (J := []) rfl hsc hv hr h
 simpa using this
theorem zbP (b c : UInt8) : ((b.toNat : Int) == (c.toNat : Int)) = (b == c) := by
 rw [Bool.eq_iff_iff]
 simp only [beq_iff_eq]
 constructor
 ·intro h; exact UInt8.toNat_inj.mp (by omega)
 ·rintro rfl; rfl
theorem zsu (b : UInt8) (H : zaa) (K : AV → zaa → Prop) (hK : K (.bool (zbr b)) H) : ACalls tP zhT [.int .u8 b.toNat] H K := by
 refine ACalls.out (zDS fun hs => ?_)
 have hO := zci (K := K) (H := H) (r := .bool (zbr b)) hs rfl rfl hK
 unfold zbr at hO
 cases h1 : decide (97 ≤ (b.toNat : Int)) <;> simp [zuK, h1] <;> simpa [h1] using hO
theorem ziI (b : UInt8) (H : zaa) (K : AV → zaa → Prop) (hK : K (.bool (bUp b)) H) : ACalls tP zeX [.int .u8 b.toNat] H K := by
 refine ACalls.out (zDV fun hs => ?_)
 have hO := zci (K := K) (H := H) (r := .bool (bUp b)) hs rfl rfl hK
 unfold bUp at hO
 cases h1 : decide (65 ≤ (b.toNat : Int)) <;> simp [zuL, h1] <;> simpa [h1] using hO
theorem zlD (b : UInt8) (H : zaa) (K : AV → zaa → Prop) (hK : K (.bool (zaJ b)) H) : ACalls tP zgb [.int .u8 b.toNat] H K := by
 refine ACalls.out (zDY fun hs => ?_)
 have hO := zci (K := K) (H := H) (r := .bool (zaJ b)) hs rfl rfl hK
 unfold zaJ at hO
 cases h1 : decide (48 ≤ (b.toNat : Int)) <;> simp [zuM, h1] <;> simpa [h1] using hO
theorem zl2 (b : UInt8) (H : zaa) (K : AV → zaa → Prop) (hK : K (.bool (zbr b)) H) : ACalls tP zhX [.int .u8 b.toNat] H K := by
 refine ACalls.out (zEB fun hs => ?_)
 have hO := zci (K := K) (H := H) (r := .bool (zbr b)) hs rfl rfl hK
 unfold zbr at hO
 cases h1 : decide (97 ≤ (b.toNat : Int)) <;> simp [zuW, h1] <;> simpa [h1] using hO
theorem ziJ (b : UInt8) (H : zaa) (K : AV → zaa → Prop) (hK : K (.bool (bUp b)) H) : ACalls tP zgc [.int .u8 b.toNat] H K := by
 refine ACalls.out (zEE fun hs => ?_)
 have hO := zci (K := K) (H := H) (r := .bool (bUp b)) hs rfl rfl hK
 unfold bUp at hO
 cases h1 : decide (65 ≤ (b.toNat : Int)) <;> simp [zuX, h1] <;> simpa [h1] using hO
theorem zlE (b : UInt8) (H : zaa) (K : AV → zaa → Prop) (hK : K (.bool (zaJ b)) H) : ACalls tP zep [.int .u8 b.toNat] H K := by
 refine ACalls.out (zET fun hs => ?_)
 have hO := zci (K := K) (H := H) (r := .bool (zaJ b)) hs rfl rfl hK
 unfold zaJ at hO
 cases h1 : decide (48 ≤ (b.toNat : Int)) <;> simp [zu2, h1] <;> simpa [h1] using hO
theorem zyV (b : UInt8) (H : zaa) (K : AV → zaa → Prop) (hK : K (.bool (zcD b)) H) : ACalls tP zl9 [.int .u8 b.toNat] H K := by
 refine ACalls.out (zEm fun hs => ?_)
 have hO := zci (K := K) (H := H) (r := .bool (zcD b)) hs rfl rfl hK
 unfold zcD at hO
 have e1 : ((b.toNat : Int) == 9) = (b == 9) := zbP b 9
 have e2 : ((b.toNat : Int) == 10) = (b == 10) := zbP b 10
 have e3 : ((b.toNat : Int) == 13) = (b == 13) := zbP b 13
 have e4 : ((b.toNat : Int) == 32) = (b == 32) := zbP b 32
 cases h1 : (b == 9) <;> cases h2 : (b == 10) <;> cases h3 : (b == 13) <;> simp [zuR, e1, e2, e3, e4, h1, h2, h3] <;> simpa [h1, h2, h3] using hO
theorem zCJ (b : UInt8) (H : zaa) (K : AV → zaa → Prop) (hK : K (.bool (bIn b)) H) : ACalls tP zgd [.int .u8 b.toNat] H K := by
 refine ACalls.out (zEN fun hs => ?_)
 have hO := zci (K := K) (H := H) (r := .bool (bIn b)) hs rfl rfl hK
 unfold bIn at hO
 have e1 : ((b.toNat : Int) == 95) = (b == 95) := zbP b 95
 unfold zu0
 refine zl2 b _ _ ?_
 cases h1 : zbr b with
 | true => simp; simpa [h1] using hO
 | false =>
  simp
  refine ziJ b _ _ ?_
  cases h2 : bUp b with
  | true => simp; simpa [h1, h2] using hO
  | false =>
   simp
   refine zlE b _ _ ?_
   cases h3 : zaJ b with
   | true => simp; simpa [h1, h2, h3] using hO
   | false => simp [e1]; simpa [h1, h2, h3] using hO
theorem zz1 (s : List UInt8) (H : zaa) (K : AV → zaa → Prop) (hK : K (.bool (kwF kwds s)) H) : ACalls tP zmc [.str s] H K := by
 refine ACalls.out (zEQ fun hs => ?_)
 have hO := zci (K := K) (H := H) (r := .bool (kwF kwds s)) hs rfl rfl hK
 have step : ∀ (w : List UInt8) (ws : List (List UInt8)) (rest : Prop), (Out H.length K (.bool (kwF ws s)) H → rest) → Out H.length K (.bool (kwF (w :: ws) s)) H →
   zac .eql false (.str s) (.str w) fun t => zaf t (za0 t H (Out H.length K)) rest := by
  intro w ws rest h h'
  simp only [kwF, List.any_cons] at h h'
  cases e : (s == w) with
  | true => simpa [za0, e] using h'
  | false => rw [e, Bool.false_or] at h'; simpa [za0, e] using h h'
 unfold zu1
 revert hO
 unfold kwds
 iterate 27 refine step _ _ _ ?_
 intro h'
 simp only [kwF, List.any_cons, List.any_nil, Bool.or_false] at h'
 cases e : (s == [119, 114, 105, 116, 101]) <;> rw [e] at h' <;> simpa [za0, e] using h'
theorem zz2 (s : List UInt8) (H : zaa) (K : AV → zaa → Prop) (hK : K (.bool (kwF kwds s)) H) : ACalls tP zhU [.str s] H K := by
 refine ACalls.out (zD3 fun hs => ?_)
 have hO := zci (K := K) (H := H) (r := .bool (kwF kwds s)) hs rfl rfl hK
 have e : zuN (.str s) H (Out H.length K) = znQ (.str s) (.sl (kwds.map fun w => [.str w]) .full) (.int .i64 0) H (Out H.length K) := rfl
 rw [e]
 have hlen : kwds.length = 28 := rfl
 generalize kwds = ws at *
 refine zD1 (Inv := fun q t4 H' => ∃ i : Nat, i ≤ ws.length ∧ q = ws.length - i ∧ t4 = .int .i64 i ∧ kwF (ws.drop i) s = kwF ws s ∧ H' = H) ws.length ?_ ?_
 ·intro _; exact ⟨0, by omega, by omega, rfl, by simp, rfl⟩
 ·rintro q t8 H' ⟨i, hi, rfl, rfl, ho, rfl⟩ hsc _ hsF Kb hKb
  by_cases hlt : i < ws.length
  ·rw [List.drop_eq_getElem_cons hlt] at ho
   simp only [kwF, List.any_cons] at ho
   cases hz : (ws[i] == s) with
   | true =>
    have hz' : (s == ws[i]) = true := by rw [beq_iff_eq] at hz ⊢; exact hz.symm
    rw [hz', Bool.true_or] at ho
    simp [zi9, hlt, hz]
    unfold kwF at hO
    rw [← ho] at hO
    exact hO
   | false =>
    have hz' : (s == ws[i]) = false := by rw [beq_eq_false_iff_ne] at hz ⊢; exact fun h => hz h.symm
    rw [hz', Bool.false_or] at ho
    simp [zi9, hlt, hz]
    rw [zam (by omega) (by omega)]
    refine hKb _ _ ⟨ws.length - (i + 1), by omega, Back.here (Nat.le_refl _) hs ?_ ⟨_, rfl, i + 1, by omega, rfl, by simp, ho, rfl⟩⟩
    simp [zja, AV.sc, AV.scV, AV.scA, AV.scB]
  ·simp [zi9, hlt]
   obtain rfl : i = ws.length := by omega
   rw [List.drop_length] at ho
   rw [← ho] at hO
   exact hO
end Go.Proofs.YtddlhljflggenaaGreatDoor
namespace Go.Proofs.YtddlhljflggenaaGreatDoor
open Go Go.Abs
theorem zrw {b : UInt8} (h : zaJ b = true) : 48 ≤ (b.toNat : Int) ∧ (b.toNat : Int) ≤ 57 := by simpa [zaJ] using h
theorem zBE (s : List UInt8) (hd : ∀ b ∈ s, zaJ b = true) (hl : s.length ≤ 1000000) (H : zaa) (K : AV → zaa → Prop) (hK : K (.bool (zbD s 0)) H) : ACalls tP zge [.str s] H K := by
 refine ACalls.out (zEY fun hs => ?_)
 have hO := zci (K := K) (H := H) (r := .bool (zbD s 0)) hs rfl rfl hK
 simp [zu3]
 refine zEW (Inv := fun q t3 t7 H' => ∃ (i : Nat) (n : Int), i ≤ s.length ∧ q = s.length - i ∧ t7 = .int .i64 i ∧ t3 = .int .i64 n ∧ 0 ≤ n ∧ n ≤ 1000000 ∧ zbD (s.drop i) n = zbD s 0 ∧ H' = H) s.length ?_ ?_
 ·intro _; exact ⟨0, 0, by omega, by omega, rfl, rfl, by omega, by omega, by simp, rfl⟩
 ·rintro q t3 t7 H' ⟨i, n, hi, rfl, rfl, rfl, hn0, hn1, ho, rfl⟩ hsc _ hsF Kb hKb
  by_cases hlt : i < s.length
  ·have hb := zrw (hd s[i] (List.getElem_mem hlt))
   rw [List.drop_eq_getElem_cons hlt, zbD] at ho
   simp [znZ, hlt]
   rw [IntWalk.u8_in _ (by omega), zam (n := n * 10) (by omega) (by omega), zam (n := (s[i].toNat : Int) - 48) (by omega) (by omega), zam (by omega) (by omega), zam (by omega) (by omega)]
   by_cases hg : 1000000 < n * 10 + ((s[i].toNat : Int) - 48)
   ·rw [if_pos hg] at ho
    have hg' : decide (1000000 < n * 10 + ((s[i].toNat : Int) - 48)) = true := by simpa using hg
    rw [← ho] at hO
    rw [hg']
    simpa using hO
   ·rw [if_neg hg] at ho
    have hg' : decide (1000000 < n * 10 + ((s[i].toNat : Int) - 48)) = false := by simpa using hg
    rw [hg']
    simp only [zqY, Bool.false_eq_true, if_false]
    refine hKb _ _ ⟨s.length - (i + 1), by omega, Back.here (Nat.le_refl _) hs ?_ ⟨_, _, rfl, i + 1, _, by omega, rfl, by simp, rfl, by omega, by omega, ho, rfl⟩⟩
    simp [zjk, AV.sc, AV.scV, AV.scA, AV.scB]
  ·simp [znZ, hlt]
   obtain rfl : i = s.length := by omega
   rw [List.drop_length, zbD] at ho
   rw [← ho] at hO
   exact hO
theorem ztf (cl : UInt8 → Bool) (f : FuncId) (hcl : zdm tP f = true) (hf : ∀ (b : UInt8) (H : zaa) (K : AV → zaa → Prop), K (.bool (cl b)) H → ACalls tP f [.int .u8 b.toNat] H K)
  (s : List UInt8) (hl : s.length ≤ 1000000) (H : zaa) (K : AV → zaa → Prop) (hK : K (.str (s.takeWhile cl)) H) : ACalls tP zhY [.str s, .fn f []] H K := by
 refine ACalls.out (zEJ fun hs => ?_)
 have hO := zci (K := K) (H := H) (r := .str (s.takeWhile cl)) hs rfl rfl hK
 simp [zuY]
 refine zEH (Inv := fun q t5 H' => ∃ i : Nat, i ≤ s.length ∧ q = s.length - i ∧ t5 = .int .i64 i ∧ s.take i ++ (s.drop i).takeWhile cl = s.takeWhile cl ∧ H' = H) s.length ?_ ?_
 ·intro _; exact ⟨0, by omega, by omega, rfl, by simp, rfl⟩
 ·rintro q t5 H' ⟨i, hi, rfl, rfl, ho, rfl⟩ hsc _ hsF Kb hKb
  by_cases hlt : i < s.length
  ·rw [List.drop_eq_getElem_cons hlt, List.takeWhile_cons] at ho
   simp [znX, hlt]
   simp only [aCallV, hcl, List.append_nil]
   refine hf _ _ _ ?_
   cases hc : cl s[i] with
   | true =>
    rw [hc, if_pos rfl, List.append_cons, ← List.take_succ_eq_append_getElem hlt] at ho
    simp
    rw [zam (by omega) (by omega)]
    refine hKb _ _ ⟨s.length - (i + 1), by omega, Back.here (Nat.le_refl _) hs ?_ ⟨_, rfl, i + 1, by omega, rfl, by simp, ho, rfl⟩⟩
    simp [zji, AV.sc, AV.scV, AV.scA, AV.scB]
   | false =>
    rw [hc, if_neg (by simp), List.append_nil] at ho
    rw [← ho] at hO
    simp [hi]
    exact hO
  ·simp [znX, hlt]
   obtain rfl : i = s.length := by omega
   rw [List.drop_length, List.takeWhile_nil, List.append_nil, List.take_length] at ho
   rw [← ho] at hO
   simpa using hO
theorem zCz (s : List UInt8) (hd : ∀ b ∈ s, zaJ b = true) (hl : s.length ≤ 1000000) (H : zaa) (K : AV → zaa → Prop) (hK : ∀ n, K (.tup [.int .i64 n, .bool (zbD s 0)]) H) : ACalls tP zeY [.str s] H K := by
 refine ACalls.out (zD9 fun hs => ?_)
 have hO : ∀ n, Out H.length K (.tup [.int .i64 n, .bool (zbD s 0)]) H := fun n => Out.tup0 hs (hK n) ⟨zaC rfl rfl, zaC rfl rfl, trivial⟩
 simp only [zuO]
 refine zD7 (Inv := fun q t3 t7 H' => ∃ (i : Nat) (n : Int), i ≤ s.length ∧ q = s.length - i ∧ t7 = .int .i64 i ∧ t3 = .int .i64 n ∧ 0 ≤ n ∧ n ≤ 1000000 ∧ zbD (s.drop i) n = zbD s 0 ∧ H' = H) s.length ?_ ?_
 ·intro _; exact ⟨0, 0, by omega, by omega, rfl, rfl, by omega, by omega, by simp, rfl⟩
 ·rintro q t3 t7 H' ⟨i, n, hi, rfl, rfl, rfl, hn0, hn1, ho, rfl⟩ hsc _ hsF Kb hKb
  by_cases hlt : i < s.length
  ·have hb := zrw (hd s[i] (List.getElem_mem hlt))
   rw [List.drop_eq_getElem_cons hlt, zbD] at ho
   simp [znR, hlt]
   rw [IntWalk.u8_in _ (by omega), zam (n := n * 10) (by omega) (by omega), zam (n := (s[i].toNat : Int) - 48) (by omega) (by omega), zam (by omega) (by omega), zam (by omega) (by omega)]
   by_cases hg : 1000000 < n * 10 + ((s[i].toNat : Int) - 48)
   ·rw [if_pos hg] at ho
    have hg' : decide (1000000 < n * 10 + ((s[i].toNat : Int) - 48)) = true := by simpa using hg
    rw [← ho] at hO
    rw [hg']
    simpa [AV.isV] using hO 0
   ·rw [if_neg hg] at ho
    have hg' : decide (1000000 < n * 10 + ((s[i].toNat : Int) - 48)) = false := by simpa using hg
    rw [hg']
    simp only [zqY, Bool.false_eq_true, if_false]
    refine hKb _ _ ⟨s.length - (i + 1), by omega, Back.here (Nat.le_refl _) hs ?_ ⟨_, _, rfl, i + 1, _, by omega, rfl, by simp, rfl, by omega, by omega, ho, rfl⟩⟩
    simp [zjc, AV.sc, AV.scV, AV.scA, AV.scB]
  ·simp [znR, hlt, AV.isV]
   obtain rfl : i = s.length := by omega
   rw [List.drop_length, zbD] at ho
   rw [← ho] at hO
   exact hO n
theorem zCp (b : UInt8) (r : List UInt8) : (b :: r).take 1 = [b] := by simp
theorem zmY {s : List UInt8} (h : ¬ 2 ≤ s.length) : zcI s = false := by
 match s, h with
 | [], _ => rfl
 | [b], _ => simp [zcI]
 | _ :: _ :: _, h => simp at h
theorem ztK (b : UInt8) (r : List UInt8) (h : zcI (b :: r) = false) : sgn (b :: r) = if sgns.contains b = true then 1 else 0 := by simp [sgn, h]
theorem zBz (b : UInt8) (r : List UInt8) (H : zaa) (K : AV → zaa → Prop) (hK : K (.str ((b :: r).take (sgn (b :: r)))) H) : ACalls tP zmd [.str (b :: r)] H K := by
 refine ACalls.out (zE2 fun hs => ?_)
 have hO := zci (K := K) (H := H) (r := .str ((b :: r).take (sgn (b :: r)))) hs rfl rfl hK
 have one : zcI (b :: r) = false → zjl (.str (b :: r)) H (Out H.length K) := by
  intro h2
  rw [ztK b r h2] at hO
  have hO : Out H.length K (.str (if sgns.contains b = true then [b] else [])) H := by
   cases hc : sgns.contains b <;> rw [hc] at hO <;> simpa using hO
  have step : ∀ (c : UInt8) (cs : List UInt8) (rest : Prop), (Out H.length K (.str (if cs.contains b = true then [b] else [])) H → rest) → Out H.length K (.str (if (c :: cs).contains b = true then [b] else [])) H →
    zac .eql false (.str [b]) (.str [c]) fun t => zaf t (zbQ (.str (b :: r)) t H (Out H.length K)) rest := by
   intro c cs rest h h'
   rw [List.contains_cons] at h'
   cases e : (b == c) with
   | true => rw [e] at h'; simpa [zbQ, e] using h'
   | false =>
    rw [e, Bool.false_or] at h'
    simpa [zbQ, e] using h h'
  unfold zjl
  simp only [zyy, zyv, zyu, Int.toNat_one, zCp, List.drop_zero]
  refine ⟨by decide, ⟨by omega, by simp⟩, ?_⟩
  revert hO
  unfold sgns
  iterate 12 refine step _ _ _ ?_
  intro h'
  rw [List.contains_cons] at h'
  cases e : (b == 95) <;> rw [e] at h' <;> simpa [zbQ, e] using h'
 by_cases hl : 2 ≤ (b :: r).length
 ·have hl' : (2 : Int) ≤ r.length + 1 := by simp only [List.length_cons] at hl; omega
  have hl2 : 1 ≤ r.length := by simp only [List.length_cons] at hl; omega
  cases h2 : zcI (b :: r) with
  | true =>
   have h3 : sgn (b :: r) = 2 := by simp [sgn, h2]
   rw [h3] at hO
   unfold zcI at h2
   simp only [List.take_succ_cons] at h2 hO
   cases e1 : (b :: List.take 1 r == [45, 62]) with
   | true => simpa [zfo, hl', hl2, zew, e1] using hO
   | false =>
    cases e2 : (b :: List.take 1 r == [60, 61]) with
    | true => simpa [zfo, hl', hl2, zew, e1, e2] using hO
    | false =>
     rw [e1, e2] at h2
     simp only [Bool.false_or] at h2
     simpa [zfo, hl', hl2, zew, e1, e2, h2] using hO
  | false =>
   have ho := one h2
   unfold zcI at h2
   simp only [List.take_succ_cons] at h2
   rw [Bool.or_eq_false_iff, Bool.or_eq_false_iff] at h2
   simpa [zfo, hl', hl2, zew, h2.1.1, h2.1.2, h2.2] using ho
 ·have ho := one (zmY hl)
  have : ¬ ((2 : Int) ≤ r.length + 1) := by simp only [List.length_cons] at hl; omega
  simpa [zfo, this] using ho
end Go.Proofs.YtddlhljflggenaaGreatDoor
namespace Go.Proofs.YtddlhljflggenaaGreatDoor
open Go Go.Abs
set_option maxRecDepth 4000
theorem zBy (b : UInt8) (r : List UInt8) (H : zaa) (K : AV → zaa → Prop) (hK : K (.int .i64 (sgn (b :: r))) H) : ACalls tP zl7 [.str (b :: r)] H K := by
 refine ACalls.out (zEi fun hs => ?_)
 have hO := zci (K := K) (H := H) (r := .int .i64 (sgn (b :: r))) hs rfl rfl hK
 have one : zcI (b :: r) = false → znU (.str (b :: r)) (.str sgns) (.int .i64 0) H (Out H.length K) := by
  intro h2
  rw [ztK b r h2] at hO
  have hlen : sgns.length = 13 := rfl
  generalize sgns = ws at *
  refine zEg (Inv := fun q t4 H' => ∃ i : Nat, i ≤ ws.length ∧ q = ws.length - i ∧ t4 = .int .i64 i ∧ (ws.drop i).contains b = ws.contains b ∧ H' = H) ws.length ?_ ?_
  ·intro _; exact ⟨0, by omega, by omega, rfl, by simp, rfl⟩
  ·rintro q t8 H' ⟨i, hi, rfl, rfl, ho, rfl⟩ hsc _ hsF Kb hKb
   by_cases hlt : i < ws.length
   ·rw [List.drop_eq_getElem_cons hlt, List.contains_cons] at ho
    have e1 := zbP b ws[i]
    cases hz : (b == ws[i]) with
    | true =>
     rw [hz, Bool.true_or] at ho
     rw [← ho] at hO
     simpa [zje, hlt, e1, hz] using hO
    | false =>
     rw [hz, Bool.false_or] at ho
     simp [zje, hlt, e1, hz]
     rw [zam (by omega) (by omega)]
     refine hKb _ _ ⟨ws.length - (i + 1), by omega, Back.here (Nat.le_refl _) hs ?_ ⟨_, rfl, i + 1, by omega, rfl, by simp, ho, rfl⟩⟩
     simp [zjf, AV.sc, AV.scV, AV.scA, AV.scB]
   ·obtain rfl : i = ws.length := by omega
    rw [List.drop_length] at ho
    rw [← ho] at hO
    simpa [zje, hlt] using hO
 by_cases hl : 2 ≤ (b :: r).length
 ·have hl' : (2 : Int) ≤ r.length + 1 := by simp only [List.length_cons] at hl; omega
  have hl2 : 1 ≤ r.length := by simp only [List.length_cons] at hl; omega
  cases h2 : zcI (b :: r) with
  | true =>
   have h3 : sgn (b :: r) = 2 := by simp [sgn, h2]
   rw [h3] at hO
   unfold zcI at h2
   simp only [List.take_succ_cons] at h2 hO
   cases e1 : (b :: List.take 1 r == [45, 62]) with
   | true => simpa [zfl, hl', hl2, e1] using hO
   | false =>
    cases e2 : (b :: List.take 1 r == [60, 61]) with
    | true => simpa [zfl, hl', hl2, e1, e2] using hO
    | false =>
     rw [e1, e2] at h2
     simp only [Bool.false_or] at h2
     simpa [zfl, hl', hl2, e1, e2, h2] using hO
  | false =>
   have ho := one h2
   unfold sgns at ho
   unfold zcI at h2
   simp only [List.take_succ_cons] at h2
   rw [Bool.or_eq_false_iff, Bool.or_eq_false_iff] at h2
   simpa [zfl, hl', hl2, h2.1.1, h2.1.2, h2.2] using ho
 ·have ho := one (zmY hl)
  unfold sgns at ho
  have : ¬ ((2 : Int) ≤ r.length + 1) := by simp only [List.length_cons] at hl; omega
  simpa [zfl, this] using ho

def Tk.cs (t : Tk) : List AV := [.int .i64 t.kind, .str t.text, .int .i64 t.pos]
def ziu (kw : List UInt8 → Bool) (b : UInt8) (r : List UInt8) (i : Nat) : AV :=
 match tok kw b r with
 | .error e => .tup [.agg [.int .i64 0, .str [], .int .i64 0], .int .i64 e]
 | .ok (k, n) => .tup [.agg (Tk.cs ⟨k, (b :: r).take n, i⟩), .int .i64 0]
theorem ziB {p : UInt8 → Bool} (b : UInt8) (r : List UInt8) : (b :: r).take ((r.takeWhile p).length + 1) = b :: r.takeWhile p := by
 rw [List.take_succ_cons]
 congr 1
 induction r with
 | nil => simp
 | cons c r ih => by_cases h : p c = true <;> simp [h, ih]
theorem zz3 : zdm tP zgd = true := by kernel_rfl
theorem zz4 : zdm tP zep = true := by kernel_rfl
theorem zsZ {H J : zaa} {K : AV → zaa → Prop} {k p e : Int} {t : List UInt8} (hs : HSc H) (h : K (.tup [.agg [.int .i64 k, .str t, .int .i64 p], .int .i64 e]) H) :
  Out H.length K (.tup [.agg [.int .i64 k, .str t, .int .i64 p], .int .i64 e]) (H ++ J) := Out.tup hs h ⟨zaC rfl rfl, zaC rfl rfl, trivial⟩
def zjg (t4 t6 : AV) (H : zaa) (K : AV → zaa → Prop) : Prop :=
 zag 1 t6 fun t69 =>
 zad false 1 t69 H fun t70 =>
 ACalls tP zge [t70] H fun t71 H =>
 aUn .not t71 fun t72 =>
 zaf t72
 (zau [(.int .i64 0), (.str []), (.int .i64 0)] [(0, 1), (1, 1), (2, 1)] [] fun t73 =>
 zal 3 t4 t73 H fun H =>
 zad true 3 t4 H fun r0 =>
 zaw [r0, (.int .i64 9)] (K · H))
 (zfn t4 t6 H K)
theorem zBk (s : List UInt8) (hl : s.length ≤ 1000000) (i : Nat) (hi : i < s.length) (H : zaa) (K : AV → zaa → Prop) (hK : K (ziu (kwF kwds) s[i] (s.drop (i + 1)) i) H) : ACalls tP zma [.str s, .int .i64 i] H K := by
 refine ACalls.out (zEp fun hs => ?_)
 have hdr := List.drop_eq_getElem_cons hi
 have hrl : (s.drop i).length ≤ 1000000 := by simp; omega
 generalize hb : s[i] = b at *
 generalize hr : s.drop (i + 1) = r at *
 have hb' : s[i]?.getD 0 = b := by simp [hi, hb]
 have post : ∀ (k : Int) (n : Nat), tok (kwF kwds) b r = .ok (k, n) → ∀ t, (b :: r).take n = t → zfn (.ptr H.length 0) (.ptr (H.length + 1) 0) (H ++ [.cells [.int .i64 0, .str [], .int .i64 0], .cells [.int .i64 k, .str t, .int .i64 i]]) (Out H.length K) := by
  intro k n ht t hte
  subst hte
  simp [ziu, ht, Tk.cs] at hK
  simp [zfn, zuS, AV.known, AV.isV]
  exact zsZ hs hK
 have bad : ∀ e : Int, tok (kwF kwds) b r = .error e → ∀ J, Out H.length K (.tup [.agg [.int .i64 0, .str [], .int .i64 0], .int .i64 e]) (H ++ J) := by
  intro e ht J
  simp [ziu, ht] at hK
  exact zsZ hs hK
 have hi' := Nat.le_of_lt hi
 by_cases hLU : (zbr b || bUp b) = true
 ·have hin : bIn b = true := by simp [bIn, hLU]
  simp [znV, hi, hb, hi', zau, zaH, AV.known]
  refine zl2 b _ _ ?_
  have hc : zbr b = true ∨ (zbr b = false ∧ bUp b = true) := by cases hL : zbr b <;> simp [hL] at hLU ⊢; exact hLU
  have hpost := fun k => post k ((r.takeWhile bIn).length + 1)
  simp only [tok, hLU, if_true, ziB] at hpost
  rcases hc with hL | ⟨hL, hU⟩
  case' inl => simp [hL]
  case' inr => simp [hL]; refine ziJ b _ _ ?_; simp [hU]
  all_goals
   rw [hdr]
   refine ztf bIn zgd zz3 zCJ (b :: r) (by rw [← hdr]; exact hrl) _ _ ?_
   simp [hin, AV.known]
   by_cases hn : (r.takeWhile bIn).length + 1 > 24
   ·have hn' : (24 : Int) < (r.takeWhile bIn).length + 1 := by omega
    have := bad 9 (by simp only [tok, hLU, if_true]; rw [if_pos hn])
    simp [hn', AV.known, AV.isV]
    exact this _
   ·have hn' : ¬ (24 : Int) < (r.takeWhile bIn).length + 1 := by omega
    simp [hn']
    refine ziJ b _ _ ?_
    rw [if_neg hn] at hpost
    cases hU : bUp b with
    | true =>
     simp [AV.known, zfm]
     exact hpost 2 (by simp [hU]) _ rfl
    | false =>
     simp [AV.known]
     refine zz1 _ _ _ ?_
     cases hkw : kwF kwds (b :: r.takeWhile bIn) with
     | true =>
      simp [AV.known, zfm]
      exact hpost 4 (by simp [hU, hkw]) _ rfl
     | false =>
      simp [AV.known, zfm]
      exact hpost 1 (by simp [hU, hkw]) _ rfl
 ·have hL : zbr b = false := by simp at hLU; exact hLU.1
  have hU : bUp b = false := by simp at hLU; exact hLU.2
  simp [znV, hi, hb, zau, zaH, AV.known]
  refine zl2 b _ _ ?_
  simp [hL]
  refine ziJ b _ _ ?_
  simp [hU]
  refine zlE b _ _ ?_
  cases hD : zaJ b with
  | true =>
   simp [hi', AV.known]
   rw [hdr]
   refine ztf zaJ zep zz4 zlE (b :: r) (by rw [← hdr]; exact hrl) _ _ ?_
   have e1 : ((b.toNat : Int) == 48) = (b == 48) := zbP b 48
   have htk : tok (kwF kwds) b r = if (b == 48 && decide ((r.takeWhile zaJ).length + 1 > 1)) = true then .error 2 else if zbD (b :: r.takeWhile zaJ) 0 = true then .ok (3, (r.takeWhile zaJ).length + 1) else .error 9 := by
    simp only [tok, hLU, hD, if_true, ziB]
    rfl
   have hsm : ∀ J, ACalls tP zge [.str (b :: r.takeWhile zaJ)] (H ++ J) fun t H' => t = .bool (zbD (b :: r.takeWhile zaJ) 0) ∧ H' = H ++ J := by
    intro J
    refine zBE _ ?_ ?_ _ _ ⟨rfl, rfl⟩
    ·intro c hc
     rcases List.mem_cons.1 hc with rfl | hc
     ·exact hD
     ·exact List.all_eq_true.1 (List.all_takeWhile) c hc
    ·have h1 : (r.takeWhile zaJ).length ≤ r.length := (List.takeWhile_sublist _).length_le
     rw [hdr] at hrl
     simp at hrl ⊢
     omega
   simp [hD, AV.known, e1]
   have hpost := post 3 ((r.takeWhile zaJ).length + 1)
   rw [ziB] at hpost
   rw [htk] at hpost bad
   have last : ∀ J, (¬ (b == 48 && decide ((r.takeWhile zaJ).length + 1 > 1)) = true) → J = [.cells [.int .i64 0, .str [], .int .i64 0], .cells [.int .i64 3, .str (b :: r.takeWhile zaJ), .int .i64 i]] → zjg (.ptr H.length 0) (.ptr (H.length + 1) 0) (H ++ J) (Out H.length K) := by
    rintro J hne rfl
    rw [if_neg hne] at hpost bad
    simp [zjg]
    refine (hsm _).mono ?_
    rintro _ _ ⟨rfl, rfl⟩
    cases hv : zbD (b :: r.takeWhile zaJ) 0 with
    | true =>
     simp
     exact hpost (by simp [hv]) _ rfl
    | false =>
     simp [AV.known, zau, zaH, AV.isV]
     exact bad 9 (by simp [hv]) _
   cases hz : (b == 48) with
   | true =>
    simp [hz]
    by_cases hn : 1 < (r.takeWhile zaJ).length + 1
    ·have hn' : (1 : Int) < (r.takeWhile zaJ).length + 1 := by omega
     have hd : decide ((r.takeWhile zaJ).length + 1 > 1) = true := decide_eq_true hn
     have := bad 2 (by rw [hz, hd]; rfl)
     simp [hn', AV.known, AV.isV]
     exact this _
    ·have hn' : ¬ (1 : Int) < (r.takeWhile zaJ).length + 1 := by omega
     have hd : decide ((r.takeWhile zaJ).length + 1 > 1) = false := decide_eq_false hn
     have := last _ (by rw [hz, hd]; decide) rfl
     simp [zjg, zau, zaH] at this
     simp [hn']
     exact this
   | false =>
    have := last _ (by simp [hz]) rfl
    simp [zjg, zau, zaH] at this
    simp [hz]
    exact this
  | false => 
   simp [hi', AV.known]
   rw [hdr]
   refine zBz b r _ _ ?_
   simp [AV.known]
   have htk : tok (kwF kwds) b r = if sgn (b :: r) = 0 then .error 2 else .ok (5, sgn (b :: r)) := by
    simp only [tok, hLU, hD]
    rfl
   by_cases hz : sgn (b :: r) = 0
   ·have := bad 2 (by rw [htk, if_pos hz])
    simp [hz, AV.isV]
    exact this _
   ·have := post 5 (sgn (b :: r)) (by rw [htk, if_neg hz]) _ rfl
    have he : (List.take (sgn (b :: r)) (b :: r)).isEmpty = false := by
     cases h : sgn (b :: r) with
     | zero => exact absurd h hz
     | succ n => simp
    simp [he]
    exact this
def cat (l : List Tk) : Except (Nat × Int) (List Tk) → Except (Nat × Int) (List Tk)
 | .error e => .error e
 | .ok m => .ok (l ++ m)
theorem zrC (l m : List Tk) (r : Except (Nat × Int) (List Tk)) : cat l (cat m r) = cat (l ++ m) r := by cases r <;> simp [cat]
@[simp] theorem zOy (r : Except (Nat × Int) (List Tk)) : cat [] r = r := by cases r <;> rfl
def zdv (r : List UInt8) : List UInt8 := r.dropWhile (· != 10)
def zdw (r : List UInt8) : Nat := (r.takeWhile (· != 10)).length
section
variable (kw : List UInt8 → Bool)
theorem znb (p : Nat) : zba kw [] p = .ok [⟨6, [], p⟩] := by unfold zba; rfl
theorem zt3 {b : UInt8} (h : zcD b = true) (r : List UInt8) (p : Nat) : zba kw (b :: r) p = zba kw r (p + 1) := by
 conv => lhs; unfold zba
 simp [h]
theorem zt5 {b : UInt8} (h0 : zcD b = false) (h : (b == 35) = true) (r : List UInt8) (p : Nat) : zba kw (b :: r) p = zba kw (zdv r) (p + 1 + zdw r) := by
 conv => lhs; unfold zba
 simp only [h0, h, Bool.false_eq_true, if_false, if_true]
 rfl
theorem zt4 {b : UInt8} (h0 : zcD b = false) (h : (b == 35) = false) {r : List UInt8} {p : Nat} {e : Int} (ht : tok kw b r = .error e) : zba kw (b :: r) p = .error (p, e) := by
 conv => lhs; unfold zba
 simp only [h0, h, Bool.false_eq_true, if_false, ht]
theorem zt6 {b : UInt8} (h0 : zcD b = false) (h : (b == 35) = false) {r : List UInt8} {p : Nat} {k : Int} {n : Nat} (ht : tok kw b r = .ok (k, n)) :
  zba kw (b :: r) p = cat [⟨k, (b :: r).take n, p⟩] (zba kw ((b :: r).drop n) (p + n)) := by
 conv => lhs; unfold zba
 have hn := zna ht
 obtain ⟨m, rfl⟩ : ∃ m, n = m + 1 := ⟨n - 1, by omega⟩
 simp only [h0, h, Bool.false_eq_true, if_false, ht, Nat.add_sub_cancel, List.drop_succ_cons]
 cases zba kw (r.drop m) (p + (m + 1)) <;> rfl
end
theorem ziw {b : UInt8} (h : (b == 10) = false) (r : List UInt8) : zdv (b :: r) = zdv r ∧ zdw (b :: r) = 1 + zdw r := by
 have hb : b ≠ 10 := by simpa using h
 constructor
 ·simp [zdv, hb]
 ·simp [zdw, hb]; omega
theorem ztL {b : UInt8} (h : (b == 10) = true) (r : List UInt8) : zdv (b :: r) = b :: r ∧ zdw (b :: r) = 0 := by
 have hb : b = 10 := by simpa using h
 constructor
 ·simp [zdv, hb]
 ·simp [zdw, hb]
theorem skipC_nil : zdv [] = [] ∧ zdw [] = 0 := ⟨rfl, rfl⟩
theorem zm9 {kw : List UInt8 → Bool} {b : UInt8} {r : List UInt8} {k : Int} {n : Nat} (h : tok kw b r = .ok (k, n)) : n ≤ (b :: r).length := by
 have tw : ∀ p : UInt8 → Bool, (r.takeWhile p).length ≤ r.length := fun p => (List.takeWhile_sublist _).length_le
 unfold tok at h
 split at h
 ·simp only at h; split at h <;> simp at h; have := tw bIn; simp; omega
 ·split at h
  ·simp only at h; split at h
   ·simp at h
   ·split at h <;> simp at h; have := tw zaJ; simp; omega
  ·simp only at h
   split at h <;> simp at h
   obtain ⟨_, rfl⟩ := h
   unfold sgn
   split
   ·rename_i h2
    by_cases hl : 2 ≤ (b :: r).length
    ·exact hl
    ·rw [zmY hl] at h2; cases h2
   ·split
    ·simp
    ·split <;> simp
theorem zCq {kw : List UInt8 → Bool} {b : UInt8} {r : List UInt8} {e : Int} (h : tok kw b r = .error e) : e = 2 ∨ e = 9 := by
 unfold tok at h
 split at h
 ·simp only at h; split at h <;> simp at h; omega
 ·split at h
  ·simp only at h; split at h
   ·simp at h; omega
   ·split at h <;> simp at h; omega
  ·simp only at h
   split at h <;> simp at h; omega
def zdZ (s : List UInt8) : AV :=
 if s.length > 16384 then .tup [.sl [] .none, .int .i64 0, .int .i64 9] else
 match zba (kwF kwds) s 0 with
 | .error (p, e) => .tup [.sl [] .none, .int .i64 p, .int .i64 e]
 | .ok l => .tup [.sl (l.map Tk.cs) .none, .int .i64 0, .int .i64 0]
theorem two {H : zaa} {x y : AB} : H ++ [x, y] = (H ++ [x]) ++ [y] := by simp
theorem zsY {H J : zaa} {K : AV → zaa → Prop} {p e : Int} (hs : HSc H) (hK : K (.tup [.sl [] .none, .int .i64 p, .int .i64 e]) H) : Out H.length K (.tup [.snil, .int .i64 p, .int .i64 e]) (H ++ J) :=
 Out.tup hs hK ⟨zdY, zaC rfl rfl, zaC rfl rfl, trivial⟩
theorem zCf (s : List UInt8) (H : zaa) (K : AV → zaa → Prop) (hK : K (zdZ s) H) : ACalls tP zl5 [.str s] H K := by
 refine ACalls.out (zDH fun hs => ?_)
 by_cases hl : s.length > 16384
 ·have hl' : (16384 : Int) < s.length := by omega
  simp [znJ, hl', AV.isV]
  unfold zdZ at hK
  rw [if_pos hl] at hK
  exact Out.tup0 hs hK ⟨zdY, zaC rfl rfl, zaC rfl rfl, trivial⟩
 have hl' : ¬ (16384 : Int) < s.length := by omega
 unfold zdZ at hK
 rw [if_neg hl] at hK
 simp [znJ, hl']
 have hperm : ∀ n, HSc (H ++ [.perm zdN 3 n]) := fun n => hs.append rfl
 unfold zi7
 refine ALoop.own 5 zdN 3 rfl ?_
 show zi7 (.str s) (.sl [] (.own H.length)) (.int .i64 0) (H ++ [.perm zdN 3 0]) (Out H.length K)
 refine zDE (Inv := fun q t5 t6 H' => ∃ (i : Nat) (l : List Tk), i ≤ s.length ∧ l.length ≤ i ∧ q = s.length - i ∧ t6 = .int .i64 i ∧ t5 = .sl (l.map Tk.cs) (.own H.length) ∧ H' = H ++ [.perm zdN 3 l.length] ∧ cat l (zba (kwF kwds) (s.drop i) i) = zba (kwF kwds) s 0) s.length ?_ ?_
 ·intro _; exact ⟨0, [], by omega, by simp, by omega, rfl, rfl, rfl, by simp⟩
 ·rintro q t5 t6 H' ⟨i, l, hi, hll, rfl, rfl, rfl, rfl, ho⟩ hsc hlen hsF Kb hKb
  have done : cat l (.ok [⟨6, [], s.length⟩]) = zba (kwF kwds) s 0 → zi6 (.str s) (.sl (l.map Tk.cs) (.own H.length)) (H ++ [.perm zdN 3 l.length]) (Out H.length K) := by
   intro ho
   rw [← ho] at hK
   simp [zi6, zuG, zau, zaH, zay, za8, plain, AV.pd, zat, zaI, zaE, AV.isV]
   refine ⟨by omega, ?_⟩
   simp [cat, Tk.cs] at hK
   exact Out.tup hs hK ⟨slV, zaC rfl rfl, zaC rfl rfl, trivial⟩
  by_cases hlt : i < s.length
  ·have hdr := List.drop_eq_getElem_cons hlt
   simp [znK, hlt]
   refine zyV _ _ _ ?_
   have e35 : ((s[i].toNat : Int) == 35) = (s[i] == 35) := zbP s[i] 35
   cases hbl : zcD s[i] with
   | true =>
    rw [hdr, zt3 _ hbl] at ho
    simp [zfk]
    rw [zam (by omega) (by omega)]
    refine hKb _ _ ⟨s.length - (i + 1), by omega, Back.here (by simp) (hperm _) ?_ ⟨_, _, rfl, i + 1, l, by omega, by omega, rfl, by simp, rfl, rfl, ho⟩⟩
    simp [zfj, AV.sc, AV.scV, AV.scA, AV.scB]
   | false =>
    simp [e35]
    cases hsh : (s[i] == 35) with
    | true =>
     simp
     rw [hdr, zt5 _ hbl hsh] at ho
     have h10 : (s[i] == 10) = false := by
      rw [beq_iff_eq] at hsh; rw [hsh]; rfl
     obtain ⟨c1, c2⟩ := ziw h10 (s.drop (i + 1))
     rw [Nat.add_assoc, ← c1, ← c2, ← hdr] at ho
     refine zDF (Inv := fun q t6 H' => ∃ (j : Nat), i ≤ j ∧ j ≤ s.length ∧ q = s.length - j ∧ t6 = .int .i64 j ∧ H' = H ++ [.perm zdN 3 l.length] ∧ cat l (zba (kwF kwds) (zdv (s.drop j)) (j + zdw (s.drop j))) = zba (kwF kwds) s 0) (s.length - i) ?_ ?_
     ·intro _; exact ⟨i, by omega, by omega, by omega, rfl, rfl, ho⟩
     ·rintro q t6 H' ⟨j, hij, hj, rfl, rfl, rfl, ho⟩ hsc hlen hsF Kb9 hKb9
      by_cases hjlt : j < s.length
      ·have hdrj := List.drop_eq_getElem_cons hjlt
       have e10 : ((s[j].toNat : Int) == 10) = (s[j] == 10) := zbP s[j] 10
       simp [znL, hjlt, e10]
       cases hz : (s[j] == 10) with
       | true =>
        obtain ⟨d1, d2⟩ := ztL hz (s.drop (j + 1))
        rw [hdrj, d1, d2, ← hdrj, Nat.add_zero] at ho
        have hij' : i ≠ j := by rintro rfl; rw [h10] at hz; cases hz
        simp [zfk]
        refine hKb _ _ ⟨s.length - j, by omega, Back.here (by simp) (hperm _) ?_ ⟨_, _, rfl, j, l, by omega, by omega, rfl, by simp, rfl, rfl, ho⟩⟩
        simp [zfj, AV.sc, AV.scV, AV.scA, AV.scB]
       | false =>
        obtain ⟨d1, d2⟩ := ziw hz (s.drop (j + 1))
        rw [hdrj, d1, d2, ← Nat.add_assoc] at ho
        simp
        rw [zam (by omega) (by omega)]
        refine hKb9 _ _ ⟨s.length - (j + 1), by omega, Back.here (by simp) (hperm _) ?_ ⟨_, rfl, j + 1, by omega, by omega, rfl, by simp, rfl, ho⟩⟩
        simp [zi5, AV.sc, AV.scV, AV.scA, AV.scB]
      ·obtain rfl : j = s.length := by omega
       simp [znL]
       rw [List.drop_length, skipC_nil.1, skipC_nil.2, Nat.add_zero, znb] at ho
       exact done ho
    | false =>
     simp
     refine zBk s (by omega) i hlt _ _ ?_
     unfold ziu
     cases ht : tok (kwF kwds) s[i] (s.drop (i + 1)) with
     | error e =>
      rw [hdr, zt4 _ hbl hsh ht] at ho
      have he : (e != 0) = true := by rcases zCq ht with rfl | rfl <;> rfl
      rw [← ho] at hK
      simp [AV.known, AV.isV, he]
      exact zsY hs hK
     | ok kn =>
      obtain ⟨k, n⟩ := kn
      rw [hdr, zt6 _ hbl hsh ht, zrC, ← hdr] at ho
      have hn := zm9 ht
      rw [← hdr] at hn
      simp at hn
      have hn0 := zna ht
      simp [Tk.cs, AV.known, zay, za8, plain, AV.pd, zat, zaI, zaE, zfk]
      refine ⟨by omega, ?_⟩
      rw [show min n (s.length - i) = n by omega, zam (by omega) (by omega), two]
      refine hKb _ _ ⟨s.length - (i + n), by omega, Back.same (by simp) (hperm _) ?_ ⟨_, _, rfl, i + n, l ++ [⟨k, (s.drop i).take n, i⟩], by omega, by simp; omega, rfl, by simp, by simp [Tk.cs], by simp, ?_⟩⟩
      ·simp [zfj, AV.sc, AV.scV, AV.scA, AV.scB]
      ·rw [List.drop_drop] at ho; exact ho
  ·obtain rfl : i = s.length := by omega
   rw [List.drop_length, znb] at ho
   simpa [znK] using done ho
end Go.Proofs.YtddlhljflggenaaGreatDoor
