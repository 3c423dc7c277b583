import Derived.Test.YtjkkonpjecoieaaGreatKNum
import Derived.Test.YtjkkonpjecoieaaGreatProg
import Derived.KernelRfl
import Derived.Test.YtjkkonpjecoieaaGreatKGT1
import Derived.Test.YtjkkonpjecoieaaGreatAbsW
set_option linter.unusedSimpArgs false
set_option linter.unusedVariables false
namespace Go.Proofs.YtjkkonpjecoieaaGreat
open Go Go.Abs
set_option maxRecDepth 100000
def zJT (_ : Nat) : List Bool := []
noncomputable def zJU : Code := Tryz.f220.body.getD .skip
def zx0 (t4 t6 : AV) (H : zaa) (K : Kt) : Prop :=
 zad true 3 t6 H fun t74 =>
 zak 3 t4 t74 H fun H =>
 zad true 3 t4 H fun r0 =>
 zaD [r0, (.int .i64 0)] (K · H)
def zfR (t4 t6 : AV) (H : zaa) (K : Kt) : Prop :=
 zx0 t4 t6 H K
def zfQ (t4 t6 : AV) (H : zaa) (K : Kt) : Prop :=
 zfR t4 t6 H K
def zqg (t0 t1 : AV) (H : zaa) (K : Kt) : Prop :=
 zau [(.int .i64 0), (.str []), (.int .i64 0)] H fun t4 H =>
 zax [(.int .i64 0), (.str []), (.int .i64 0)] [(0, 1), (1, 1), (2, 1)] [(2, t1)] fun t9 =>
 zau [(.int .i64 0), (.str []), (.int .i64 0)] H fun t6 H =>
 zak 3 t6 t9 H fun H =>
 zbw t0 t1 fun t12 =>
 ACalls tP zif [t12] H fun t25 H =>
 zab t25 false H (fun K' => K' t12 H) fun t27 H =>
 zab t25 false H (fun K' => ACalls tP zgG [t27] H K') fun t28 H =>
 zai t25 (.bool true) t28 fun t29 =>
 zag t29
 (zaL 0 0 t0 (some t1) none fun t32 =>
 ACalls tP zig [t32, (.fn zgH [])] H fun t33 H =>
 zaf 1 t6 fun t34 =>
 zak 1 t34 t33 H fun H =>
 zaf 1 t6 fun t37 =>
 zad false 1 t37 H fun t38 =>
 zah 0 t38 fun t39 =>
 zac .gtr false t39 (.int .i64 24) fun t40 =>
 zag t40
 (zax [(.int .i64 0), (.str []), (.int .i64 0)] [(0, 1), (1, 1), (2, 1)] [] fun t41 =>
 zak 3 t4 t41 H fun H =>
 zad true 3 t4 H fun r0 =>
 zaD [r0, (.int .i64 9)] (K · H))
 (ACalls tP zgG [t12] H fun t44 H =>
 zag t44
 (zaf 0 t6 fun t45 =>
 zak 1 t45 (.int .i64 2) H fun H =>
 zfQ t4 t6 H K)
 (zaf 1 t6 fun t47 =>
 zad false 1 t47 H fun t48 =>
 ACalls tP znr [t48] H fun t49 H =>
 zag t49
 (zaf 0 t6 fun t50 =>
 zak 1 t50 (.int .i64 4) H fun H =>
 zfQ t4 t6 H K)
 (zaf 0 t6 fun t35 =>
 zak 1 t35 (.int .i64 1) H fun H =>
 zfQ t4 t6 H K))))
 (ACalls tP zeI [t12] H fun t53 H =>
 zag t53
 (zaf 0 t6 fun t54 =>
 zak 1 t54 (.int .i64 3) H fun H =>
 zaL 0 0 t0 (some t1) none fun t57 =>
 ACalls tP zig [t57, (.fn zeI [])] H fun t58 H =>
 zaf 1 t6 fun t59 =>
 zak 1 t59 t58 H fun H =>
 zac .eql false t12 (.int .u8 48) fun t61 =>
 zab t61 true H (fun K' => zaf 1 t6 (K' · H)) fun t63 H =>
 zab t61 true H (fun K' => zad false 1 t63 H (K' · H)) fun t64 H =>
 zab t61 true H (fun K' => zah 0 t64 (K' · H)) fun t65 H =>
 zab t61 true H (fun K' => zac .gtr false t65 (.int .i64 1) (K' · H)) fun t66 H =>
 zai t61 t66 (.bool false) fun t67 =>
 zag t67
 (zax [(.int .i64 0), (.str []), (.int .i64 0)] [(0, 1), (1, 1), (2, 1)] [] fun t68 =>
 zak 3 t4 t68 H fun H =>
 zad true 3 t4 H fun r0 =>
 zaD [r0, (.int .i64 2)] (K · H))
 (zaf 1 t6 fun t69 =>
 zad false 1 t69 H fun t70 =>
 ACalls tP zgI [t70] H fun t71 H =>
 aUn .not t71 fun t72 =>
 zag t72
 (zax [(.int .i64 0), (.str []), (.int .i64 0)] [(0, 1), (1, 1), (2, 1)] [] fun t73 =>
 zak 3 t4 t73 H fun H =>
 zad true 3 t4 H fun r0 =>
 zaD [r0, (.int .i64 9)] (K · H))
 (zfR t4 t6 H K)))
 (zaf 0 t6 fun t13 =>
 zak 1 t13 (.int .i64 5) H fun H =>
 zaL 0 0 t0 (some t1) none fun t16 =>
 ACalls tP zns [t16] H fun t17 H =>
 zaf 1 t6 fun t18 =>
 zak 1 t18 t17 H fun H =>
 zaf 1 t6 fun t19 =>
 zad false 1 t19 H fun t20 =>
 zac .eql false t20 (.str []) fun t21 =>
 zag t21
 (zax [(.int .i64 0), (.str []), (.int .i64 0)] [(0, 1), (1, 1), (2, 1)] [] fun t22 =>
 zak 3 t4 t22 H fun H =>
 zad true 3 t4 H fun r0 =>
 zaD [r0, (.int .i64 2)] (K · H))
 (zfR t4 t6 H K)))
theorem zJV {t0 t1 : AV} {H : zaa} {K : Kt} (h : HSc H → zqg t0 t1 H K) : ACalls tP znq [t0, t1] H K :=
 zam (M := zJT) Tryz.func220 (c := zJU) (by kernel_rfl) (fun hs => Eq.mpr (by kernel_rfl) (h hs))
def zH3 (_ : Nat) : List Bool := []
noncomputable def zH4 : Code := Tryz.f171.body.getD .skip
def zxp (t0 : AV) (H : zaa) (K : Kt) : Prop :=
 zac .geq false t0 (.int .u8 97) fun t4 =>
 zab t4 true H (fun K' => K' t0 H) fun t6 H =>
 zab t4 true H (fun K' => zac .leq false t6 (.int .u8 122) (K' · H)) fun t7 H =>
 zai t4 t7 (.bool false) fun t8 =>
 K t8 H
theorem zH5 {t0 : AV} {H : zaa} {K : Kt} (h : HSc H → zxp t0 H K) : ACalls tP zh5 [t0] H K :=
 zam (M := zH3) Tryz.func171 (c := zH4) (by kernel_rfl) (fun hs => Eq.mpr (by kernel_rfl) (h hs))
def zH6 (_ : Nat) : List Bool := []
noncomputable def zH7 : Code := Tryz.f172.body.getD .skip
def zxr (t0 : AV) (H : zaa) (K : Kt) : Prop :=
 zac .geq false t0 (.int .u8 65) fun t4 =>
 zab t4 true H (fun K' => K' t0 H) fun t6 H =>
 zab t4 true H (fun K' => zac .leq false t6 (.int .u8 90) (K' · H)) fun t7 H =>
 zai t4 t7 (.bool false) fun t8 =>
 K t8 H
theorem zH8 {t0 : AV} {H : zaa} {K : Kt} (h : HSc H → zxr t0 H K) : ACalls tP zfq [t0] H K :=
 zam (M := zH6) Tryz.func172 (c := zH7) (by kernel_rfl) (fun hs => Eq.mpr (by kernel_rfl) (h hs))
def zH9 (_ : Nat) : List Bool := []
noncomputable def zIa : Code := Tryz.f173.body.getD .skip
def zxs (t0 : AV) (H : zaa) (K : Kt) : Prop :=
 zac .geq false t0 (.int .u8 48) fun t4 =>
 zab t4 true H (fun K' => K' t0 H) fun t6 H =>
 zab t4 true H (fun K' => zac .leq false t6 (.int .u8 57) (K' · H)) fun t7 H =>
 zai t4 t7 (.bool false) fun t8 =>
 K t8 H
theorem zIb {t0 : AV} {H : zaa} {K : Kt} (h : HSc H → zxs t0 H K) : ACalls tP zgE [t0] H K :=
 zam (M := zH9) Tryz.func173 (c := zIa) (by kernel_rfl) (fun hs => Eq.mpr (by kernel_rfl) (h hs))
def zke : Nat → List Bool
 | 3 => rl false [0,1,2,2,13]
 | _ => []
noncomputable def zpJ : Code := Tryz.f174.body.getD .skip
noncomputable def zIh : List ResultVar := Tryz.f174.results.toList
def zkg (t0 t3 t4 : AV) : List AV := t0 :: ux 2 (t3 :: t4 :: ux 13 [])
def zIf : List Bool := zke 3
noncomputable def zId : Code := zas [1, 1, 0, 1, 0, 0] zpJ
def zIc (K : Kt) : AExit → List AV → zaa → Prop := zat tP zke [1, 1, 0, 1, 0] zpJ (zaA tP zIh K)
def zpK (t0 t3 t4 : AV) (H : zaa) (K : Kt) : Prop := ALoop tP zId (zIc K) (zkg t0 t3 t4) H
def zkf (t0 t3 t4 : AV) (H : zaa) (K : Kt) (Kb3 : Lt) : Prop :=
 zah 1 t3 fun t8 =>
 zac .lss false t4 t8 fun t9 =>
 zag t9
 (zaj 1 t3 t4 fun t14 =>
 zad false 1 t14 H fun t15 =>
 zac .eql false t15 t0 fun t17 =>
 zag t17
 (K (.bool true) H)
 (zac .add false t4 (.int .i64 1) fun t11 =>
 Kb3 (zkg t0 t3 t11) H))
 (K (.bool false) H)
def zxt (t0 : AV) (H : zaa) (K : Kt) : Prop :=
 zaz 1 [(.str [])] 28 [(0, (.str [97, 114, 114, 97, 121])), (1, (.str [98, 111, 111, 108])), (2, (.str [99, 97, 116, 99, 104])), (3, (.str [100, 97, 116, 97])), (4, (.str [101, 108, 115, 101])), (5, (.str [101, 110, 100])), (6, (.str [102, 97, 108, 115, 101])), (7, (.str [102, 110])), (8, (.str [102, 117, 110])), (9, (.str [103, 101, 116])), (10, (.str [105, 102])), (11, (.str [105, 110])), (12, (.str [105, 110, 116])), (13, (.str [108, 101, 110])), (14, (.str [108, 101, 116])), (15, (.str [109, 97, 116, 99, 104])), (16, (.str [110, 101, 119])), (17, (.str [114, 97, 105, 115, 101])), (18, (.str [114, 101, 97, 100])), (19, (.str [114, 101, 102])), (20, (.str [115, 101, 116])), (21, (.str [116, 104, 101, 110])), (22, (.str [116, 105, 99, 107])), (23, (.str [116, 114, 117, 101])), (24, (.str [116, 114, 121])), (25, (.str [117, 110, 105, 116])), (26, (.str [119, 105, 116, 104])), (27, (.str [119, 114, 105, 116, 101]))] fun t5 =>
 zpK t0 t5 (.int .i64 0) H K
theorem zIe {t0 t3 t4 : AV} {H : zaa} {K : Kt} (Inv : Nat → AV → zaa → Prop) (n : Nat) (h0 : HSc H → Inv n t4 H)
  (round : Rd1 (fun t4 => zkg t0 t3 t4) (fun t4 => fun H Kb3 => zkf t0 t3 t4 H K Kb3) H Inv) : zpK t0 t3 t4 H K :=
 lp1 (M := zke) zIf t4 (by kernel_rfl) Inv n h0 round
theorem zIg {t0 : AV} {H : zaa} {K : Kt} (h : HSc H → zxt t0 H K) : ACalls tP zh6 [t0] H K :=
 zam (M := zke) Tryz.func174 (c := zpJ) (by kernel_rfl) (fun hs => Eq.mpr (by kernel_rfl) (h hs))
def zkh : Nat → List Bool
 | 3 => rl false [0,1,3,2,17]
 | _ => []
noncomputable def zpM : Code := Tryz.f175.body.getD .skip
noncomputable def zIn : List ResultVar := Tryz.f175.results.toList
def zki (t0 t4 t5 : AV) : List AV := t0 :: ux 3 (t4 :: t5 :: ux 17 [])
def zIl : List Bool := zkh 3
noncomputable def zIj : Code := zas [1, 1, 0, 1, 0, 0] zpM
def zIi (K : Kt) : AExit → List AV → zaa → Prop := zat tP zkh [1, 1, 0, 1, 0] zpM (zaA tP zIn K)
def zxv (t0 t4 t5 : AV) (H : zaa) (K : Kt) : Prop := ALoop tP zIj (zIi K) (zki t0 t4 t5) H
def zpL (t0 t4 t5 : AV) (H : zaa) (K : Kt) (Kb3 : Lt) : Prop :=
 zah 0 t0 fun t8 =>
 zac .lss false t5 t8 fun t9 =>
 zag t9
 (zac .mul false t4 (.int .i64 10) fun t13 =>
 zbw t0 t5 fun t16 =>
 zac .sub false t16 (.int .u8 48) fun t17 =>
 zbo .i64 t17 fun t18 =>
 zac .add false t13 t18 fun t19 =>
 zac .gtr false t19 (.int .i64 1000000) fun t21 =>
 zag t21
 (zaD [(.int .i64 0), (.bool false)] (K · H))
 (zac .add false t5 (.int .i64 1) fun t11 =>
 Kb3 (zki t0 t19 t11) H))
 (zaD [t4, (.bool true)] (K · H))
def zxu (t0 : AV) (H : zaa) (K : Kt) : Prop :=
 zxv t0 (.int .i64 0) (.int .i64 0) H K
theorem zIk {t0 t4 t5 : AV} {H : zaa} {K : Kt} (Inv : Nat → AV → AV → zaa → Prop) (n : Nat) (h0 : HSc H → Inv n t4 t5 H)
  (round : Rd2 (fun t4 => fun t5 => zki t0 t4 t5) (fun t4 => fun t5 => fun H Kb3 => zpL t0 t4 t5 H K Kb3) H Inv) : zxv t0 t4 t5 H K :=
 lp2 (M := zkh) zIl t4 t5 (by kernel_rfl) Inv n h0 round
theorem zIm {t0 : AV} {H : zaa} {K : Kt} (h : HSc H → zxu t0 H K) : ACalls tP zfr [t0] H K :=
 zam (M := zkh) Tryz.func175 (c := zpM) (by kernel_rfl) (fun hs => Eq.mpr (by kernel_rfl) (h hs))
def zkj : Nat → List Bool
 | 5 => rl false [0,1,2,2,30]
 | _ => []
noncomputable def zpN : Code := Tryz.f176.body.getD .skip
noncomputable def zIt : List ResultVar := Tryz.f176.results.toList
def zkl (t0 t3 t4 : AV) : List AV := t0 :: ux 2 (t3 :: t4 :: ux 30 [])
def zIr : List Bool := zkj 5
noncomputable def zIp : Code := zas [1, 1, 1, 0, 1, 0, 0] zpN
def zIo (K : Kt) : AExit → List AV → zaa → Prop := zat tP zkj [1, 1, 1, 0, 1, 0] zpN (zaA tP zIt K)
def zpO (t0 t3 t4 : AV) (H : zaa) (K : Kt) : Prop := ALoop tP zIp (zIo K) (zkl t0 t3 t4) H
def zkk (t0 t3 t4 : AV) (H : zaa) (K : Kt) (Kb5 : Lt) : Prop :=
 zah 0 t3 fun t25 =>
 zac .lss false t4 t25 fun t26 =>
 zag t26
 (zae H (fun K' => K' t0 H) fun t29 =>
 zae H (fun K' => zbw t29 (.int .i64 0) (K' · H)) fun t30 =>
 zae H (fun K' => K' t3 H) fun t31 =>
 zae H (fun K' => K' t4 H) fun t32 =>
 zae H (fun K' => zbw t31 t32 (K' · H)) fun t33 =>
 zae H (fun K' => zac .eql false t30 t33 (K' · H)) fun t34 =>
 zag t34
 (K (.int .i64 1) H)
 (zac .add false t4 (.int .i64 1) fun t28 =>
 Kb5 (zkl t0 t3 t28) H))
 (K (.int .i64 0) H)
def zfN (t0 : AV) (H : zaa) (K : Kt) : Prop :=
 zah 0 t0 fun t6 =>
 zac .geq false t6 (.int .i64 2) fun t7 =>
 zab t7 true H (fun K' => K' t0 H) fun t9 H =>
 zab t7 true H (fun K' => zaL 0 0 t9 none (some (.int .i64 2)) (K' · H)) fun t10 H =>
 zab t7 true H (fun K' => zac .eql false t10 (.str [45, 62]) (K' · H)) fun t11 H =>
 zab t7 true H (fun K' => K' t11 H) fun t12 H =>
 zab t12 false H (fun K' => K' t0 H) fun t13 H =>
 zab t12 false H (fun K' => zaL 0 0 t13 none (some (.int .i64 2)) (K' · H)) fun t14 H =>
 zab t12 false H (fun K' => zac .eql false t14 (.str [60, 61]) (K' · H)) fun t15 H =>
 zab t7 true H (fun K' => zai t12 (.bool true) t15 (K' · H)) fun t16 H =>
 zab t7 true H (fun K' => K' t16 H) fun t17 H =>
 zab t17 false H (fun K' => K' t0 H) fun t18 H =>
 zab t17 false H (fun K' => zaL 0 0 t18 none (some (.int .i64 2)) (K' · H)) fun t19 H =>
 zab t17 false H (fun K' => zac .eql false t19 (.str [61, 61]) (K' · H)) fun t20 H =>
 zab t7 true H (fun K' => zai t17 (.bool true) t20 (K' · H)) fun t21 H =>
 zai t7 t21 (.bool false) fun t22 =>
 zag t22
 (K (.int .i64 2) H)
 (zpO t0 (.str [40, 41, 44, 61, 124, 43, 45, 42, 47, 37, 60, 59, 95]) (.int .i64 0) H K)
theorem zIq {t0 t3 t4 : AV} {H : zaa} {K : Kt} (Inv : Nat → AV → zaa → Prop) (n : Nat) (h0 : HSc H → Inv n t4 H)
  (round : Rd1 (fun t4 => zkl t0 t3 t4) (fun t4 => fun H Kb5 => zkk t0 t3 t4 H K Kb5) H Inv) : zpO t0 t3 t4 H K :=
 lp1 (M := zkj) zIr t4 (by kernel_rfl) Inv n h0 round
theorem zIs {t0 : AV} {H : zaa} {K : Kt} (h : HSc H → zfN t0 H K) : ACalls tP znh [t0] H K :=
 zam (M := zkj) Tryz.func176 (c := zpN) (by kernel_rfl) (fun hs => Eq.mpr (by kernel_rfl) (h hs))
def zJZ (_ : Nat) : List Bool := []
noncomputable def zJ0 : Code := Tryz.f225.body.getD .skip
def zx3 (t0 : AV) (H : zaa) (K : Kt) : Prop :=
 zac .geq false t0 (.int .u8 97) fun t4 =>
 zab t4 true H (fun K' => K' t0 H) fun t6 H =>
 zab t4 true H (fun K' => zac .leq false t6 (.int .u8 122) (K' · H)) fun t7 H =>
 zai t4 t7 (.bool false) fun t8 =>
 K t8 H
theorem zJ1 {t0 : AV} {H : zaa} {K : Kt} (h : HSc H → zx3 t0 H K) : ACalls tP zif [t0] H K :=
 zam (M := zJZ) Tryz.func225 (c := zJ0) (by kernel_rfl) (fun hs => Eq.mpr (by kernel_rfl) (h hs))
def zJ2 (_ : Nat) : List Bool := []
noncomputable def zJ3 : Code := Tryz.f226.body.getD .skip
def zx4 (t0 : AV) (H : zaa) (K : Kt) : Prop :=
 zac .geq false t0 (.int .u8 65) fun t4 =>
 zab t4 true H (fun K' => K' t0 H) fun t6 H =>
 zab t4 true H (fun K' => zac .leq false t6 (.int .u8 90) (K' · H)) fun t7 H =>
 zai t4 t7 (.bool false) fun t8 =>
 K t8 H
theorem zJ4 {t0 : AV} {H : zaa} {K : Kt} (h : HSc H → zx4 t0 H K) : ACalls tP zgG [t0] H K :=
 zam (M := zJ2) Tryz.func226 (c := zJ3) (by kernel_rfl) (fun hs => Eq.mpr (by kernel_rfl) (h hs))
def zkI : Nat → List Bool
 | 2 => rl false [0,2,3,1,16]
 | _ => []
noncomputable def zqi : Code := Tryz.f227.body.getD .skip
noncomputable def zKa : List ResultVar := Tryz.f227.results.toList
def zkJ (t0 t1 t5 : AV) : List AV := t0 :: t1 :: ux 3 (t5 :: ux 16 [])
def zJ8 : List Bool := zkI 2
noncomputable def zJ6 : Code := zas [1, 1, 0, 0, 0] zqi
def zJ5 (K : Kt) : AExit → List AV → zaa → Prop := zat tP zkI [1, 1, 0, 0] zqi (zaA tP zKa K)
def zx6 (t0 t1 t5 : AV) (H : zaa) (K : Kt) : Prop := ALoop tP zJ6 (zJ5 K) (zkJ t0 t1 t5) H
def zqh (t0 t1 t5 : AV) (H : zaa) (K : Kt) (Kb2 : Lt) : Prop :=
 zah 0 t0 fun t8 =>
 zac .lss false t5 t8 fun t9 =>
 zab t9 true H (fun K' => K' t1 H) fun t11 H =>
 zab t9 true H (fun K' => K' t0 H) fun t12 H =>
 zab t9 true H (fun K' => K' t5 H) fun t13 H =>
 zab t9 true H (fun K' => zbw t12 t13 (K' · H)) fun t14 H =>
 zab t9 true H (fun K' => aCallV tP t11 [t14] H K') fun t15 H =>
 zai t9 t15 (.bool false) fun t16 =>
 zag t16
 (zac .add false t5 (.int .i64 1) fun t18 =>
 Kb2 (zkJ t0 t1 t18) H)
 (zaL 0 0 t0 none (some t5) fun t21 =>
 K t21 H)
def zx5 (t0 t1 : AV) (H : zaa) (K : Kt) : Prop :=
 zx6 t0 t1 (.int .i64 0) H K
theorem zJ7 {t0 t1 t5 : AV} {H : zaa} {K : Kt} (Inv : Nat → AV → zaa → Prop) (n : Nat) (h0 : HSc H → Inv n t5 H)
  (round : Rd1 (fun t5 => zkJ t0 t1 t5) (fun t5 => fun H Kb2 => zqh t0 t1 t5 H K Kb2) H Inv) : zx6 t0 t1 t5 H K :=
 lp1 (M := zkI) zJ8 t5 (by kernel_rfl) Inv n h0 round
theorem zJ9 {t0 t1 : AV} {H : zaa} {K : Kt} (h : HSc H → zx5 t0 t1 H K) : ACalls tP zig [t0, t1] H K :=
 zam (M := zkI) Tryz.func227 (c := zqi) (by kernel_rfl) (fun hs => Eq.mpr (by kernel_rfl) (h hs))
def zKb (_ : Nat) : List Bool := []
noncomputable def zKc : Code := Tryz.f228.body.getD .skip
def zx7 (t0 : AV) (H : zaa) (K : Kt) : Prop :=
 ACalls tP zif [t0] H fun t4 H =>
 zab t4 false H (fun K' => K' t0 H) fun t6 H =>
 zab t4 false H (fun K' => ACalls tP zgG [t6] H K') fun t7 H =>
 zai t4 (.bool true) t7 fun t8 =>
 zab t8 false H (fun K' => K' t0 H) fun t10 H =>
 zab t8 false H (fun K' => ACalls tP zeI [t10] H K') fun t11 H =>
 zai t8 (.bool true) t11 fun t12 =>
 zab t12 false H (fun K' => K' t0 H) fun t14 H =>
 zab t12 false H (fun K' => zac .eql false t14 (.int .u8 95) (K' · H)) fun t15 H =>
 zai t12 (.bool true) t15 fun t16 =>
 K t16 H
theorem zKd {t0 : AV} {H : zaa} {K : Kt} (h : HSc H → zx7 t0 H K) : ACalls tP zgH [t0] H K :=
 zam (M := zKb) Tryz.func228 (c := zKc) (by kernel_rfl) (fun hs => Eq.mpr (by kernel_rfl) (h hs))
def zKe (_ : Nat) : List Bool := []
noncomputable def zKf : Code := Tryz.f229.body.getD .skip
def zbh (t4 : AV) (H : zaa) (K : Kt) : Prop :=
 zag t4
 (K (.bool true) H)
 (K (.bool false) H)
def zx8 (t0 : AV) (H : zaa) (K : Kt) : Prop :=
 zac .eql false t0 (.str [97, 114, 114, 97, 121]) fun t5 =>
 zag t5
 (zbh t5 H K)
 (zac .eql false t0 (.str [98, 111, 111, 108]) fun t6 =>
 zag t6
 (zbh t6 H K)
 (zac .eql false t0 (.str [99, 97, 116, 99, 104]) fun t7 =>
 zag t7
 (zbh t7 H K)
 (zac .eql false t0 (.str [100, 97, 116, 97]) fun t8 =>
 zag t8
 (zbh t8 H K)
 (zac .eql false t0 (.str [101, 108, 115, 101]) fun t9 =>
 zag t9
 (zbh t9 H K)
 (zac .eql false t0 (.str [101, 110, 100]) fun t10 =>
 zag t10
 (zbh t10 H K)
 (zac .eql false t0 (.str [102, 97, 108, 115, 101]) fun t11 =>
 zag t11
 (zbh t11 H K)
 (zac .eql false t0 (.str [102, 110]) fun t12 =>
 zag t12
 (zbh t12 H K)
 (zac .eql false t0 (.str [102, 117, 110]) fun t13 =>
 zag t13
 (zbh t13 H K)
 (zac .eql false t0 (.str [103, 101, 116]) fun t14 =>
 zag t14
 (zbh t14 H K)
 (zac .eql false t0 (.str [105, 102]) fun t15 =>
 zag t15
 (zbh t15 H K)
 (zac .eql false t0 (.str [105, 110]) fun t16 =>
 zag t16
 (zbh t16 H K)
 (zac .eql false t0 (.str [105, 110, 116]) fun t17 =>
 zag t17
 (zbh t17 H K)
 (zac .eql false t0 (.str [108, 101, 110]) fun t18 =>
 zag t18
 (zbh t18 H K)
 (zac .eql false t0 (.str [108, 101, 116]) fun t19 =>
 zag t19
 (zbh t19 H K)
 (zac .eql false t0 (.str [109, 97, 116, 99, 104]) fun t20 =>
 zag t20
 (zbh t20 H K)
 (zac .eql false t0 (.str [110, 101, 119]) fun t21 =>
 zag t21
 (zbh t21 H K)
 (zac .eql false t0 (.str [114, 97, 105, 115, 101]) fun t22 =>
 zag t22
 (zbh t22 H K)
 (zac .eql false t0 (.str [114, 101, 97, 100]) fun t23 =>
 zag t23
 (zbh t23 H K)
 (zac .eql false t0 (.str [114, 101, 102]) fun t24 =>
 zag t24
 (zbh t24 H K)
 (zac .eql false t0 (.str [115, 101, 116]) fun t25 =>
 zag t25
 (zbh t25 H K)
 (zac .eql false t0 (.str [116, 104, 101, 110]) fun t26 =>
 zag t26
 (zbh t26 H K)
 (zac .eql false t0 (.str [116, 105, 99, 107]) fun t27 =>
 zag t27
 (zbh t27 H K)
 (zac .eql false t0 (.str [116, 114, 117, 101]) fun t28 =>
 zag t28
 (zbh t28 H K)
 (zac .eql false t0 (.str [116, 114, 121]) fun t29 =>
 zag t29
 (zbh t29 H K)
 (zac .eql false t0 (.str [117, 110, 105, 116]) fun t30 =>
 zag t30
 (zbh t30 H K)
 (zac .eql false t0 (.str [119, 105, 116, 104]) fun t31 =>
 zag t31
 (zbh t31 H K)
 (zac .eql false t0 (.str [119, 114, 105, 116, 101]) fun t32 =>
 zbh t32 H K)))))))))))))))))))))))))))
theorem zKg {t0 : AV} {H : zaa} {K : Kt} (h : HSc H → zx8 t0 H K) : ACalls tP znr [t0] H K :=
 zam (M := zKe) Tryz.func229 (c := zKf) (by kernel_rfl) (fun hs => Eq.mpr (by kernel_rfl) (h hs))
def zKh (_ : Nat) : List Bool := []
noncomputable def zKi : Code := Tryz.f230.body.getD .skip
def zx9 (t0 : AV) (H : zaa) (K : Kt) : Prop :=
 zac .geq false t0 (.int .u8 48) fun t4 =>
 zab t4 true H (fun K' => K' t0 H) fun t6 H =>
 zab t4 true H (fun K' => zac .leq false t6 (.int .u8 57) (K' · H)) fun t7 H =>
 zai t4 t7 (.bool false) fun t8 =>
 K t8 H
theorem zKj {t0 : AV} {H : zaa} {K : Kt} (h : HSc H → zx9 t0 H K) : ACalls tP zeI [t0] H K :=
 zam (M := zKh) Tryz.func230 (c := zKi) (by kernel_rfl) (fun hs => Eq.mpr (by kernel_rfl) (h hs))
def zkK : Nat → List Bool
 | 3 => rl false [0,1,2,1,2,2,13]
 | _ => []
noncomputable def zqk : Code := Tryz.f231.body.getD .skip
noncomputable def zKp : List ResultVar := Tryz.f231.results.toList
def zkL (t0 t3 t6 t7 : AV) : List AV := t0 :: ux 2 (t3 :: ux 2 (t6 :: t7 :: ux 13 []))
def zKn : List Bool := zkK 3
noncomputable def zKl : Code := zas [1, 1, 0, 1, 0, 0] zqk
def zKk (K : Kt) : AExit → List AV → zaa → Prop := zat tP zkK [1, 1, 0, 1, 0] zqk (zaA tP zKp K)
def zyb (t0 t3 t6 t7 : AV) (H : zaa) (K : Kt) : Prop := ALoop tP zKl (zKk K) (zkL t0 t3 t6 t7) H
def zqj (t0 t3 t6 t7 : AV) (H : zaa) (K : Kt) (Kb3 : Lt) : Prop :=
 zac .lss false t7 t6 fun t8 =>
 zag t8
 (zac .mul false t3 (.int .i64 10) fun t11 =>
 zbw t0 t7 fun t14 =>
 zac .sub false t14 (.int .u8 48) fun t15 =>
 zbo .i64 t15 fun t16 =>
 zac .add false t11 t16 fun t17 =>
 zac .gtr false t17 (.int .i64 1000000) fun t19 =>
 zag t19
 (K (.bool false) H)
 (zac .add false t7 (.int .i64 1) fun t20 =>
 Kb3 (zkL t0 t17 t6 t20) H))
 (K (.bool true) H)
def zya (t0 : AV) (H : zaa) (K : Kt) : Prop :=
 zah 0 t0 fun t6 =>
 zyb t0 (.int .i64 0) t6 (.int .i64 0) H K
theorem zKm {t0 t3 t6 t7 : AV} {H : zaa} {K : Kt} (Inv : Nat → AV → AV → zaa → Prop) (n : Nat) (h0 : HSc H → Inv n t3 t7 H)
  (round : Rd2 (fun t3 => fun t7 => zkL t0 t3 t6 t7) (fun t3 => fun t7 => fun H Kb3 => zqj t0 t3 t6 t7 H K Kb3) H Inv) : zyb t0 t3 t6 t7 H K :=
 lp2 (M := zkK) zKn t3 t7 (by kernel_rfl) Inv n h0 round
theorem zKo {t0 : AV} {H : zaa} {K : Kt} (h : HSc H → zya t0 H K) : ACalls tP zgI [t0] H K :=
 zam (M := zkK) Tryz.func231 (c := zqk) (by kernel_rfl) (fun hs => Eq.mpr (by kernel_rfl) (h hs))
def zKt (_ : Nat) : List Bool := []
noncomputable def zKu : Code := Tryz.f232.body.getD .skip
def zck (t0 t16 : AV) (H : zaa) (K : Kt) : Prop :=
 zag t16
 (zaL 0 0 t0 none (some (.int .i64 1)) fun t31 =>
 K t31 H)
 (K (.str []) H)
def zkM (t0 : AV) (H : zaa) (K : Kt) : Prop :=
 zaL 0 0 t0 none (some (.int .i64 1)) fun t15 =>
 zac .eql false t15 (.str [40]) fun t17 =>
 zag t17
 (zck t0 t17 H K)
 (zac .eql false t15 (.str [41]) fun t18 =>
 zag t18
 (zck t0 t18 H K)
 (zac .eql false t15 (.str [44]) fun t19 =>
 zag t19
 (zck t0 t19 H K)
 (zac .eql false t15 (.str [61]) fun t20 =>
 zag t20
 (zck t0 t20 H K)
 (zac .eql false t15 (.str [124]) fun t21 =>
 zag t21
 (zck t0 t21 H K)
 (zac .eql false t15 (.str [43]) fun t22 =>
 zag t22
 (zck t0 t22 H K)
 (zac .eql false t15 (.str [45]) fun t23 =>
 zag t23
 (zck t0 t23 H K)
 (zac .eql false t15 (.str [42]) fun t24 =>
 zag t24
 (zck t0 t24 H K)
 (zac .eql false t15 (.str [47]) fun t25 =>
 zag t25
 (zck t0 t25 H K)
 (zac .eql false t15 (.str [37]) fun t26 =>
 zag t26
 (zck t0 t26 H K)
 (zac .eql false t15 (.str [60]) fun t27 =>
 zag t27
 (zck t0 t27 H K)
 (zac .eql false t15 (.str [59]) fun t28 =>
 zag t28
 (zck t0 t28 H K)
 (zac .eql false t15 (.str [95]) fun t29 =>
 zck t0 t29 H K))))))))))))
def ze1 (t0 t8 : AV) (H : zaa) (K : Kt) : Prop :=
 zag t8
 (zaL 0 0 t0 none (some (.int .i64 2)) fun t13 =>
 K t13 H)
 (zkM t0 H K)
def zfS (t0 : AV) (H : zaa) (K : Kt) : Prop :=
 zah 0 t0 fun t4 =>
 zac .geq false t4 (.int .i64 2) fun t5 =>
 zag t5
 (zaL 0 0 t0 none (some (.int .i64 2)) fun t7 =>
 zac .eql false t7 (.str [45, 62]) fun t9 =>
 zag t9
 (ze1 t0 t9 H K)
 (zac .eql false t7 (.str [60, 61]) fun t10 =>
 zag t10
 (ze1 t0 t10 H K)
 (zac .eql false t7 (.str [61, 61]) fun t11 =>
 ze1 t0 t11 H K)))
 (zkM t0 H K)
theorem zKv {t0 : AV} {H : zaa} {K : Kt} (h : HSc H → zfS t0 H K) : ACalls tP zns [t0] H K :=
 zam (M := zKt) Tryz.func232 (c := zKu) (by kernel_rfl) (fun hs => Eq.mpr (by kernel_rfl) (h hs))
def zI3 (_ : Nat) : List Bool := []
noncomputable def zI4 : Code := Tryz.f189.body.getD .skip
def zxH (t0 : AV) (H : zaa) (K : Kt) : Prop :=
 ACalls tP znn [t0] H fun t8 H =>
 zay t8 0 fun t9 =>
 zay t8 1 fun t10 =>
 zay t8 2 fun t11 =>
 zac .eql false t11 (.int .i64 0) fun t13 =>
 zab t13 true H (fun K' => K' t9 H) fun t15 H =>
 zab t13 true H (fun K' => zah 1 t15 (K' · H)) fun t16 H =>
 zab t13 true H (fun K' => zac .eql false t16 (.int .i64 2) (K' · H)) fun t17 H =>
 zai t13 t17 (.bool false) fun t18 =>
 zab t18 true H (fun K' => K' t9 H) fun t20 H =>
 zab t18 true H (fun K' => zaj 3 t20 (.int .i64 0) (K' · H)) fun t21 H =>
 zab t18 true H (fun K' => zaf 0 t21 (K' · H)) fun t22 H =>
 zab t18 true H (fun K' => zad false 1 t22 H (K' · H)) fun t23 H =>
 zab t18 true H (fun K' => zac .eql false t23 (.int .i64 2) (K' · H)) fun t24 H =>
 zai t18 t24 (.bool false) fun t25 =>
 zab t25 true H (fun K' => K' t9 H) fun t27 H =>
 zab t25 true H (fun K' => zaj 3 t27 (.int .i64 0) (K' · H)) fun t28 H =>
 zab t25 true H (fun K' => zaf 1 t28 (K' · H)) fun t29 H =>
 zab t25 true H (fun K' => zad false 1 t29 H (K' · H)) fun t30 H =>
 zab t25 true H (fun K' => K' t0 H) fun t31 H =>
 zab t25 true H (fun K' => zac .eql false t30 t31 (K' · H)) fun t32 H =>
 zai t25 t32 (.bool false) fun t33 =>
 K t33 H
theorem zI5 {t0 : AV} {H : zaa} {K : Kt} (h : HSc H → zxH t0 H K) : ACalls tP zh9 [t0] H K :=
 zam (M := zI3) Tryz.func189 (c := zI4) (by kernel_rfl) (fun hs => Eq.mpr (by kernel_rfl) (h hs))
def zNT (_ : Nat) : List Bool := []
noncomputable def zNU : Code := Tryz.f82.body.getD .skip
def zzp (t0 : AV) (H : zaa) (K : Kt) : Prop :=
 ACalls tP zm0 [t0] H fun t8 H =>
 zay t8 0 fun t9 =>
 zay t8 1 fun t10 =>
 zay t8 2 fun t11 =>
 zac .eql false t11 (.int .i64 0) fun t13 =>
 zab t13 true H (fun K' => K' t9 H) fun t15 H =>
 zab t13 true H (fun K' => zah 1 t15 (K' · H)) fun t16 H =>
 zab t13 true H (fun K' => zac .eql false t16 (.int .i64 2) (K' · H)) fun t17 H =>
 zai t13 t17 (.bool false) fun t18 =>
 zab t18 true H (fun K' => K' t9 H) fun t20 H =>
 zab t18 true H (fun K' => zaj 3 t20 (.int .i64 0) (K' · H)) fun t21 H =>
 zab t18 true H (fun K' => zaf 0 t21 (K' · H)) fun t22 H =>
 zab t18 true H (fun K' => zad false 1 t22 H (K' · H)) fun t23 H =>
 zab t18 true H (fun K' => zac .eql false t23 (.int .i64 2) (K' · H)) fun t24 H =>
 zai t18 t24 (.bool false) fun t25 =>
 zab t25 true H (fun K' => K' t9 H) fun t27 H =>
 zab t25 true H (fun K' => zaj 3 t27 (.int .i64 0) (K' · H)) fun t28 H =>
 zab t25 true H (fun K' => zaf 1 t28 (K' · H)) fun t29 H =>
 zab t25 true H (fun K' => zad false 1 t29 H (K' · H)) fun t30 H =>
 zab t25 true H (fun K' => K' t0 H) fun t31 H =>
 zab t25 true H (fun K' => zac .eql false t30 t31 (K' · H)) fun t32 H =>
 zai t25 t32 (.bool false) fun t33 =>
 K t33 H
theorem zNV {t0 : AV} {H : zaa} {K : Kt} (h : HSc H → zzp t0 H K) : ACalls tP ziv [t0] H K :=
 zam (M := zNT) Tryz.func82 (c := zNU) (by kernel_rfl) (fun hs => Eq.mpr (by kernel_rfl) (h hs))
end Go.Proofs.YtjkkonpjecoieaaGreat

namespace Go.Proofs.YtjkkonpjecoieaaGreat
open Go Go.Abs
def kwds : List (List UInt8) := [[97, 114, 114, 97, 121], [98, 111, 111, 108], [99, 97, 116, 99, 104], [100, 97, 116, 97], [101, 108, 115, 101], [101, 110, 100], [102, 97, 108, 115, 101], [102, 110], [102, 117, 110], [103, 101, 116], [105, 102], [105, 110], [105, 110, 116], [108, 101, 110], [108, 101, 116], [109, 97, 116, 99, 104], [110, 101, 119], [114, 97, 105, 115, 101], [114, 101, 97, 100], [114, 101, 102], [115, 101, 116], [116, 104, 101, 110], [116, 105, 99, 107], [116, 114, 117, 101], [116, 114, 121], [117, 110, 105, 116], [119, 105, 116, 104], [119, 114, 105, 116, 101]]
def kwF (ws : List (List UInt8)) (s : List UInt8) : Bool := ws.any (s == ·)
theorem zcD {H : zaa} {K : AV → zaa → Prop} {r : AV} (hsc : HSc H) (hv : r.isV = true) (hr : r.scV H.length = true) (h : K r H) : Out H.length K r H := by
 have := Out.same (J := []) rfl hsc hv hr h
 simpa using this
theorem zcj (b c : UInt8) : ((b.toNat : Int) == (c.toNat : Int)) = (b == c) := by
 rw [Bool.eq_iff_iff]
 simp only [beq_iff_eq]
 constructor
 ·intro h; exact UInt8.toNat_inj.mp (by omega)
 ·rintro rfl; rfl
theorem ztt (b : UInt8) (H : zaa) (K : AV → zaa → Prop) (hK : K (.bool (zbJ b)) H) : ACalls tP zh5 [.int .u8 b.toNat] H K := by
 refine ACalls.out (zH5 fun hs => ?_)
 have hO := zcD (K := K) (H := H) (r := .bool (zbJ b)) hs rfl rfl hK
 unfold zbJ at hO
 cases h1 : decide (97 ≤ (b.toNat : Int)) <;> simp [zxp, h1] <;> simpa [h1] using hO
theorem zi2 (b : UInt8) (H : zaa) (K : AV → zaa → Prop) (hK : K (.bool (bUp b)) H) : ACalls tP zfq [.int .u8 b.toNat] H K := by
 refine ACalls.out (zH8 fun hs => ?_)
 have hO := zcD (K := K) (H := H) (r := .bool (bUp b)) hs rfl rfl hK
 unfold bUp at hO
 cases h1 : decide (65 ≤ (b.toNat : Int)) <;> simp [zxr, h1] <;> simpa [h1] using hO
theorem zmx (b : UInt8) (H : zaa) (K : AV → zaa → Prop) (hK : K (.bool (zaU b)) H) : ACalls tP zgE [.int .u8 b.toNat] H K := by
 refine ACalls.out (zIb fun hs => ?_)
 have hO := zcD (K := K) (H := H) (r := .bool (zaU b)) hs rfl rfl hK
 unfold zaU at hO
 cases h1 : decide (48 ≤ (b.toNat : Int)) <;> simp [zxs, h1] <;> simpa [h1] using hO
theorem zmO (b : UInt8) (H : zaa) (K : AV → zaa → Prop) (hK : K (.bool (zbJ b)) H) : ACalls tP zif [.int .u8 b.toNat] H K := by
 refine ACalls.out (zJ1 fun hs => ?_)
 have hO := zcD (K := K) (H := H) (r := .bool (zbJ b)) hs rfl rfl hK
 unfold zbJ at hO
 cases h1 : decide (97 ≤ (b.toNat : Int)) <;> simp [zx3, h1] <;> simpa [h1] using hO
theorem zi3 (b : UInt8) (H : zaa) (K : AV → zaa → Prop) (hK : K (.bool (bUp b)) H) : ACalls tP zgG [.int .u8 b.toNat] H K := by
 refine ACalls.out (zJ4 fun hs => ?_)
 have hO := zcD (K := K) (H := H) (r := .bool (bUp b)) hs rfl rfl hK
 unfold bUp at hO
 cases h1 : decide (65 ≤ (b.toNat : Int)) <;> simp [zx4, h1] <;> simpa [h1] using hO
theorem zmy (b : UInt8) (H : zaa) (K : AV → zaa → Prop) (hK : K (.bool (zaU b)) H) : ACalls tP zeI [.int .u8 b.toNat] H K := by
 refine ACalls.out (zKj fun hs => ?_)
 have hO := zcD (K := K) (H := H) (r := .bool (zaU b)) hs rfl rfl hK
 unfold zaU at hO
 cases h1 : decide (48 ≤ (b.toNat : Int)) <;> simp [zx9, h1] <;> simpa [h1] using hO
theorem zAn (b : UInt8) (H : zaa) (K : AV → zaa → Prop) (hK : K (.bool (zc0 b)) H) : ACalls tP znp [.int .u8 b.toNat] H K := by
 refine ACalls.out (zJS fun hs => ?_)
 have hO := zcD (K := K) (H := H) (r := .bool (zc0 b)) hs rfl rfl hK
 unfold zc0 at hO
 have e1 : ((b.toNat : Int) == 9) = (b == 9) := zcj b 9
 have e2 : ((b.toNat : Int) == 10) = (b == 10) := zcj b 10
 have e3 : ((b.toNat : Int) == 13) = (b == 13) := zcj b 13
 have e4 : ((b.toNat : Int) == 32) = (b == 32) := zcj b 32
 cases h1 : (b == 9) <;> cases h2 : (b == 10) <;> cases h3 : (b == 13) <;> simp [zxZ, e1, e2, e3, e4, h1, h2, h3] <;> simpa [h1, h2, h3] using hO
theorem zDE (b : UInt8) (H : zaa) (K : AV → zaa → Prop) (hK : K (.bool (bIn b)) H) : ACalls tP zgH [.int .u8 b.toNat] H K := by
 refine ACalls.out (zKd fun hs => ?_)
 have hO := zcD (K := K) (H := H) (r := .bool (bIn b)) hs rfl rfl hK
 unfold bIn at hO
 have e1 : ((b.toNat : Int) == 95) = (b == 95) := zcj b 95
 unfold zx7
 refine zmO b _ _ ?_
 cases h1 : zbJ b with
 | true => simp; simpa [h1] using hO
 | false =>
  simp
  refine zi3 b _ _ ?_
  cases h2 : bUp b with
  | true => simp; simpa [h1, h2] using hO
  | false =>
   simp
   refine zmy b _ _ ?_
   cases h3 : zaU b with
   | true => simp; simpa [h1, h2, h3] using hO
   | false => simp [e1]; simpa [h1, h2, h3] using hO
theorem zBc (s : List UInt8) (H : zaa) (K : AV → zaa → Prop) (hK : K (.bool (kwF kwds s)) H) : ACalls tP znr [.str s] H K := by
 refine ACalls.out (zKg fun hs => ?_)
 have hO := zcD (K := K) (H := H) (r := .bool (kwF kwds s)) hs rfl rfl hK
 have step : ∀ (w : List UInt8) (ws : List (List UInt8)) (rest : Prop), (Out H.length K (.bool (kwF ws s)) H → rest) → Out H.length K (.bool (kwF (w :: ws) s)) H →
   zac .eql false (.str s) (.str w) fun t => zag t (zbh t H (Out H.length K)) rest := by
  intro w ws rest h h'
  simp only [kwF, List.any_cons] at h h'
  cases e : (s == w) with
  | true => simpa [zbh, e] using h'
  | false => rw [e, Bool.false_or] at h'; simpa [zbh, e] using h h'
 unfold zx8
 revert hO
 unfold kwds
 iterate 27 refine step _ _ _ ?_
 intro h'
 simp only [kwF, List.any_cons, List.any_nil, Bool.or_false] at h'
 cases e : (s == [119, 114, 105, 116, 101]) <;> rw [e] at h' <;> simpa [zbh, e] using h'
theorem zBd (s : List UInt8) (H : zaa) (K : AV → zaa → Prop) (hK : K (.bool (kwF kwds s)) H) : ACalls tP zh6 [.str s] H K := by
 refine ACalls.out (zIg fun hs => ?_)
 have hO := zcD (K := K) (H := H) (r := .bool (kwF kwds s)) hs rfl rfl hK
 have e : zxt (.str s) H (Out H.length K) = zpK (.str s) (.sl (kwds.map fun w => [.str w]) .full) (.int .i64 0) H (Out H.length K) := rfl
 rw [e]
 have hlen : kwds.length = 28 := rfl
 generalize kwds = ws at *
 refine zIe (Inv := fun q t4 H' => ∃ i : Nat, i ≤ ws.length ∧ q = ws.length - i ∧ t4 = .int .i64 i ∧ kwF (ws.drop i) s = kwF ws s ∧ H' = H) ws.length ?_ ?_
 ·intro _; exact ⟨0, by omega, by omega, rfl, by simp, rfl⟩
 ·rintro q t8 H' ⟨i, hi, rfl, rfl, ho, rfl⟩ hsc _ hsF Kb hKb
  by_cases hlt : i < ws.length
  ·rw [List.drop_eq_getElem_cons hlt] at ho
   simp only [kwF, List.any_cons] at ho
   cases hz : (ws[i] == s) with
   | true =>
    have hz' : (s == ws[i]) = true := by rw [beq_iff_eq] at hz ⊢; exact hz.symm
    rw [hz', Bool.true_or] at ho
    simp [zkf, hlt, hz]
    unfold kwF at hO
    rw [← ho] at hO
    exact hO
   | false =>
    have hz' : (s == ws[i]) = false := by rw [beq_eq_false_iff_ne] at hz ⊢; exact fun h => hz h.symm
    rw [hz', Bool.false_or] at ho
    simp [zkf, hlt, hz]
    rw [zar (by omega) (by omega)]
    refine hKb _ _ ⟨ws.length - (i + 1), by omega, Back.here (Nat.le_refl _) hs ?_ ⟨_, rfl, i + 1, by omega, rfl, by simp, ho, rfl⟩⟩
    simp [zkg, AV.sc, AV.scV, AV.scA, AV.scB]
  ·simp [zkf, hlt]
   obtain rfl : i = ws.length := by omega
   rw [List.drop_length] at ho
   rw [← ho] at hO
   exact hO
end Go.Proofs.YtjkkonpjecoieaaGreat
namespace Go.Proofs.YtjkkonpjecoieaaGreat
open Go Go.Abs
theorem zsl {b : UInt8} (h : zaU b = true) : 48 ≤ (b.toNat : Int) ∧ (b.toNat : Int) ≤ 57 := by simpa [zaU] using h
theorem zCB (s : List UInt8) (hd : ∀ b ∈ s, zaU b = true) (hl : s.length ≤ 1000000) (H : zaa) (K : AV → zaa → Prop) (hK : K (.bool (zb1 s 0)) H) : ACalls tP zgI [.str s] H K := by
 refine ACalls.out (zKo fun hs => ?_)
 have hO := zcD (K := K) (H := H) (r := .bool (zb1 s 0)) hs rfl rfl hK
 simp [zya]
 refine zKm (Inv := fun q t3 t7 H' => ∃ (i : Nat) (n : Int), i ≤ s.length ∧ q = s.length - i ∧ t7 = .int .i64 i ∧ t3 = .int .i64 n ∧ 0 ≤ n ∧ n ≤ 1000000 ∧ zb1 (s.drop i) n = zb1 s 0 ∧ H' = H) s.length ?_ ?_
 ·intro _; exact ⟨0, 0, by omega, by omega, rfl, rfl, by omega, by omega, by simp, rfl⟩
 ·rintro q t3 t7 H' ⟨i, n, hi, rfl, rfl, rfl, hn0, hn1, ho, rfl⟩ hsc _ hsF Kb hKb
  by_cases hlt : i < s.length
  ·have hb := zsl (hd s[i] (List.getElem_mem hlt))
   rw [List.drop_eq_getElem_cons hlt, zb1] at ho
   simp [zqj, hlt]
   rw [IntWalk.u8_in _ (by omega), zar (n := n * 10) (by omega) (by omega), zar (n := (s[i].toNat : Int) - 48) (by omega) (by omega), zar (by omega) (by omega), zar (by omega) (by omega)]
   by_cases hg : 1000000 < n * 10 + ((s[i].toNat : Int) - 48)
   ·rw [if_pos hg] at ho
    have hg' : decide (1000000 < n * 10 + ((s[i].toNat : Int) - 48)) = true := by simpa using hg
    rw [← ho] at hO
    rw [hg']
    simpa using hO
   ·rw [if_neg hg] at ho
    have hg' : decide (1000000 < n * 10 + ((s[i].toNat : Int) - 48)) = false := by simpa using hg
    rw [hg']
    simp only [zr7, Bool.false_eq_true, if_false]
    refine hKb _ _ ⟨s.length - (i + 1), by omega, Back.here (Nat.le_refl _) hs ?_ ⟨_, _, rfl, i + 1, _, by omega, rfl, by simp, rfl, by omega, by omega, ho, rfl⟩⟩
    simp [zkL, AV.sc, AV.scV, AV.scA, AV.scB]
  ·simp [zqj, hlt]
   obtain rfl : i = s.length := by omega
   rw [List.drop_length, zb1] at ho
   rw [← ho] at hO
   exact hO
theorem zud (cl : UInt8 → Bool) (f : FuncId) (hcl : zc1 tP f = true) (hf : ∀ (b : UInt8) (H : zaa) (K : AV → zaa → Prop), K (.bool (cl b)) H → ACalls tP f [.int .u8 b.toNat] H K)
  (s : List UInt8) (hl : s.length ≤ 1000000) (H : zaa) (K : AV → zaa → Prop) (hK : K (.str (s.takeWhile cl)) H) : ACalls tP zig [.str s, .fn f []] H K := by
 refine ACalls.out (zJ9 fun hs => ?_)
 have hO := zcD (K := K) (H := H) (r := .str (s.takeWhile cl)) hs rfl rfl hK
 simp [zx5]
 refine zJ7 (Inv := fun q t5 H' => ∃ i : Nat, i ≤ s.length ∧ q = s.length - i ∧ t5 = .int .i64 i ∧ s.take i ++ (s.drop i).takeWhile cl = s.takeWhile cl ∧ H' = H) s.length ?_ ?_
 ·intro _; exact ⟨0, by omega, by omega, rfl, by simp, rfl⟩
 ·rintro q t5 H' ⟨i, hi, rfl, rfl, ho, rfl⟩ hsc _ hsF Kb hKb
  by_cases hlt : i < s.length
  ·rw [List.drop_eq_getElem_cons hlt, List.takeWhile_cons] at ho
   simp [zqh, hlt]
   simp only [aCallV, hcl, List.append_nil]
   refine hf _ _ _ ?_
   cases hc : cl s[i] with
   | true =>
    rw [hc, if_pos rfl, List.append_cons, ← List.take_succ_eq_append_getElem hlt] at ho
    simp
    rw [zar (by omega) (by omega)]
    refine hKb _ _ ⟨s.length - (i + 1), by omega, Back.here (Nat.le_refl _) hs ?_ ⟨_, rfl, i + 1, by omega, rfl, by simp, ho, rfl⟩⟩
    simp [zkJ, AV.sc, AV.scV, AV.scA, AV.scB]
   | false =>
    rw [hc, if_neg (by simp), List.append_nil] at ho
    rw [← ho] at hO
    simp [hi]
    exact hO
  ·simp [zqh, hlt]
   obtain rfl : i = s.length := by omega
   rw [List.drop_length, List.takeWhile_nil, List.append_nil, List.take_length] at ho
   rw [← ho] at hO
   simpa using hO
theorem zDA (s : List UInt8) (hd : ∀ b ∈ s, zaU b = true) (hl : s.length ≤ 1000000) (H : zaa) (K : AV → zaa → Prop) (hK : ∀ n, K (.tup [.int .i64 n, .bool (zb1 s 0)]) H) : ACalls tP zfr [.str s] H K := by
 refine ACalls.out (zIm fun hs => ?_)
 have hO : ∀ n, Out H.length K (.tup [.int .i64 n, .bool (zb1 s 0)]) H := fun n => Out.tup0 hs (hK n) ⟨za1 rfl rfl, za1 rfl rfl, trivial⟩
 simp only [zxu]
 refine zIk (Inv := fun q t3 t7 H' => ∃ (i : Nat) (n : Int), i ≤ s.length ∧ q = s.length - i ∧ t7 = .int .i64 i ∧ t3 = .int .i64 n ∧ 0 ≤ n ∧ n ≤ 1000000 ∧ zb1 (s.drop i) n = zb1 s 0 ∧ H' = H) s.length ?_ ?_
 ·intro _; exact ⟨0, 0, by omega, by omega, rfl, rfl, by omega, by omega, by simp, rfl⟩
 ·rintro q t3 t7 H' ⟨i, n, hi, rfl, rfl, rfl, hn0, hn1, ho, rfl⟩ hsc _ hsF Kb hKb
  by_cases hlt : i < s.length
  ·have hb := zsl (hd s[i] (List.getElem_mem hlt))
   rw [List.drop_eq_getElem_cons hlt, zb1] at ho
   simp [zpL, hlt]
   rw [IntWalk.u8_in _ (by omega), zar (n := n * 10) (by omega) (by omega), zar (n := (s[i].toNat : Int) - 48) (by omega) (by omega), zar (by omega) (by omega), zar (by omega) (by omega)]
   by_cases hg : 1000000 < n * 10 + ((s[i].toNat : Int) - 48)
   ·rw [if_pos hg] at ho
    have hg' : decide (1000000 < n * 10 + ((s[i].toNat : Int) - 48)) = true := by simpa using hg
    rw [← ho] at hO
    rw [hg']
    simpa [AV.isV] using hO 0
   ·rw [if_neg hg] at ho
    have hg' : decide (1000000 < n * 10 + ((s[i].toNat : Int) - 48)) = false := by simpa using hg
    rw [hg']
    simp only [zr7, Bool.false_eq_true, if_false]
    refine hKb _ _ ⟨s.length - (i + 1), by omega, Back.here (Nat.le_refl _) hs ?_ ⟨_, _, rfl, i + 1, _, by omega, rfl, by simp, rfl, by omega, by omega, ho, rfl⟩⟩
    simp [zki, AV.sc, AV.scV, AV.scA, AV.scB]
  ·simp [zpL, hlt, AV.isV]
   obtain rfl : i = s.length := by omega
   rw [List.drop_length, zb1] at ho
   rw [← ho] at hO
   exact hO n
theorem zDk (b : UInt8) (r : List UInt8) : (b :: r).take 1 = [b] := by simp
theorem zoa {s : List UInt8} (h : ¬ 2 ≤ s.length) : zc8 s = false := by
 match s, h with
 | [], _ => rfl
 | [b], _ => simp [zc8]
 | _ :: _ :: _, h => simp at h
theorem zuM (b : UInt8) (r : List UInt8) (h : zc8 (b :: r) = false) : sgn (b :: r) = if sgns.contains b = true then 1 else 0 := by simp [sgn, h]
theorem zCx (b : UInt8) (r : List UInt8) (H : zaa) (K : AV → zaa → Prop) (hK : K (.str ((b :: r).take (sgn (b :: r)))) H) : ACalls tP zns [.str (b :: r)] H K := by
 refine ACalls.out (zKv fun hs => ?_)
 have hO := zcD (K := K) (H := H) (r := .str ((b :: r).take (sgn (b :: r)))) hs rfl rfl hK
 have one : zc8 (b :: r) = false → zkM (.str (b :: r)) H (Out H.length K) := by
  intro h2
  rw [zuM b r h2] at hO
  have hO : Out H.length K (.str (if sgns.contains b = true then [b] else [])) H := by
   cases hc : sgns.contains b <;> rw [hc] at hO <;> simpa using hO
  have step : ∀ (c : UInt8) (cs : List UInt8) (rest : Prop), (Out H.length K (.str (if cs.contains b = true then [b] else [])) H → rest) → Out H.length K (.str (if (c :: cs).contains b = true then [b] else [])) H →
    zac .eql false (.str [b]) (.str [c]) fun t => zag t (zck (.str (b :: r)) t H (Out H.length K)) rest := by
   intro c cs rest h h'
   rw [List.contains_cons] at h'
   cases e : (b == c) with
   | true => rw [e] at h'; simpa [zck, e] using h'
   | false =>
    rw [e, Bool.false_or] at h'
    simpa [zck, e] using h h'
  unfold zkM
  simp only [zz3, zzT, zzS, Int.toNat_one, zDk, List.drop_zero]
  refine ⟨by decide, ⟨by omega, by simp⟩, ?_⟩
  revert hO
  unfold sgns
  iterate 12 refine step _ _ _ ?_
  intro h'
  rw [List.contains_cons] at h'
  cases e : (b == 95) <;> rw [e] at h' <;> simpa [zck, e] using h'
 by_cases hl : 2 ≤ (b :: r).length
 ·have hl' : (2 : Int) ≤ r.length + 1 := by simp only [List.length_cons] at hl; omega
  have hl2 : 1 ≤ r.length := by simp only [List.length_cons] at hl; omega
  cases h2 : zc8 (b :: r) with
  | true =>
   have h3 : sgn (b :: r) = 2 := by simp [sgn, h2]
   rw [h3] at hO
   unfold zc8 at h2
   simp only [List.take_succ_cons] at h2 hO
   cases e1 : (b :: List.take 1 r == [45, 62]) with
   | true => simpa [zfS, hl', hl2, ze1, e1] using hO
   | false =>
    cases e2 : (b :: List.take 1 r == [60, 61]) with
    | true => simpa [zfS, hl', hl2, ze1, e1, e2] using hO
    | false =>
     rw [e1, e2] at h2
     simp only [Bool.false_or] at h2
     simpa [zfS, hl', hl2, ze1, e1, e2, h2] using hO
  | false =>
   have ho := one h2
   unfold zc8 at h2
   simp only [List.take_succ_cons] at h2
   rw [Bool.or_eq_false_iff, Bool.or_eq_false_iff] at h2
   simpa [zfS, hl', hl2, ze1, h2.1.1, h2.1.2, h2.2] using ho
 ·have ho := one (zoa hl)
  have : ¬ ((2 : Int) ≤ r.length + 1) := by simp only [List.length_cons] at hl; omega
  simpa [zfS, this] using ho
end Go.Proofs.YtjkkonpjecoieaaGreat
namespace Go.Proofs.YtjkkonpjecoieaaGreat
open Go Go.Abs
set_option maxRecDepth 4000
theorem zCw (b : UInt8) (r : List UInt8) (H : zaa) (K : AV → zaa → Prop) (hK : K (.int .i64 (sgn (b :: r))) H) : ACalls tP znh [.str (b :: r)] H K := by
 refine ACalls.out (zIs fun hs => ?_)
 have hO := zcD (K := K) (H := H) (r := .int .i64 (sgn (b :: r))) hs rfl rfl hK
 have one : zc8 (b :: r) = false → zpO (.str (b :: r)) (.str sgns) (.int .i64 0) H (Out H.length K) := by
  intro h2
  rw [zuM b r h2] at hO
  have hlen : sgns.length = 13 := rfl
  generalize sgns = ws at *
  refine zIq (Inv := fun q t4 H' => ∃ i : Nat, i ≤ ws.length ∧ q = ws.length - i ∧ t4 = .int .i64 i ∧ (ws.drop i).contains b = ws.contains b ∧ H' = H) ws.length ?_ ?_
  ·intro _; exact ⟨0, by omega, by omega, rfl, by simp, rfl⟩
  ·rintro q t8 H' ⟨i, hi, rfl, rfl, ho, rfl⟩ hsc _ hsF Kb hKb
   by_cases hlt : i < ws.length
   ·rw [List.drop_eq_getElem_cons hlt, List.contains_cons] at ho
    have e1 := zcj b ws[i]
    cases hz : (b == ws[i]) with
    | true =>
     rw [hz, Bool.true_or] at ho
     rw [← ho] at hO
     simpa [zkk, hlt, e1, hz] using hO
    | false =>
     rw [hz, Bool.false_or] at ho
     simp [zkk, hlt, e1, hz]
     rw [zar (by omega) (by omega)]
     refine hKb _ _ ⟨ws.length - (i + 1), by omega, Back.here (Nat.le_refl _) hs ?_ ⟨_, rfl, i + 1, by omega, rfl, by simp, ho, rfl⟩⟩
     simp [zkl, AV.sc, AV.scV, AV.scA, AV.scB]
   ·obtain rfl : i = ws.length := by omega
    rw [List.drop_length] at ho
    rw [← ho] at hO
    simpa [zkk, hlt] using hO
 by_cases hl : 2 ≤ (b :: r).length
 ·have hl' : (2 : Int) ≤ r.length + 1 := by simp only [List.length_cons] at hl; omega
  have hl2 : 1 ≤ r.length := by simp only [List.length_cons] at hl; omega
  cases h2 : zc8 (b :: r) with
  | true =>
   have h3 : sgn (b :: r) = 2 := by simp [sgn, h2]
   rw [h3] at hO
   unfold zc8 at h2
   simp only [List.take_succ_cons] at h2 hO
   cases e1 : (b :: List.take 1 r == [45, 62]) with
   | true => simpa [zfN, hl', hl2, e1] using hO
   | false =>
    cases e2 : (b :: List.take 1 r == [60, 61]) with
    | true => simpa [zfN, hl', hl2, e1, e2] using hO
    | false =>
     rw [e1, e2] at h2
     simp only [Bool.false_or] at h2
     simpa [zfN, hl', hl2, e1, e2, h2] using hO
  | false =>
   have ho := one h2
   unfold sgns at ho
   unfold zc8 at h2
   simp only [List.take_succ_cons] at h2
   rw [Bool.or_eq_false_iff, Bool.or_eq_false_iff] at h2
   simpa [zfN, hl', hl2, h2.1.1, h2.1.2, h2.2] using ho
 ·have ho := one (zoa hl)
  unfold sgns at ho
  have : ¬ ((2 : Int) ≤ r.length + 1) := by simp only [List.length_cons] at hl; omega
  simpa [zfN, this] using ho

def Tk.cs (t : Tk) : List AV := [.int .i64 t.kind, .str t.text, .int .i64 t.pos]
def ziR (kw : List UInt8 → Bool) (b : UInt8) (r : List UInt8) (i : Nat) : AV :=
 match tok kw b r with
 | .error e => .tup [.agg [.int .i64 0, .str [], .int .i64 0], .int .i64 e]
 | .ok (k, n) => .tup [.agg (Tk.cs ⟨k, (b :: r).take n, i⟩), .int .i64 0]
theorem ziY {p : UInt8 → Bool} (b : UInt8) (r : List UInt8) : (b :: r).take ((r.takeWhile p).length + 1) = b :: r.takeWhile p := by
 rw [List.take_succ_cons]
 congr 1
 induction r with
 | nil => simp
 | cons c r ih => by_cases h : p c = true <;> simp [h, ih]
theorem zBe : zc1 tP zgH = true := by kernel_rfl
theorem zBf : zc1 tP zeI = true := by kernel_rfl
theorem ztY {H J : zaa} {K : AV → zaa → Prop} {k p e : Int} {t : List UInt8} (hs : HSc H) (h : K (.tup [.agg [.int .i64 k, .str t, .int .i64 p], .int .i64 e]) H) :
  Out H.length K (.tup [.agg [.int .i64 k, .str t, .int .i64 p], .int .i64 e]) (H ++ J) := Out.tup hs h ⟨za1 rfl rfl, za1 rfl rfl, trivial⟩
def zkH (t4 t6 : AV) (H : zaa) (K : AV → zaa → Prop) : Prop :=
 zaf 1 t6 fun t69 =>
 zad false 1 t69 H fun t70 =>
 ACalls tP zgI [t70] H fun t71 H =>
 aUn .not t71 fun t72 =>
 zag t72
 (zax [(.int .i64 0), (.str []), (.int .i64 0)] [(0, 1), (1, 1), (2, 1)] [] fun t73 =>
 zak 3 t4 t73 H fun H =>
 zad true 3 t4 H fun r0 =>
 zaD [r0, (.int .i64 9)] (K · H))
 (zfR t4 t6 H K)
theorem zCn (s : List UInt8) (hl : s.length ≤ 1000000) (i : Nat) (hi : i < s.length) (H : zaa) (K : AV → zaa → Prop) (hK : K (ziR (kwF kwds) s[i] (s.drop (i + 1)) i) H) : ACalls tP znq [.str s, .int .i64 i] H K := by
 refine ACalls.out (zJV fun hs => ?_)
 have hdr := List.drop_eq_getElem_cons hi
 have hrl : (s.drop i).length ≤ 1000000 := by simp; omega
 generalize hb : s[i] = b at *
 generalize hr : s.drop (i + 1) = r at *
 have hb' : s[i]?.getD 0 = b := by simp [hi, hb]
 have post : ∀ (k : Int) (n : Nat), tok (kwF kwds) b r = .ok (k, n) → ∀ t, (b :: r).take n = t → zfR (.ptr H.length 0) (.ptr (H.length + 1) 0) (H ++ [.cells [.int .i64 0, .str [], .int .i64 0], .cells [.int .i64 k, .str t, .int .i64 i]]) (Out H.length K) := by
  intro k n ht t hte
  subst hte
  simp [ziR, ht, Tk.cs] at hK
  simp [zfR, zx0, AV.known, AV.isV]
  exact ztY hs hK
 have bad : ∀ e : Int, tok (kwF kwds) b r = .error e → ∀ J, Out H.length K (.tup [.agg [.int .i64 0, .str [], .int .i64 0], .int .i64 e]) (H ++ J) := by
  intro e ht J
  simp [ziR, ht] at hK
  exact ztY hs hK
 have hi' := Nat.le_of_lt hi
 by_cases hLU : (zbJ b || bUp b) = true
 ·have hin : bIn b = true := by simp [bIn, hLU]
  simp [zqg, hi, hb, hi', zax, zaP, AV.known]
  refine zmO b _ _ ?_
  have hc : zbJ b = true ∨ (zbJ b = false ∧ bUp b = true) := by cases hL : zbJ b <;> simp [hL] at hLU ⊢; exact hLU
  have hpost := fun k => post k ((r.takeWhile bIn).length + 1)
  simp only [tok, hLU, if_true, ziY] at hpost
  rcases hc with hL | ⟨hL, hU⟩
  case' inl => simp [hL]
  case' inr => simp [hL]; refine zi3 b _ _ ?_; simp [hU]
  all_goals
   rw [hdr]
   refine zud bIn zgH zBe zDE (b :: r) (by rw [← hdr]; exact hrl) _ _ ?_
   simp [hin, AV.known]
   by_cases hn : (r.takeWhile bIn).length + 1 > 24
   ·have hn' : (24 : Int) < (r.takeWhile bIn).length + 1 := by omega
    have := bad 9 (by simp only [tok, hLU, if_true]; rw [if_pos hn])
    simp [hn', AV.known, AV.isV]
    exact this _
   ·have hn' : ¬ (24 : Int) < (r.takeWhile bIn).length + 1 := by omega
    simp [hn']
    refine zi3 b _ _ ?_
    rw [if_neg hn] at hpost
    cases hU : bUp b with
    | true =>
     simp [AV.known, zfQ]
     exact hpost 2 (by simp [hU]) _ rfl
    | false =>
     simp [AV.known]
     refine zBc _ _ _ ?_
     cases hkw : kwF kwds (b :: r.takeWhile bIn) with
     | true =>
      simp [AV.known, zfQ]
      exact hpost 4 (by simp [hU, hkw]) _ rfl
     | false =>
      simp [AV.known, zfQ]
      exact hpost 1 (by simp [hU, hkw]) _ rfl
 ·have hL : zbJ b = false := by simp at hLU; exact hLU.1
  have hU : bUp b = false := by simp at hLU; exact hLU.2
  simp [zqg, hi, hb, zax, zaP, AV.known]
  refine zmO b _ _ ?_
  simp [hL]
  refine zi3 b _ _ ?_
  simp [hU]
  refine zmy b _ _ ?_
  cases hD : zaU b with
  | true =>
   simp [hi', AV.known]
   rw [hdr]
   refine zud zaU zeI zBf zmy (b :: r) (by rw [← hdr]; exact hrl) _ _ ?_
   have e1 : ((b.toNat : Int) == 48) = (b == 48) := zcj b 48
   have htk : tok (kwF kwds) b r = if (b == 48 && decide ((r.takeWhile zaU).length + 1 > 1)) = true then .error 2 else if zb1 (b :: r.takeWhile zaU) 0 = true then .ok (3, (r.takeWhile zaU).length + 1) else .error 9 := by
    simp only [tok, hLU, hD, if_true, ziY]
    rfl
   have hsm : ∀ J, ACalls tP zgI [.str (b :: r.takeWhile zaU)] (H ++ J) fun t H' => t = .bool (zb1 (b :: r.takeWhile zaU) 0) ∧ H' = H ++ J := by
    intro J
    refine zCB _ ?_ ?_ _ _ ⟨rfl, rfl⟩
    ·intro c hc
     rcases List.mem_cons.1 hc with rfl | hc
     ·exact hD
     ·exact List.all_eq_true.1 (List.all_takeWhile) c hc
    ·have h1 : (r.takeWhile zaU).length ≤ r.length := (List.takeWhile_sublist _).length_le
     rw [hdr] at hrl
     simp at hrl ⊢
     omega
   simp [hD, AV.known, e1]
   have hpost := post 3 ((r.takeWhile zaU).length + 1)
   rw [ziY] at hpost
   rw [htk] at hpost bad
   have last : ∀ J, (¬ (b == 48 && decide ((r.takeWhile zaU).length + 1 > 1)) = true) → J = [.cells [.int .i64 0, .str [], .int .i64 0], .cells [.int .i64 3, .str (b :: r.takeWhile zaU), .int .i64 i]] → zkH (.ptr H.length 0) (.ptr (H.length + 1) 0) (H ++ J) (Out H.length K) := by
    rintro J hne rfl
    rw [if_neg hne] at hpost bad
    simp [zkH]
    refine (hsm _).mono ?_
    rintro _ _ ⟨rfl, rfl⟩
    cases hv : zb1 (b :: r.takeWhile zaU) 0 with
    | true =>
     simp
     exact hpost (by simp [hv]) _ rfl
    | false =>
     simp [AV.known, zax, zaP, AV.isV]
     exact bad 9 (by simp [hv]) _
   cases hz : (b == 48) with
   | true =>
    simp [hz]
    by_cases hn : 1 < (r.takeWhile zaU).length + 1
    ·have hn' : (1 : Int) < (r.takeWhile zaU).length + 1 := by omega
     have hd : decide ((r.takeWhile zaU).length + 1 > 1) = true := decide_eq_true hn
     have := bad 2 (by rw [hz, hd]; rfl)
     simp [hn', AV.known, AV.isV]
     exact this _
    ·have hn' : ¬ (1 : Int) < (r.takeWhile zaU).length + 1 := by omega
     have hd : decide ((r.takeWhile zaU).length + 1 > 1) = false := decide_eq_false hn
     have := last _ (by rw [hz, hd]; decide) rfl
     simp [zkH, zax, zaP] at this
     simp [hn']
     exact this
   | false =>
    have := last _ (by simp [hz]) rfl
    simp [zkH, zax, zaP] at this
    simp [hz]
    exact this
  | false => 
   simp [hi', AV.known]
   rw [hdr]
   refine zCx b r _ _ ?_
   simp [AV.known]
   have htk : tok (kwF kwds) b r = if sgn (b :: r) = 0 then .error 2 else .ok (5, sgn (b :: r)) := by
    simp only [tok, hLU, hD]
    rfl
   by_cases hz : sgn (b :: r) = 0
   ·have := bad 2 (by rw [htk, if_pos hz])
    simp [hz, AV.isV]
    exact this _
   ·have := post 5 (sgn (b :: r)) (by rw [htk, if_neg hz]) _ rfl
    have he : (List.take (sgn (b :: r)) (b :: r)).isEmpty = false := by
     cases h : sgn (b :: r) with
     | zero => exact absurd h hz
     | succ n => simp
    simp [he]
    exact this
def cat (l : List Tk) : Except (Nat × Int) (List Tk) → Except (Nat × Int) (List Tk)
 | .error e => .error e
 | .ok m => .ok (l ++ m)
theorem zsu (l m : List Tk) (r : Except (Nat × Int) (List Tk)) : cat l (cat m r) = cat (l ++ m) r := by cases r <;> simp [cat]
@[simp] theorem zRU (r : Except (Nat × Int) (List Tk)) : cat [] r = r := by cases r <;> rfl
def zdM (r : List UInt8) : List UInt8 := r.dropWhile (· != 10)
def zdN (r : List UInt8) : Nat := (r.takeWhile (· != 10)).length
section
variable (kw : List UInt8 → Bool)
theorem zoo (p : Nat) : zbr kw [] p = .ok [⟨6, [], p⟩] := by unfold zbr; rfl
theorem zva {b : UInt8} (h : zc0 b = true) (r : List UInt8) (p : Nat) : zbr kw (b :: r) p = zbr kw r (p + 1) := by
 conv => lhs; unfold zbr
 simp [h]
theorem zvc {b : UInt8} (h0 : zc0 b = false) (h : (b == 35) = true) (r : List UInt8) (p : Nat) : zbr kw (b :: r) p = zbr kw (zdM r) (p + 1 + zdN r) := by
 conv => lhs; unfold zbr
 simp only [h0, h, Bool.false_eq_true, if_false, if_true]
 rfl
theorem zvb {b : UInt8} (h0 : zc0 b = false) (h : (b == 35) = false) {r : List UInt8} {p : Nat} {e : Int} (ht : tok kw b r = .error e) : zbr kw (b :: r) p = .error (p, e) := by
 conv => lhs; unfold zbr
 simp only [h0, h, Bool.false_eq_true, if_false, ht]
theorem zvd {b : UInt8} (h0 : zc0 b = false) (h : (b == 35) = false) {r : List UInt8} {p : Nat} {k : Int} {n : Nat} (ht : tok kw b r = .ok (k, n)) :
  zbr kw (b :: r) p = cat [⟨k, (b :: r).take n, p⟩] (zbr kw ((b :: r).drop n) (p + n)) := by
 conv => lhs; unfold zbr
 have hn := zon ht
 obtain ⟨m, rfl⟩ : ∃ m, n = m + 1 := ⟨n - 1, by omega⟩
 simp only [h0, h, Bool.false_eq_true, if_false, ht, Nat.add_sub_cancel, List.drop_succ_cons]
 cases zbr kw (r.drop m) (p + (m + 1)) <;> rfl
end
theorem ziU {b : UInt8} (h : (b == 10) = false) (r : List UInt8) : zdM (b :: r) = zdM r ∧ zdN (b :: r) = 1 + zdN r := by
 have hb : b ≠ 10 := by simpa using h
 constructor
 ·simp [zdM, hb]
 ·simp [zdN, hb]; omega
theorem zuO {b : UInt8} (h : (b == 10) = true) (r : List UInt8) : zdM (b :: r) = b :: r ∧ zdN (b :: r) = 0 := by
 have hb : b = 10 := by simpa using h
 constructor
 ·simp [zdM, hb]
 ·simp [zdN, hb]
theorem skipC_nil : zdM [] = [] ∧ zdN [] = 0 := ⟨rfl, rfl⟩
theorem zom {kw : List UInt8 → Bool} {b : UInt8} {r : List UInt8} {k : Int} {n : Nat} (h : tok kw b r = .ok (k, n)) : n ≤ (b :: r).length := by
 have tw : ∀ p : UInt8 → Bool, (r.takeWhile p).length ≤ r.length := fun p => (List.takeWhile_sublist _).length_le
 unfold tok at h
 split at h
 ·simp only at h; split at h <;> simp at h; have := tw bIn; simp; omega
 ·split at h
  ·simp only at h; split at h
   ·simp at h
   ·split at h <;> simp at h; have := tw zaU; simp; omega
  ·simp only at h
   split at h <;> simp at h
   obtain ⟨_, rfl⟩ := h
   unfold sgn
   split
   ·rename_i h2
    by_cases hl : 2 ≤ (b :: r).length
    ·exact hl
    ·rw [zoa hl] at h2; cases h2
   ·split
    ·simp
    ·split <;> simp
theorem zDl {kw : List UInt8 → Bool} {b : UInt8} {r : List UInt8} {e : Int} (h : tok kw b r = .error e) : e = 2 ∨ e = 9 := by
 unfold tok at h
 split at h
 ·simp only at h; split at h <;> simp at h; omega
 ·split at h
  ·simp only at h; split at h
   ·simp at h; omega
   ·split at h <;> simp at h; omega
  ·simp only at h
   split at h <;> simp at h; omega
def zeh (s : List UInt8) : AV :=
 if s.length > 16384 then .tup [.sl [] .none, .int .i64 0, .int .i64 9] else
 match zbr (kwF kwds) s 0 with
 | .error (p, e) => .tup [.sl [] .none, .int .i64 p, .int .i64 e]
 | .ok l => .tup [.sl (l.map Tk.cs) .none, .int .i64 0, .int .i64 0]
theorem two {H : zaa} {x y : AB} : H ++ [x, y] = (H ++ [x]) ++ [y] := by simp
theorem ztX {H J : zaa} {K : AV → zaa → Prop} {p e : Int} (hs : HSc H) (hK : K (.tup [.sl [] .none, .int .i64 p, .int .i64 e]) H) : Out H.length K (.tup [.snil, .int .i64 p, .int .i64 e]) (H ++ J) :=
 Out.tup hs hK ⟨zeg, za1 rfl rfl, za1 rfl rfl, trivial⟩
theorem zDa (s : List UInt8) (H : zaa) (K : AV → zaa → Prop) (hK : K (zeh s) H) : ACalls tP znn [.str s] H K := by
 refine ACalls.out (zJE fun hs => ?_)
 by_cases hl : s.length > 16384
 ·have hl' : (16384 : Int) < s.length := by omega
  simp [zp9, hl', AV.isV]
  unfold zeh at hK
  rw [if_pos hl] at hK
  exact Out.tup0 hs hK ⟨zeg, za1 rfl rfl, za1 rfl rfl, trivial⟩
 have hl' : ¬ (16384 : Int) < s.length := by omega
 unfold zeh at hK
 rw [if_neg hl] at hK
 simp [zp9, hl']
 have hperm : ∀ n, HSc (H ++ [.perm zd4 3 n]) := fun n => hs.append rfl
 unfold zkE
 refine ALoop.own 5 zd4 3 rfl ?_
 show zkE (.str s) (.sl [] (.own H.length)) (.int .i64 0) (H ++ [.perm zd4 3 0]) (Out H.length K)
 refine zJB (Inv := fun q t5 t6 H' => ∃ (i : Nat) (l : List Tk), i ≤ s.length ∧ l.length ≤ i ∧ q = s.length - i ∧ t6 = .int .i64 i ∧ t5 = .sl (l.map Tk.cs) (.own H.length) ∧ H' = H ++ [.perm zd4 3 l.length] ∧ cat l (zbr (kwF kwds) (s.drop i) i) = zbr (kwF kwds) s 0) s.length ?_ ?_
 ·intro _; exact ⟨0, [], by omega, by simp, by omega, rfl, rfl, rfl, by simp⟩
 ·rintro q t5 t6 H' ⟨i, l, hi, hll, rfl, rfl, rfl, rfl, ho⟩ hsc hlen hsF Kb hKb
  have done : cat l (.ok [⟨6, [], s.length⟩]) = zbr (kwF kwds) s 0 → zkD (.str s) (.sl (l.map Tk.cs) (.own H.length)) (H ++ [.perm zd4 3 l.length]) (Out H.length K) := by
   intro ho
   rw [← ho] at hK
   simp [zkD, zxT, zax, zaP, zaz, za9, zaB, AV.pd, zaw, zaX, zaO, AV.isV]
   refine ⟨by omega, ?_⟩
   simp [cat, Tk.cs] at hK
   exact Out.tup hs hK ⟨slV, za1 rfl rfl, za1 rfl rfl, trivial⟩
  by_cases hlt : i < s.length
  ·have hdr := List.drop_eq_getElem_cons hlt
   simp [zqa, hlt]
   refine zAn _ _ _ ?_
   have e35 : ((s[i].toNat : Int) == 35) = (s[i] == 35) := zcj s[i] 35
   cases hbl : zc0 s[i] with
   | true =>
    rw [hdr, zva _ hbl] at ho
    simp [zfP]
    rw [zar (by omega) (by omega)]
    refine hKb _ _ ⟨s.length - (i + 1), by omega, Back.here (by simp) (hperm _) ?_ ⟨_, _, rfl, i + 1, l, by omega, by omega, rfl, by simp, rfl, rfl, ho⟩⟩
    simp [zfO, AV.sc, AV.scV, AV.scA, AV.scB]
   | false =>
    simp [e35]
    cases hsh : (s[i] == 35) with
    | true =>
     simp
     rw [hdr, zvc _ hbl hsh] at ho
     have h10 : (s[i] == 10) = false := by
      rw [beq_iff_eq] at hsh; rw [hsh]; rfl
     obtain ⟨c1, c2⟩ := ziU h10 (s.drop (i + 1))
     rw [Nat.add_assoc, ← c1, ← c2, ← hdr] at ho
     refine zJC (Inv := fun q t6 H' => ∃ (j : Nat), i ≤ j ∧ j ≤ s.length ∧ q = s.length - j ∧ t6 = .int .i64 j ∧ H' = H ++ [.perm zd4 3 l.length] ∧ cat l (zbr (kwF kwds) (zdM (s.drop j)) (j + zdN (s.drop j))) = zbr (kwF kwds) s 0) (s.length - i) ?_ ?_
     ·intro _; exact ⟨i, by omega, by omega, by omega, rfl, rfl, ho⟩
     ·rintro q t6 H' ⟨j, hij, hj, rfl, rfl, rfl, ho⟩ hsc hlen hsF Kb9 hKb9
      by_cases hjlt : j < s.length
      ·have hdrj := List.drop_eq_getElem_cons hjlt
       have e10 : ((s[j].toNat : Int) == 10) = (s[j] == 10) := zcj s[j] 10
       simp [zqb, hjlt, e10]
       cases hz : (s[j] == 10) with
       | true =>
        obtain ⟨d1, d2⟩ := zuO hz (s.drop (j + 1))
        rw [hdrj, d1, d2, ← hdrj, Nat.add_zero] at ho
        have hij' : i ≠ j := by rintro rfl; rw [h10] at hz; cases hz
        simp [zfP]
        refine hKb _ _ ⟨s.length - j, by omega, Back.here (by simp) (hperm _) ?_ ⟨_, _, rfl, j, l, by omega, by omega, rfl, by simp, rfl, rfl, ho⟩⟩
        simp [zfO, AV.sc, AV.scV, AV.scA, AV.scB]
       | false =>
        obtain ⟨d1, d2⟩ := ziU hz (s.drop (j + 1))
        rw [hdrj, d1, d2, ← Nat.add_assoc] at ho
        simp
        rw [zar (by omega) (by omega)]
        refine hKb9 _ _ ⟨s.length - (j + 1), by omega, Back.here (by simp) (hperm _) ?_ ⟨_, rfl, j + 1, by omega, by omega, rfl, by simp, rfl, ho⟩⟩
        simp [zkC, AV.sc, AV.scV, AV.scA, AV.scB]
      ·obtain rfl : j = s.length := by omega
       simp [zqb]
       rw [List.drop_length, skipC_nil.1, skipC_nil.2, Nat.add_zero, zoo] at ho
       exact done ho
    | false =>
     simp
     refine zCn s (by omega) i hlt _ _ ?_
     unfold ziR
     cases ht : tok (kwF kwds) s[i] (s.drop (i + 1)) with
     | error e =>
      rw [hdr, zvb _ hbl hsh ht] at ho
      have he : (e != 0) = true := by rcases zDl ht with rfl | rfl <;> rfl
      rw [← ho] at hK
      simp [AV.known, AV.isV, he]
      exact ztX hs hK
     | ok kn =>
      obtain ⟨k, n⟩ := kn
      rw [hdr, zvd _ hbl hsh ht, zsu, ← hdr] at ho
      have hn := zom ht
      rw [← hdr] at hn
      simp at hn
      have hn0 := zon ht
      simp [Tk.cs, AV.known, zaz, za9, zaB, AV.pd, zaw, zaX, zaO, zfP]
      refine ⟨by omega, ?_⟩
      rw [show min n (s.length - i) = n by omega, zar (by omega) (by omega), two]
      refine hKb _ _ ⟨s.length - (i + n), by omega, Back.same (by simp) (hperm _) ?_ ⟨_, _, rfl, i + n, l ++ [⟨k, (s.drop i).take n, i⟩], by omega, by simp; omega, rfl, by simp, by simp [Tk.cs], by simp, ?_⟩⟩
      ·simp [zfO, AV.sc, AV.scV, AV.scA, AV.scB]
      ·rw [List.drop_drop] at ho; exact ho
  ·obtain rfl : i = s.length := by omega
   rw [List.drop_length, zoo] at ho
   simpa [zqa] using done ho
end Go.Proofs.YtjkkonpjecoieaaGreat
