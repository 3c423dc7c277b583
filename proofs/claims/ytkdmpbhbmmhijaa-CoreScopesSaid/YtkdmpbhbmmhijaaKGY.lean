import Derived.Test.YtkdmpbhbmmhijaaKNum
import Derived.Test.YtkdmpbhbmmhijaaProg
import Derived.KernelRfl
set_option linter.unusedVariables false
namespace Go.Proofs.Ytkdmpbhbmmhijaa
open Go Go.Abs
set_option maxRecDepth 100000
def zll : Nat → List Bool
 | 5 => rl false [1,2,2,1,24]
 | _ => []
noncomputable def zqr : Code := Try.f65.body.getD .skip
noncomputable def zJ0 : List ResultVar := Try.f65.results.toList
def zlm (t1 t2 t5 : AV) : List AV := ux 1 (t1 :: t2 :: ux 2 (t5 :: ux 24 []))
def zJY : List Bool := zll 5
noncomputable def zJW : Code := zao [1, 1, 1, 0, 1, 0, 0] zqr
def zJV (K : Kt) : AExit → List AV → zaa → Prop := zap tP zll [1, 1, 1, 0, 1, 0] zqr (zas tP zJ0 K)
def zwT (t1 t2 t5 : AV) (H : zaa) (K : Kt) : Prop := ALoop tP zJW (zJV K) (zlm t1 t2 t5) H
def zqq (t1 t2 t5 : AV) (H : zaa) (K : Kt) (Kb5 : Lt) : Prop :=
 zaf 2 t2 fun t16 =>
 zae false 1 t16 H fun t17 =>
 zak 1 t17 fun t18 =>
 zad .lss false t5 t18 fun t19 =>
 zag t19
 (zaf 2 t2 fun t22 =>
 zae false 1 t22 H fun t23 =>
 zaj 3 t23 t5 fun t25 =>
 zae true 3 t25 H fun t26 =>
 ACalls tP zgW [t26, t1] H fun t28 H =>
 aUn .not t28 fun t29 =>
 zag t29
 (K (.bool false) H)
 (zad .add false t5 (.int .i64 1) fun t21 =>
 Kb5 (zlm t1 t2 t21) H))
 (K (.bool true) H)
def zwS (t0 t1 : AV) (H : zaa) (K : Kt) : Prop :=
 zaD t0 H fun t2 H =>
 za1 t1 fun t7 =>
 zae false 1 t7 H fun t8 =>
 zad .sub false t8 (.int .i64 1) fun t9 =>
 za1 t1 fun t10 =>
 zar 1 t10 t9 H fun H =>
 za1 t1 fun t12 =>
 zae false 1 t12 H fun t13 =>
 zad .lss false t13 (.int .i64 0) fun t14 =>
 zag t14
 (K (.bool false) H)
 (zwT t1 t2 (.int .i64 0) H K)
theorem zJX {t1 t2 t5 : AV} {H : zaa} {K : Kt} (Inv : Nat → AV → zaa → Prop) (n : Nat) (h0 : HSc H → Inv n t5 H)
  (round : Rd1 (fun t5 => zlm t1 t2 t5) (fun t5 => fun H Kb5 => zqq t1 t2 t5 H K Kb5) H Inv) : zwT t1 t2 t5 H K :=
 lp1 (M := zll) zJY t5 (by kernel_rfl) Inv n h0 round
theorem zJZ {t0 t1 : AV} {H : zaa} {K : Kt} (h : HSc H → zwS t0 t1 H K) : ACalls tP zgW [t0, t1] H K :=
 zav (M := zll) Try.func65 (c := zqr) (by kernel_rfl) (fun hs => Eq.mpr (by kernel_rfl) (h hs))
def zGO (_ : Nat) : List Bool := []
noncomputable def zGP : Code := Try.f40.body.getD .skip
def zvF (t0 : AV) (H : zaa) (K : Kt) : Prop :=
 zaD t0 H fun t1 H =>
 zaA [(.int .i64 0)] H fun t3 H =>
 zar 1 t3 (.int .i64 250) H fun H =>
 zae true 3 t1 H fun t4 =>
 ACalls tP zgW [t4, t3] H fun t5 H =>
 K t5 H
theorem zGQ {t0 : AV} {H : zaa} {K : Kt} (h : HSc H → zvF t0 H K) : ACalls tP zgV [t0] H K :=
 zav (M := zGO) Try.func40 (c := zGP) (by kernel_rfl) (fun hs => Eq.mpr (by kernel_rfl) (h hs))
def zkm : Nat → List Bool
 | 2 => rl false [0,2,3,1,21]
 | _ => []
noncomputable def zpz : Code := Try.f39.body.getD .skip
noncomputable def zGM : List ResultVar := Try.f39.results.toList
def zko (t0 t1 t5 : AV) : List AV := t0 :: t1 :: ux 3 (t5 :: ux 21 [])
def zGK : List Bool := zkm 2
noncomputable def zGI : Code := zao [1, 0, 1, 0, 0] zpz
def zGH (K : Kt) : AExit → List AV → zaa → Prop := zap tP zkm [1, 0, 1, 0] zpz (zas tP zGM K)
def zvE (t0 t1 t5 : AV) (H : zaa) (K : Kt) : Prop := ALoop tP zGI (zGH K) (zko t0 t1 t5) H
def zkn (t0 t1 t5 : AV) (H : zaa) (K : Kt) (Kb2 : Lt) : Prop :=
 zak 1 t0 fun t8 =>
 zad .lss false t5 t8 fun t9 =>
 zab t9 true H (fun K' => K' t5 H) fun t11 H =>
 zab t9 true H (fun K' => K' t1 H) fun t12 H =>
 zab t9 true H (fun K' => zad .leq false t11 t12 (K' · H)) fun t13 H =>
 zah t9 t13 (.bool false) fun t14 =>
 zag t14
 (zaj 3 t0 t5 fun t19 =>
 zae true 3 t19 H fun t20 =>
 ACalls tP zgV [t20] H fun t21 H =>
 aUn .not t21 fun t22 =>
 zag t22
 (K (.bool false) H)
 (zad .add false t5 (.int .i64 1) fun t16 =>
 Kb2 (zko t0 t1 t16) H))
 (zak 1 t0 fun t24 =>
 zad .leq false t24 t1 fun t26 =>
 K t26 H)
def zvD (t0 t1 : AV) (H : zaa) (K : Kt) : Prop :=
 zvE t0 t1 (.int .i64 0) H K
theorem zGJ {t0 t1 t5 : AV} {H : zaa} {K : Kt} (Inv : Nat → AV → zaa → Prop) (n : Nat) (h0 : HSc H → Inv n t5 H)
  (round : Rd1 (fun t5 => zko t0 t1 t5) (fun t5 => fun H Kb2 => zkn t0 t1 t5 H K Kb2) H Inv) : zvE t0 t1 t5 H K :=
 lp1 (M := zkm) zGK t5 (by kernel_rfl) Inv n h0 round
theorem zGL {t0 t1 : AV} {H : zaa} {K : Kt} (h : HSc H → zvD t0 t1 H K) : ACalls tP zm8 [t0, t1] H K :=
 zav (M := zkm) Try.func39 (c := zpz) (by kernel_rfl) (fun hs => Eq.mpr (by kernel_rfl) (h hs))
def zdX : Nat → List Bool
 | 4 => rl false [13,3,43]
 | 9 => rl false [13,3,14,3,26]
 | 15 => rl false [7,1,5,3,14,3,14,3,9]
 | _ => []
noncomputable def zpw : Code := Try.f38.body.getD .skip
noncomputable def zGF : List ResultVar := Try.f38.results.toList
def zhk (t13 t14 t15 : AV) : List AV := ux 13 (t13 :: t14 :: t15 :: ux 43 [])
def zvB : List Bool := zdX 4
noncomputable def zpx : Code := zao [1, 1, 0, 1, 0, 0] zpw
def zvw (K : Kt) : AExit → List AV → zaa → Prop := zap tP zdX [1, 1, 0, 1, 0] zpw (zas tP zGF K)
def zvz (t13 t14 t15 : AV) (H : zaa) (K : Kt) : Prop := ALoop tP zpx (zvw K) (zhk t13 t14 t15) H
def zkl (t13 t14 t15 t30 t31 t32 : AV) : List AV := ux 13 (t13 :: t14 :: t15 :: ux 14 (t30 :: t31 :: t32 :: ux 26 []))
def zvC : List Bool := zdX 9
noncomputable def zpy : Code := zao [1, 1, 0, 0, 1, 1, 1, 0, 0] zpx
def zvx (K : Kt) (Kb4 : Lt) : AExit → List AV → zaa → Prop := zap tP zdX [1, 1, 0, 0, 1, 1, 1, 0] zpx (zbx zvB Kb4 (zvw K))
def zvA (t13 t14 t15 t30 t31 t32 : AV) (H : zaa) (K : Kt) (Kb4 : Lt) : Prop := ALoop tP zpy (zvx K Kb4) (zkl t13 t14 t15 t30 t31 t32) H
def zkk (t7 t13 t14 t15 t30 t31 t32 t47 t48 t49 : AV) : List AV := ux 7 (t7 :: ux 5 (t13 :: t14 :: t15 :: ux 14 (t30 :: t31 :: t32 :: ux 14 (t47 :: t48 :: t49 :: ux 9 []))))
def zGD : List Bool := zdX 15
noncomputable def zGz : Code := zao [1, 1, 0, 0, 1, 1, 1, 1, 0, 0] zpy
def zGy (K : Kt) (Kb4 : Lt) (Kb9 : Lt) : AExit → List AV → zaa → Prop := zap tP zdX [1, 1, 0, 0, 1, 1, 1, 1, 0] zpy (zbx zvC Kb9 (zvx K Kb4))
def zvy (t7 t13 t14 t15 t30 t31 t32 t47 t48 t49 : AV) (H : zaa) (K : Kt) (Kb4 : Lt) (Kb9 : Lt) : Prop := ALoop tP zGz (zGy K Kb4 Kb9) (zkk t7 t13 t14 t15 t30 t31 t32 t47 t48 t49) H
def zpt (t7 t13 t14 t15 t30 t31 t32 t47 t48 t49 : AV) (H : zaa) (K : Kt) (Kb4 : Lt) (Kb9 : Lt) (Kb15 : Lt) : Prop :=
 zad .lss false t49 t48 fun t50 =>
 zag t50
 (zaj 3 t47 t49 fun t51 =>
 zae true 3 t51 H fun t52 =>
 zaA [(.int .i64 0), (.int .i64 0), .snil] H fun t9 H =>
 zar 3 t9 t52 H fun H =>
 zae true 3 t9 H fun t53 =>
 ACalls tP zgW [t53, t7] H fun t54 H =>
 aUn .not t54 fun t55 =>
 zag t55
 (K (.bool false) H)
 (zad .add false t49 (.int .i64 1) fun t56 =>
 Kb15 (zkk t7 t13 t14 t15 t30 t31 t32 t47 t48 t56) H))
 (zad .add false t32 (.int .i64 1) fun t57 =>
 Kb9 (zkl t13 t14 t15 t30 t31 t57) H)
def zpv (t13 t14 t15 t30 t31 t32 : AV) (H : zaa) (K : Kt) (Kb4 : Lt) (Kb9 : Lt) : Prop :=
 zad .lss false t32 t31 fun t33 =>
 zag t33
 (zaj 2 t30 t32 fun t34 =>
 zae true 2 t34 H fun t35 =>
 zaA [(.str []), .snil] H fun t6 H =>
 zar 2 t6 t35 H fun H =>
 zaf 0 t6 fun t36 =>
 zae false 1 t36 H fun t37 =>
 zak 0 t37 fun t38 =>
 zad .gtr false t38 (.int .i64 40) fun t39 =>
 zab t39 false H (fun K' => zaf 1 t6 (K' · H)) fun t41 H =>
 zab t39 false H (fun K' => zae false 1 t41 H (K' · H)) fun t42 H =>
 zab t39 false H (fun K' => zak 1 t42 (K' · H)) fun t43 H =>
 zab t39 false H (fun K' => zad .gtr false t43 (.int .i64 8) (K' · H)) fun t44 H =>
 zah t39 (.bool true) t44 fun t45 =>
 zag t45
 (K (.bool false) H)
 (zaA [(.int .i64 0)] H fun t7 H =>
 zar 1 t7 (.int .i64 20) H fun H =>
 zaf 1 t6 fun t46 =>
 zae false 1 t46 H fun t47 =>
 zak 1 t47 fun t48 =>
 zvy t7 t13 t14 t15 t30 t31 t32 t47 t48 (.int .i64 0) H K Kb4 Kb9))
 (zad .add false t15 (.int .i64 1) fun t58 =>
 Kb4 (zhk t13 t14 t58) H)
def zpu (t13 t14 t15 : AV) (H : zaa) (K : Kt) (Kb4 : Lt) : Prop :=
 zad .lss false t15 t14 fun t16 =>
 zag t16
 (zaj 3 t13 t15 fun t17 =>
 zae true 3 t17 H fun t18 =>
 zaA [(.str []), (.int .i64 0), .snil] H fun t4 H =>
 zar 3 t4 t18 H fun H =>
 zaf 0 t4 fun t19 =>
 zae false 1 t19 H fun t20 =>
 zak 0 t20 fun t21 =>
 zad .gtr false t21 (.int .i64 40) fun t22 =>
 zab t22 false H (fun K' => zaf 2 t4 (K' · H)) fun t24 H =>
 zab t22 false H (fun K' => zae false 1 t24 H (K' · H)) fun t25 H =>
 zab t22 false H (fun K' => zak 1 t25 (K' · H)) fun t26 H =>
 zab t22 false H (fun K' => zad .gtr false t26 (.int .i64 10) (K' · H)) fun t27 H =>
 zah t22 (.bool true) t27 fun t28 =>
 zag t28
 (K (.bool false) H)
 (zaf 2 t4 fun t29 =>
 zae false 1 t29 H fun t30 =>
 zak 1 t30 fun t31 =>
 zvA t13 t14 t15 t30 t31 (.int .i64 0) H K Kb4))
 (K (.bool true) H)
def zps (t0 : AV) (H : zaa) (K : Kt) : Prop :=
 zak 1 t0 fun t11 =>
 zad .gtr false t11 (.int .i64 14) fun t12 =>
 zag t12
 (K (.bool false) H)
 (zak 1 t0 fun t14 =>
 zvz t0 t14 (.int .i64 0) H K)
theorem zGA {t7 t13 t14 t15 t30 t31 t32 t47 t48 t49 : AV} {H : zaa} {K : Kt} {Kb4 : Lt} {Kb9 : Lt} (Inv : Nat → AV → zaa → Prop) (n : Nat) (h0 : HSc H → Inv n t49 H)
  (round : Rd1 (fun t49 => zkk t7 t13 t14 t15 t30 t31 t32 t47 t48 t49) (fun t49 => fun H Kb15 => zpt t7 t13 t14 t15 t30 t31 t32 t47 t48 t49 H K Kb4 Kb9 Kb15) H Inv) : zvy t7 t13 t14 t15 t30 t31 t32 t47 t48 t49 H K Kb4 Kb9 :=
 lp1 (M := zdX) zGD t49 (by kernel_rfl) Inv n h0 round
theorem zGC {t13 t14 t15 t30 t31 t32 : AV} {H : zaa} {K : Kt} {Kb4 : Lt} (Inv : Nat → AV → zaa → Prop) (n : Nat) (h0 : HSc H → Inv n t32 H)
  (round : Rd1 (fun t32 => zkl t13 t14 t15 t30 t31 t32) (fun t32 => fun H Kb9 => zpv t13 t14 t15 t30 t31 t32 H K Kb4 Kb9) H Inv) : zvA t13 t14 t15 t30 t31 t32 H K Kb4 :=
 lp1 (M := zdX) zvC t32 (by kernel_rfl) Inv n h0 round
theorem zGB {t13 t14 t15 : AV} {H : zaa} {K : Kt} (Inv : Nat → AV → zaa → Prop) (n : Nat) (h0 : HSc H → Inv n t15 H)
  (round : Rd1 (fun t15 => zhk t13 t14 t15) (fun t15 => fun H Kb4 => zpu t13 t14 t15 H K Kb4) H Inv) : zvz t13 t14 t15 H K :=
 lp1 (M := zdX) zvB t15 (by kernel_rfl) Inv n h0 round
theorem zGE {t0 : AV} {H : zaa} {K : Kt} (h : HSc H → zps t0 H K) : ACalls tP zm7 [t0] H K :=
 zav (M := zdX) Try.func38 (c := zpw) (by kernel_rfl) (fun hs => Eq.mpr (by kernel_rfl) (h hs))
def zKh (_ : Nat) : List Bool := []
noncomputable def zKi : Code := Try.f70.body.getD .skip
def zw1 (t0 t1 t2 : AV) (H : zaa) (K : Kt) : Prop :=
 zaD t1 H fun t4 H =>
 zaI [.snil, (.int .i64 0), (.int .i64 0)] [(0, 1), (1, 1), (2, 1)] [(0, t0), (1, t2), (2, (.int .i64 200))] fun t10 =>
 zaD t10 H fun t11 H =>
 zae true 3 t4 H fun t13 =>
 ACalls tP ziu [t11, t13] H fun t14 H =>
 K t14 H
theorem zKj {t0 t1 t2 : AV} {H : zaa} {K : Kt} (h : HSc H → zw1 t0 t1 t2 H K) : ACalls tP zfZ [t0, t1, t2] H K :=
 zav (M := zKh) Try.func70 (c := zKi) (by kernel_rfl) (fun hs => Eq.mpr (by kernel_rfl) (h hs))
def zer : Nat → List Bool
 | 171022 => rl false [2,2,16,1,53,1,34]
 | 150010 => rl false [2,2,1,2,13,2,87]
 | 100007 => rl false [2,2,1,2,13,1,88]
 | 100002 => rl false [2,2,105]
 | _ => []
noncomputable def zes : Code := Try.f88.body.getD .skip
noncomputable def zlQ : List ResultVar := Try.f88.results.toList
def zgt (t2 t3 t5 t6 : AV) (H : zaa) (K : Kt) : Prop :=
 zaf 0 t3 fun t79 =>
 zae false 1 t79 H fun t80 =>
 zad .neq false t80 (.int .i64 4) fun t81 =>
 zab t81 true H (fun K' => zaf 0 t3 (K' · H)) fun t83 H =>
 zab t81 true H (fun K' => zae false 1 t83 H (K' · H)) fun t84 H =>
 zab t81 true H (fun K' => zad .neq false t84 (.int .i64 5) (K' · H)) fun t85 H =>
 zah t81 t85 (.bool false) fun t86 =>
 zab t86 true H (fun K' => zaf 1 t3 (K' · H)) fun t88 H =>
 zab t86 true H (fun K' => zae false 1 t88 H (K' · H)) fun t89 H =>
 zab t86 true H (fun K' => zad .neq false t89 (.int .i64 0) (K' · H)) fun t90 H =>
 zah t86 t90 (.bool false) fun t91 =>
 zag t91
 (K (.bool false) H)
 (zaf 2 t3 fun t92 =>
 zae false 1 t92 H fun t93 =>
 zak 1 t93 fun t94 =>
 zad .lss false t94 t5 fun t96 =>
 zab t96 false H (fun K' => zaf 2 t3 (K' · H)) fun t98 H =>
 zab t96 false H (fun K' => zae false 1 t98 H (K' · H)) fun t99 H =>
 zab t96 false H (fun K' => zak 1 t99 (K' · H)) fun t100 H =>
 zab t96 false H (fun K' => K' t6 H) fun t101 H =>
 zab t96 false H (fun K' => zad .gtr false t100 t101 (K' · H)) fun t102 H =>
 zah t96 (.bool true) t102 fun t103 =>
 zag t103
 (K (.bool false) H)
 (zaf 2 t3 fun t104 =>
 zae false 1 t104 H fun t105 =>
 zcz zh7 [t2] fun t106 =>
 ACalls tP zfg [t105, t106] H fun t107 H =>
 aUn .not t107 fun t108 =>
 K t108 H))
def zdg (t2 t3 t5 t6 : AV) (H : zaa) (K : Kt) : Prop :=
 zgt t2 t3 t5 t6 H K
noncomputable def zL6 : Code := zao [1, 1, 1, 1, 0, 1, 0, 1, 1, 1, 1, 1, 1, 1, 1, 1] zes
def zL5 (K : Kt) : AExit → List AV → zaa → Prop := zap tP zer [1, 1, 1, 1, 0, 1, 0, 1, 1, 1, 1, 1, 1, 1, 1, 1] zes (zas tP zlQ K)
def zq0 (t2 t3 t20 t74 : AV) (H : zaa) (K : Kt) : Prop := AWp tP zL6 (zL5 K) (ux 2 (t2 :: t3 :: ux 16 (t20 :: ux 53 (t74 :: ux 34 [])))) H
def zlP (t2 t3 t20 t74 : AV) (H : zaa) (K : Kt) : Prop :=
 zag t74
 (zdg t2 t3 (.int .i64 1) (.int .i64 1) H K)
 (zad .eql false t20 (.int .i64 9) fun t78 =>
 zag t78
 (zdg t2 t3 (.int .i64 1) (.int .i64 7) H K)
 (K (.bool false) H))
noncomputable def zL4 : Code := zao [1, 1, 1, 1, 0, 1, 0, 1] zes
def zL3 (K : Kt) : AExit → List AV → zaa → Prop := zap tP zer [1, 1, 1, 1, 0, 1, 0, 1] zes (zas tP zlQ K)
def zlO (t2 t3 t5 t6 t20 t21 : AV) (H : zaa) (K : Kt) : Prop := AWp tP zL4 (zL3 K) (ux 2 (t2 :: t3 :: ux 1 (t5 :: t6 :: ux 13 (t20 :: t21 :: ux 87 [])))) H
def zdv (t2 t3 t5 t6 t20 t21 : AV) (H : zaa) (K : Kt) : Prop :=
 zag t21
 (zdg t2 t3 t5 t6 H K)
 (zad .eql false t20 (.int .i64 4) fun t26 =>
 zag t26
 (zac H (fun K' => zaf 1 t3 (K' · H)) fun t27 =>
 zac H (fun K' => zai false 1 t27 H (K' · H)) fun t28 =>
 zac H (fun K' => zad .lss false t28 (.int .i64 0) (K' · H)) fun t29 =>
 zac H (fun K' => K' t29 H) fun t30 =>
 zab t30 false H (fun K' => zac H (fun K'' => zaf 1 t3 (K'' · H)) (K' · H)) fun t31 H =>
 zab t30 false H (fun K' => zac H (fun K'' => zai false 1 t31 H (K'' · H)) (K' · H)) fun t32 H =>
 zab t30 false H (fun K' => zac H (fun K'' => zai false 1 t2 H (K'' · H)) (K' · H)) fun t33 H =>
 zab t30 false H (fun K' => zac H (fun K'' => za1 t33 (K'' · H)) (K' · H)) fun t34 H =>
 zab t30 false H (fun K' => zac H (fun K'' => zaf 1 t34 (K'' · H)) (K' · H)) fun t35 H =>
 zab t30 false H (fun K' => zac H (fun K'' => zai false 1 t35 H (K'' · H)) (K' · H)) fun t36 H =>
 zab t30 false H (fun K' => zac H (fun K'' => zad .geq false t32 t36 (K'' · H)) (K' · H)) fun t37 H =>
 zac H (fun K' => zah t30 (.bool true) t37 (K' · H)) fun t38 =>
 zag t38
 (K (.bool false) H)
 (zdg t2 t3 t5 t6 H K))
 (zad .eql false t20 (.int .i64 5) fun t40 =>
 zag t40
 (zac H (fun K' => zaf 1 t3 (K' · H)) fun t41 =>
 zac H (fun K' => zai false 1 t41 H (K' · H)) fun t42 =>
 zac H (fun K' => zad .lss false t42 (.int .i64 0) (K' · H)) fun t43 =>
 zac H (fun K' => K' t43 H) fun t44 =>
 zab t44 false H (fun K' => zac H (fun K'' => zaf 1 t3 (K'' · H)) (K' · H)) fun t45 H =>
 zab t44 false H (fun K' => zac H (fun K'' => zai false 1 t45 H (K'' · H)) (K' · H)) fun t46 H =>
 zab t44 false H (fun K' => zac H (fun K'' => zai false 1 t2 H (K'' · H)) (K' · H)) fun t47 H =>
 zab t44 false H (fun K' => zac H (fun K'' => za1 t47 (K'' · H)) (K' · H)) fun t48 H =>
 zab t44 false H (fun K' => zac H (fun K'' => zaf 0 t48 (K'' · H)) (K' · H)) fun t49 H =>
 zab t44 false H (fun K' => zac H (fun K'' => zai false 1 t49 H (K'' · H)) (K' · H)) fun t50 H =>
 zab t44 false H (fun K' => zac H (fun K'' => zak 1 t50 (K'' · H)) (K' · H)) fun t51 H =>
 zab t44 false H (fun K' => zac H (fun K'' => zad .geq false t46 t51 (K'' · H)) (K' · H)) fun t52 H =>
 zac H (fun K' => zah t44 (.bool true) t52 (K' · H)) fun t53 =>
 zag t53
 (K (.bool false) H)
 (zac H (fun K' => zai false 1 t2 H (K' · H)) fun t54 =>
 zac H (fun K' => za1 t54 (K' · H)) fun t55 =>
 zac H (fun K' => zaf 0 t55 (K' · H)) fun t56 =>
 zac H (fun K' => zai false 1 t56 H (K' · H)) fun t57 =>
 zac H (fun K' => zaf 1 t3 (K' · H)) fun t58 =>
 zac H (fun K' => zai false 1 t58 H (K' · H)) fun t59 =>
 zac H (fun K' => zaj 3 t57 t59 (K' · H)) fun t60 =>
 zac H (fun K' => zaf 1 t60 (K' · H)) fun t61 =>
 zac H (fun K' => zai false 1 t61 H (K' · H)) fun t62 =>
 zac H (fun K' => zai false 1 t2 H (K' · H)) fun t63 =>
 zac H (fun K' => za1 t63 (K' · H)) fun t64 =>
 zac H (fun K' => zaf 0 t64 (K' · H)) fun t65 =>
 zac H (fun K' => zai false 1 t65 H (K' · H)) fun t66 =>
 zac H (fun K' => zaf 1 t3 (K' · H)) fun t67 =>
 zac H (fun K' => zai false 1 t67 H (K' · H)) fun t68 =>
 zac H (fun K' => zaj 3 t66 t68 (K' · H)) fun t69 =>
 zac H (fun K' => zaf 1 t69 (K' · H)) fun t70 =>
 zac H (fun K' => zai false 1 t70 H (K' · H)) fun t71 =>
 zac H (fun K' => K' t62 H) fun t5 =>
 zac H (fun K' => K' t71 H) fun t6 =>
 zdg t2 t3 t5 t6 H K))
 (zad .eql false t20 (.int .i64 6) fun t73 =>
 zag t73
 (zdg t2 t3 (.int .i64 2) (.int .i64 6) H K)
 (zad .eql false t20 (.int .i64 7) fun t75 =>
 zag t75
 (zq0 t2 t3 t20 t75 H K)
 (zad .eql false t20 (.int .i64 8) fun t76 =>
 zq0 t2 t3 t20 t76 H K)))))
noncomputable def zL1 : Code := zao [1, 1, 1, 1, 0, 1] zes
def zL0 (K : Kt) : AExit → List AV → zaa → Prop := zap tP zer [1, 1, 1, 1, 0, 1] zes (zas tP zlQ K)
def zxC (t2 t3 t5 t6 t20 : AV) (H : zaa) (K : Kt) : Prop := AWp tP zL1 (zL0 K) (ux 2 (t2 :: t3 :: ux 1 (t5 :: t6 :: ux 13 (t20 :: ux 88 [])))) H
def zqZ (t2 t3 t5 t6 t20 : AV) (H : zaa) (K : Kt) : Prop :=
 zad .eql false t20 (.int .i64 1) fun t22 =>
 zag t22
 (zlO t2 t3 t5 t6 t20 t22 H K)
 (zad .eql false t20 (.int .i64 2) fun t23 =>
 zag t23
 (zlO t2 t3 t5 t6 t20 t23 H K)
 (zad .eql false t20 (.int .i64 3) fun t24 =>
 zlO t2 t3 t5 t6 t20 t24 H K))
noncomputable def zLY : Code := zao [1, 1] zes
def zLX (K : Kt) : AExit → List AV → zaa → Prop := zap tP zer [1, 1] zes (zas tP zlQ K)
def zqX (t2 t3 : AV) (H : zaa) (K : Kt) : Prop := AWp tP zLY (zLX K) (ux 2 (t2 :: t3 :: ux 105 [])) H
def zqY (t2 t3 : AV) (H : zaa) (K : Kt) : Prop :=
 zae false 1 t2 H fun t14 =>
 za1 t14 fun t15 =>
 zaf 2 t15 fun t16 =>
 zae false 1 t16 H fun t17 =>
 zad .lss false t17 (.int .i64 0) fun t18 =>
 zag t18
 (K (.bool false) H)
 (zaf 0 t3 fun t19 =>
 zae false 1 t19 H fun t20 =>
 zxC t2 t3 (.int .i64 0) (.int .i64 0) t20 H K)
def zxB (t0 t1 : AV) (H : zaa) (K : Kt) : Prop :=
 zaD t0 H fun t2 H =>
 zaD t1 H fun t3 H =>
 zae false 1 t2 H fun t7 =>
 za1 t7 fun t8 =>
 zaf 2 t8 fun t9 =>
 zae false 1 t9 H fun t10 =>
 zad .sub false t10 (.int .i64 1) fun t11 =>
 za1 t7 fun t12 =>
 zaf 2 t12 fun t13 =>
 zar 1 t13 t11 H fun H =>
 zqX t2 t3 H K
theorem zxE {t2 t3 t20 t74 : AV} {H : zaa} {K : Kt} (h : HSc H → zlP t2 t3 t20 t74 H K) : zq0 t2 t3 t20 t74 H K :=
 fun B w G a hH hF hd => zbb (M := zer) _ _ _ _ (Eq.mpr (by kernel_rfl) (h hH.sc)) B w G a hH hF hd
theorem zxD {t2 t3 t5 t6 t20 t21 : AV} {H : zaa} {K : Kt} (h : HSc H → zdv t2 t3 t5 t6 t20 t21 H K) : zlO t2 t3 t5 t6 t20 t21 H K :=
 fun B w G a hH hF hd => zbb (M := zer) _ _ _ _ (Eq.mpr (by kernel_rfl) (h hH.sc)) B w G a hH hF hd
theorem zL2 {t2 t3 t5 t6 t20 : AV} {H : zaa} {K : Kt} (h : HSc H → zqZ t2 t3 t5 t6 t20 H K) : zxC t2 t3 t5 t6 t20 H K :=
 fun B w G a hH hF hd => zbb (M := zer) _ _ _ _ (Eq.mpr (by kernel_rfl) (h hH.sc)) B w G a hH hF hd
theorem zLZ {t2 t3 : AV} {H : zaa} {K : Kt} (h : HSc H → zqY t2 t3 H K) : zqX t2 t3 H K :=
 fun B w G a hH hF hd => zbb (M := zer) _ _ _ _ (Eq.mpr (by kernel_rfl) (h hH.sc)) B w G a hH hF hd
theorem zL7 {t0 t1 : AV} {H : zaa} {K : Kt} (h : HSc H → zxB t0 t1 H K) : ACalls tP ziu [t0, t1] H K :=
 zav (M := zer) Try.func88 (c := zes) (by kernel_rfl) (fun hs => Eq.mpr (by kernel_rfl) (h hs))
def zCp (_ : Nat) : List Bool := []
noncomputable def zCq : Code := Try.f104.body.getD .skip
def zt6 (t0 t1 : AV) (H : zaa) (K : Kt) : Prop :=
 zaD t0 H fun t2 H =>
 zae false 1 t1 H fun t4 =>
 zae true 3 t2 H fun t5 =>
 ACalls tP ziu [t4, t5] H fun t6 H =>
 aUn .not t6 fun t7 =>
 K t7 H
theorem zCr {t0 t1 : AV} {H : zaa} {K : Kt} (h : HSc H → zt6 t0 t1 H K) : ACalls tP zh7 [t0, t1] H K :=
 zav (M := zCp) Try.func104 (c := zCq) (by kernel_rfl) (fun hs => Eq.mpr (by kernel_rfl) (h hs))
def zKk (_ : Nat) : List Bool := []
noncomputable def zKl : Code := Try.f71.body.getD .skip
def zw2 (t0 t1 : AV) (H : zaa) (K : Kt) : Prop :=
 zaD t0 H fun t2 H =>
 zaD t1 H fun t3 H =>
 zaf 0 t2 fun t5 =>
 zae false 1 t5 H fun t6 =>
 zaf 0 t3 fun t7 =>
 zae false 1 t7 H fun t8 =>
 zad .eql false t6 t8 fun t9 =>
 zab t9 true H (fun K' => zaf 1 t2 (K' · H)) fun t11 H =>
 zab t9 true H (fun K' => zae false 1 t11 H (K' · H)) fun t12 H =>
 zab t9 true H (fun K' => zaf 1 t3 (K' · H)) fun t13 H =>
 zab t9 true H (fun K' => zae false 1 t13 H (K' · H)) fun t14 H =>
 zab t9 true H (fun K' => zad .eql false t12 t14 (K' · H)) fun t15 H =>
 zah t9 t15 (.bool false) fun t16 =>
 zab t16 true H (fun K' => zaf 2 t2 (K' · H)) fun t18 H =>
 zab t16 true H (fun K' => zae false 1 t18 H (K' · H)) fun t19 H =>
 zab t16 true H (fun K' => zaf 2 t3 (K' · H)) fun t20 H =>
 zab t16 true H (fun K' => zae false 1 t20 H (K' · H)) fun t21 H =>
 zab t16 true H (fun K' => ACalls tP ziv [t19, t21, (.fn zbG [])] H K') fun t22 H =>
 zah t16 t22 (.bool false) fun t23 =>
 K t23 H
theorem zKm {t0 t1 : AV} {H : zaa} {K : Kt} (h : HSc H → zw2 t0 t1 H K) : ACalls tP zbG [t0, t1] H K :=
 zav (M := zKk) Try.func71 (c := zKl) (by kernel_rfl) (fun hs => Eq.mpr (by kernel_rfl) (h hs))
def zlR : Nat → List Bool
 | 4 => rl false [1,2,12,3,14]
 | _ => []
noncomputable def zq3 : Code := Try.f89.body.getD .skip
noncomputable def zMd : List ResultVar := Try.f89.results.toList
def zlS (t1 t2 t15 t16 t17 : AV) : List AV := ux 1 (t1 :: t2 :: ux 12 (t15 :: t16 :: t17 :: ux 14 []))
def zMb : List Bool := zlR 4
noncomputable def zL9 : Code := zao [1, 1, 0, 1, 0, 0] zq3
def zL8 (K : Kt) : AExit → List AV → zaa → Prop := zap tP zlR [1, 1, 0, 1, 0] zq3 (zas tP zMd K)
def zxF (t1 t2 t15 t16 t17 : AV) (H : zaa) (K : Kt) : Prop := ALoop tP zL9 (zL8 K) (zlS t1 t2 t15 t16 t17) H
def zq2 (t1 t2 t15 t16 t17 : AV) (H : zaa) (K : Kt) (Kb4 : Lt) : Prop :=
 zad .lss false t17 t16 fun t18 =>
 zag t18
 (zaj 3 t15 t17 fun t20 =>
 zae true 3 t20 H fun t21 =>
 zaA [(.int .i64 0), (.int .i64 0), .snil] H fun t8 H =>
 zar 3 t8 t21 H fun H =>
 zaj 3 t1 t17 fun t24 =>
 zae true 3 t24 H fun t25 =>
 zaA [(.int .i64 0), (.int .i64 0), .snil] H fun t9 H =>
 zar 3 t9 t25 H fun H =>
 zae true 3 t8 H fun t27 =>
 zae true 3 t9 H fun t28 =>
 aCallV tP t2 [t27, t28] H fun t29 H =>
 aUn .not t29 fun t30 =>
 zag t30
 (K (.bool false) H)
 (zad .add false t17 (.int .i64 1) fun t31 =>
 Kb4 (zlS t1 t2 t15 t16 t31) H))
 (K (.bool true) H)
def zq1 (t0 t1 t2 : AV) (H : zaa) (K : Kt) : Prop :=
 zak 1 t0 fun t11 =>
 zak 1 t1 fun t13 =>
 zad .neq false t11 t13 fun t14 =>
 zag t14
 (K (.bool false) H)
 (zak 1 t0 fun t16 =>
 zxF t1 t2 t0 t16 (.int .i64 0) H K)
theorem zMa {t1 t2 t15 t16 t17 : AV} {H : zaa} {K : Kt} (Inv : Nat → AV → zaa → Prop) (n : Nat) (h0 : HSc H → Inv n t17 H)
  (round : Rd1 (fun t17 => zlS t1 t2 t15 t16 t17) (fun t17 => fun H Kb4 => zq2 t1 t2 t15 t16 t17 H K Kb4) H Inv) : zxF t1 t2 t15 t16 t17 H K :=
 lp1 (M := zlR) zMb t17 (by kernel_rfl) Inv n h0 round
theorem zMc {t0 t1 t2 : AV} {H : zaa} {K : Kt} (h : HSc H → zq1 t0 t1 t2 H K) : ACalls tP ziv [t0, t1, t2] H K :=
 zav (M := zlR) Try.func89 (c := zq3) (by kernel_rfl) (fun hs => Eq.mpr (by kernel_rfl) (h hs))
def zKb (_ : Nat) : List Bool := []
noncomputable def zKc : Code := Try.f68.body.getD .skip
def zwZ (t0 t1 : AV) (H : zaa) (K : Kt) : Prop :=
 ACalls tP zno [t0, t1] H fun t7 H =>
 zad .geq false t7 (.int .i64 0) fun t8 =>
 K t8 H
theorem zKd {t0 t1 : AV} {H : zaa} {K : Kt} (h : HSc H → zwZ t0 t1 H K) : ACalls tP zfg [t0, t1] H K :=
 zav (M := zKb) Try.func68 (c := zKc) (by kernel_rfl) (fun hs => Eq.mpr (by kernel_rfl) (h hs))
def zlM : Nat → List Bool
 | 2 => rl false [0,2,5,2,10]
 | _ => []
noncomputable def zqW : Code := Try.f87.body.getD .skip
noncomputable def zLW : List ResultVar := Try.f87.results.toList
def zlN (t0 t1 t7 t8 : AV) : List AV := t0 :: t1 :: ux 5 (t7 :: t8 :: ux 10 [])
def zLU : List Bool := zlM 2
noncomputable def zLS : Code := zao [1, 0, 1, 0, 0] zqW
def zLR (K : Kt) : AExit → List AV → zaa → Prop := zap tP zlM [1, 0, 1, 0] zqW (zas tP zLW K)
def zxA (t0 t1 t7 t8 : AV) (H : zaa) (K : Kt) : Prop := ALoop tP zLS (zLR K) (zlN t0 t1 t7 t8) H
def zqV (t0 t1 t7 t8 : AV) (H : zaa) (K : Kt) (Kb2 : Lt) : Prop :=
 zad .lss false t8 t7 fun t9 =>
 zag t9
 (zaj 3 t0 t8 fun t14 =>
 zae true 3 t14 H fun t15 =>
 aCallV tP t1 [t15] H fun t16 H =>
 zag t16
 (K t8 H)
 (zad .add false t8 (.int .i64 1) fun t18 =>
 Kb2 (zlN t0 t1 t7 t18) H))
 (K (.int .i64 (-1)) H)
def zxz (t0 t1 : AV) (H : zaa) (K : Kt) : Prop :=
 zak 1 t0 fun t7 =>
 zxA t0 t1 t7 (.int .i64 0) H K
theorem zLT {t0 t1 t7 t8 : AV} {H : zaa} {K : Kt} (Inv : Nat → AV → zaa → Prop) (n : Nat) (h0 : HSc H → Inv n t8 H)
  (round : Rd1 (fun t8 => zlN t0 t1 t7 t8) (fun t8 => fun H Kb2 => zqV t0 t1 t7 t8 H K Kb2) H Inv) : zxA t0 t1 t7 t8 H K :=
 lp1 (M := zlM) zLU t8 (by kernel_rfl) Inv n h0 round
theorem zLV {t0 t1 : AV} {H : zaa} {K : Kt} (h : HSc H → zxz t0 t1 H K) : ACalls tP zno [t0, t1] H K :=
 zav (M := zlM) Try.func87 (c := zqW) (by kernel_rfl) (fun hs => Eq.mpr (by kernel_rfl) (h hs))
def zdQ : Nat → List Bool
 | 8 => rl false [2,1,1,1,3,2,49,3,46]
 | 13 => rl false [2,1,1,1,3,2,67,3,28]
 | 20 => rl false [4,1,9,1,78,3,12]
 | _ => []
noncomputable def zfr : Code := Try.f105.body.getD .skip
noncomputable def zol : List ResultVar := Try.f105.results.toList
def zi5 (t2 t4 t8 t9 t59 t60 t61 : AV) : List AV := ux 2 (t2 :: ux 1 (t4 :: ux 3 (t8 :: t9 :: ux 49 (t59 :: t60 :: t61 :: ux 46 []))))
def zCD : List Bool := zdQ 8
noncomputable def zCx : Code := zao [1, 1, 1, 1, 1, 0, 1, 0, 0] zfr
def zCu (K : Kt) : AExit → List AV → zaa → Prop := zap tP zdQ [1, 1, 1, 1, 1, 0, 1, 0] zfr (zas tP zol K)
def zt9 (t2 t4 t8 t9 t59 t60 t61 : AV) (H : zaa) (K : Kt) : Prop := ALoop tP zCx (zCu K) (zi5 t2 t4 t8 t9 t59 t60 t61) H
def zi3 (t2 t4 t8 t9 t77 t78 t79 : AV) : List AV := ux 2 (t2 :: ux 1 (t4 :: ux 3 (t8 :: t9 :: ux 67 (t77 :: t78 :: t79 :: ux 28 []))))
def zCB : List Bool := zdQ 13
noncomputable def zCv : Code := zao [1, 1, 1, 1, 1, 1, 0, 1, 0, 0] zfr
def zCs (K : Kt) : AExit → List AV → zaa → Prop := zap tP zdQ [1, 1, 1, 1, 1, 1, 0, 1, 0] zfr (zas tP zol K)
def zt8 (t2 t4 t8 t9 t77 t78 t79 : AV) (H : zaa) (K : Kt) : Prop := ALoop tP zCv (zCs K) (zi3 t2 t4 t8 t9 t77 t78 t79) H
def zi4 (t4 t14 t93 t94 t95 : AV) : List AV := ux 4 (t4 :: ux 9 (t14 :: ux 78 (t93 :: t94 :: t95 :: ux 12 [])))
def zCC : List Bool := zdQ 20
noncomputable def zCw : Code := zao [1, 1, 1, 1, 1, 1, 1, 1, 0, 1, 0, 0] zfr
def zCt (K : Kt) : AExit → List AV → zaa → Prop := zap tP zdQ [1, 1, 1, 1, 1, 1, 1, 1, 0, 1, 0] zfr (zas tP zol K)
def zi6 (t4 t14 t93 t94 t95 : AV) (H : zaa) (K : Kt) : Prop := ALoop tP zCw (zCt K) (zi4 t4 t14 t93 t94 t95) H
def zoj (t4 t14 t93 t94 t95 : AV) (H : zaa) (K : Kt) (Kb20 : Lt) : Prop :=
 zad .lss false t95 t94 fun t96 =>
 zag t96
 (zaj 3 t93 t95 fun t97 =>
 zae true 3 t97 H fun t98 =>
 zaA [(.int .i64 0), (.int .i64 0), .snil] H fun t16 H =>
 zar 3 t16 t98 H fun H =>
 zae true 3 t16 H fun t100 =>
 zaf 2 t4 fun t101 =>
 zae false 1 t101 H fun t102 =>
 ACalls tP zgU [t100, t102] H fun t103 H =>
 zaz 3 [(.int .i64 0), (.int .i64 0), .snil] 1 [(0, t103)] fun t104 =>
 zaH zaB 3 40 t14 t104 H fun t105 H =>
 zad .add false t95 (.int .i64 1) fun t106 =>
 Kb20 (zi4 t4 t105 t93 t94 t106) H)
 (zaR [t14, (.bool true)] (K · H))
def zoi (t2 t4 t8 t9 t77 t78 t79 : AV) (H : zaa) (K : Kt) (Kb13 : Lt) : Prop :=
 zad .lss false t79 t78 fun t80 =>
 zag t80
 (zaj 3 t77 t79 fun t81 =>
 zae true 3 t81 H fun t82 =>
 zaA [(.int .i64 0), (.int .i64 0), .snil] H fun t13 H =>
 zar 3 t13 t82 H fun H =>
 zae true 3 t13 H fun t83 =>
 ACalls tP zig [t83, t9] H fun t85 H =>
 zad .gtr false t85 (.int .i64 200) fun t86 =>
 zag t86
 (zaR [.snil, (.bool false)] (K · H))
 (zad .add false t79 (.int .i64 1) fun t87 =>
 Kb13 (zi3 t2 t4 t8 t9 t77 t78 t87) H))
 (zaf 2 t8 fun t88 =>
 zae false 1 t88 H fun t89 =>
 zaj 2 t89 t2 fun t91 =>
 zaf 1 t91 fun t92 =>
 zae false 1 t92 H fun t93 =>
 zak 1 t93 fun t94 =>
 zi6 t4 .snil t93 t94 (.int .i64 0) H K)
def zok (t2 t4 t8 t9 t59 t60 t61 : AV) (H : zaa) (K : Kt) (Kb8 : Lt) : Prop :=
 zad .lss false t61 t60 fun t62 =>
 zag t62
 (zaj 3 t59 t61 fun t64 =>
 zae true 3 t64 H fun t65 =>
 zaA [(.int .i64 0), (.int .i64 0), .snil] H fun t11 H =>
 zar 3 t11 t65 H fun H =>
 zae true 3 t11 H fun t68 =>
 ACalls tP zif [t68] H fun t69 H =>
 zaj 1 t9 t61 fun t70 =>
 zar 1 t70 t69 H fun H =>
 zad .add false t61 (.int .i64 1) fun t71 =>
 Kb8 (zi5 t2 t4 t8 t9 t59 t60 t71) H)
 (zaf 2 t8 fun t72 =>
 zae false 1 t72 H fun t73 =>
 zaj 2 t73 t2 fun t75 =>
 zaf 1 t75 fun t76 =>
 zae false 1 t76 H fun t77 =>
 zak 1 t77 fun t78 =>
 zt8 t2 t4 t8 t9 t77 t78 (.int .i64 0) H K)
def zt7 (t0 t1 t2 : AV) (H : zaa) (K : Kt) : Prop :=
 zaD t1 H fun t4 H =>
 zaf 0 t4 fun t17 =>
 zae false 1 t17 H fun t18 =>
 zad .neq false t18 (.int .i64 5) fun t19 =>
 zab t19 false H (fun K' => zaf 1 t4 (K' · H)) fun t21 H =>
 zab t19 false H (fun K' => zae false 1 t21 H (K' · H)) fun t22 H =>
 zab t19 false H (fun K' => zad .lss false t22 (.int .i64 0) (K' · H)) fun t23 H =>
 zah t19 (.bool true) t23 fun t24 =>
 zab t24 false H (fun K' => zaf 1 t4 (K' · H)) fun t26 H =>
 zab t24 false H (fun K' => zae false 1 t26 H (K' · H)) fun t27 H =>
 zab t24 false H (fun K' => K' t0 H) fun t28 H =>
 zab t24 false H (fun K' => zak 1 t28 (K' · H)) fun t29 H =>
 zab t24 false H (fun K' => zad .geq false t27 t29 (K' · H)) fun t30 H =>
 zah t24 (.bool true) t30 fun t31 =>
 zag t31
 (zaR [.snil, (.bool false)] (K · H))
 (zaf 1 t4 fun t33 =>
 zae false 1 t33 H fun t34 =>
 zaj 3 t0 t34 fun t35 =>
 zae true 3 t35 H fun t36 =>
 zaA [(.str []), (.int .i64 0), .snil] H fun t8 H =>
 zar 3 t8 t36 H fun H =>
 zaf 2 t4 fun t37 =>
 zae false 1 t37 H fun t38 =>
 zak 1 t38 fun t39 =>
 zaf 1 t8 fun t40 =>
 zae false 1 t40 H fun t41 =>
 zad .neq false t39 t41 fun t42 =>
 zab t42 false H (fun K' => K' t2 H) fun t44 H =>
 zab t42 false H (fun K' => zad .lss false t44 (.int .i64 0) (K' · H)) fun t45 H =>
 zah t42 (.bool true) t45 fun t46 =>
 zab t46 false H (fun K' => K' t2 H) fun t48 H =>
 zab t46 false H (fun K' => zaf 2 t8 (K' · H)) fun t49 H =>
 zab t46 false H (fun K' => zae false 1 t49 H (K' · H)) fun t50 H =>
 zab t46 false H (fun K' => zak 1 t50 (K' · H)) fun t51 H =>
 zab t46 false H (fun K' => zad .geq false t48 t51 (K' · H)) fun t52 H =>
 zah t46 (.bool true) t52 fun t53 =>
 zag t53
 (zaR [.snil, (.bool false)] (K · H))
 (zaf 2 t4 fun t54 =>
 zae false 1 t54 H fun t55 =>
 zak 1 t55 fun t56 =>
 zaY 8 [(.int .i64 0)] t56 t56 H fun t57 H =>
 zaf 2 t4 fun t58 =>
 zae false 1 t58 H fun t59 =>
 zak 1 t59 fun t60 =>
 zt9 t2 t4 t8 t57 t59 t60 (.int .i64 0) H K))
theorem zCz {t4 t14 t93 t94 t95 : AV} {H : zaa} {K : Kt} (Inv : Nat → AV → AV → zaa → Prop) (n : Nat) (h0 : HSc H → Inv n t14 t95 H)
  (round : Rd2 (fun t14 => fun t95 => zi4 t4 t14 t93 t94 t95) (fun t14 => fun t95 => fun H Kb20 => zoj t4 t14 t93 t94 t95 H K Kb20) H Inv) : zi6 t4 t14 t93 t94 t95 H K :=
 lp2 (M := zdQ) zCC t14 t95 (by kernel_rfl) Inv n h0 round
theorem zCy {t2 t4 t8 t9 t77 t78 t79 : AV} {H : zaa} {K : Kt} (Inv : Nat → AV → zaa → Prop) (n : Nat) (h0 : HSc H → Inv n t79 H)
  (round : Rd1 (fun t79 => zi3 t2 t4 t8 t9 t77 t78 t79) (fun t79 => fun H Kb13 => zoi t2 t4 t8 t9 t77 t78 t79 H K Kb13) H Inv) : zt8 t2 t4 t8 t9 t77 t78 t79 H K :=
 lp1 (M := zdQ) zCB t79 (by kernel_rfl) Inv n h0 round
theorem zCA {t2 t4 t8 t9 t59 t60 t61 : AV} {H : zaa} {K : Kt} (Inv : Nat → AV → zaa → Prop) (n : Nat) (h0 : HSc H → Inv n t61 H)
  (round : Rd1 (fun t61 => zi5 t2 t4 t8 t9 t59 t60 t61) (fun t61 => fun H Kb8 => zok t2 t4 t8 t9 t59 t60 t61 H K Kb8) H Inv) : zt9 t2 t4 t8 t9 t59 t60 t61 H K :=
 lp1 (M := zdQ) zCD t61 (by kernel_rfl) Inv n h0 round
theorem zCE {t0 t1 t2 : AV} {H : zaa} {K : Kt} (h : HSc H → zt7 t0 t1 t2 H K) : ACalls tP zgO [t0, t1, t2] H K :=
 zav (M := zdQ) Try.func105 (c := zfr) (by kernel_rfl) (fun hs => Eq.mpr (by kernel_rfl) (h hs))
def zjr : Nat → List Bool
 | 3 => rl false [3,1,3,3,9]
 | _ => []
noncomputable def zoF : Code := Try.f124.body.getD .skip
noncomputable def zEe : List ResultVar := Try.f124.results.toList
def zjs (t3 t7 t8 t9 : AV) : List AV := ux 3 (t3 :: ux 3 (t7 :: t8 :: t9 :: ux 9 []))
def zEc : List Bool := zjr 3
noncomputable def zEa : Code := zao [1, 1, 0, 1, 0, 0] zoF
def zD9 (K : Kt) : AExit → List AV → zaa → Prop := zap tP zjr [1, 1, 0, 1, 0] zoF (zas tP zEe K)
def zuE (t3 t7 t8 t9 : AV) (H : zaa) (K : Kt) : Prop := ALoop tP zEa (zD9 K) (zjs t3 t7 t8 t9) H
def zoE (t3 t7 t8 t9 : AV) (H : zaa) (K : Kt) (Kb3 : Lt) : Prop :=
 zad .lss false t9 t8 fun t10 =>
 zag t10
 (zaj 3 t7 t9 fun t11 =>
 zae true 3 t11 H fun t12 =>
 zaA [(.int .i64 0), (.int .i64 0), .snil] H fun t5 H =>
 zar 3 t5 t12 H fun H =>
 zae true 3 t5 H fun t14 =>
 ACalls tP zif [t14] H fun t15 H =>
 zad .add false t3 t15 fun t16 =>
 zad .add false t9 (.int .i64 1) fun t17 =>
 Kb3 (zjs t16 t7 t8 t17) H)
 (K t3 H)
def zuD (t0 : AV) (H : zaa) (K : Kt) : Prop :=
 zaD t0 H fun t1 H =>
 zaf 2 t1 fun t6 =>
 zae false 1 t6 H fun t7 =>
 zak 1 t7 fun t8 =>
 zuE (.int .i64 1) t7 t8 (.int .i64 0) H K
theorem zEb {t3 t7 t8 t9 : AV} {H : zaa} {K : Kt} (Inv : Nat → AV → AV → zaa → Prop) (n : Nat) (h0 : HSc H → Inv n t3 t9 H)
  (round : Rd2 (fun t3 => fun t9 => zjs t3 t7 t8 t9) (fun t3 => fun t9 => fun H Kb3 => zoE t3 t7 t8 t9 H K Kb3) H Inv) : zuE t3 t7 t8 t9 H K :=
 lp2 (M := zjr) zEc t3 t9 (by kernel_rfl) Inv n h0 round
theorem zEd {t0 : AV} {H : zaa} {K : Kt} (h : HSc H → zuD t0 H K) : ACalls tP zif [t0] H K :=
 zav (M := zjr) Try.func124 (c := zoF) (by kernel_rfl) (fun hs => Eq.mpr (by kernel_rfl) (h hs))
def zjt : Nat → List Bool
 | 5 => rl false [1,1,3,1,23,3,12]
 | _ => []
noncomputable def zoI : Code := Try.f125.body.getD .skip
noncomputable def zEl : List ResultVar := Try.f125.results.toList
def zju (t1 t5 t29 t30 t31 : AV) : List AV := ux 1 (t1 :: ux 3 (t5 :: ux 23 (t29 :: t30 :: t31 :: ux 12 [])))
def zEj : List Bool := zjt 5
noncomputable def zEh : Code := zao [1, 1, 1, 0, 1, 0, 0] zoI
def zEg (K : Kt) : AExit → List AV → zaa → Prop := zap tP zjt [1, 1, 1, 0, 1, 0] zoI (zas tP zEl K)
def zoK (t1 t5 t29 t30 t31 : AV) (H : zaa) (K : Kt) : Prop := ALoop tP zEh (zEg K) (zju t1 t5 t29 t30 t31) H
def zoJ (t5 : AV) (H : zaa) (K : Kt) : Prop :=
 K t5 H
def zjv (t5 : AV) (H : zaa) (K : Kt) : Prop :=
 zoJ t5 H K
def zoH (t1 t5 t29 t30 t31 : AV) (H : zaa) (K : Kt) (Kb5 : Lt) : Prop :=
 zad .lss false t31 t30 fun t32 =>
 zag t32
 (zaj 3 t29 t31 fun t33 =>
 zae true 3 t33 H fun t34 =>
 zaA [(.int .i64 0), (.int .i64 0), .snil] H fun t7 H =>
 zar 3 t7 t34 H fun H =>
 zae true 3 t7 H fun t36 =>
 ACalls tP zig [t36, t1] H fun t38 H =>
 zad .add false t5 t38 fun t39 =>
 zad .gtr false t39 (.int .i64 200) fun t41 =>
 zag t41
 (zjv t39 H K)
 (zad .add false t31 (.int .i64 1) fun t42 =>
 Kb5 (zju t1 t39 t29 t30 t42) H))
 (zjv t5 H K)
def zoG (t0 t1 : AV) (H : zaa) (K : Kt) : Prop :=
 zaD t0 H fun t2 H =>
 zaf 0 t2 fun t8 =>
 zae false 1 t8 H fun t9 =>
 zad .eql false t9 (.int .i64 4) fun t10 =>
 zab t10 true H (fun K' => zaf 1 t2 (K' · H)) fun t12 H =>
 zab t10 true H (fun K' => zae false 1 t12 H (K' · H)) fun t13 H =>
 zab t10 true H (fun K' => zad .geq false t13 (.int .i64 0) (K' · H)) fun t14 H =>
 zah t10 t14 (.bool false) fun t15 =>
 zab t15 true H (fun K' => zaf 1 t2 (K' · H)) fun t17 H =>
 zab t15 true H (fun K' => zae false 1 t17 H (K' · H)) fun t18 H =>
 zab t15 true H (fun K' => K' t1 H) fun t19 H =>
 zab t15 true H (fun K' => zak 1 t19 (K' · H)) fun t20 H =>
 zab t15 true H (fun K' => zad .lss false t18 t20 (K' · H)) fun t21 H =>
 zah t15 t21 (.bool false) fun t22 =>
 zag t22
 (zaf 1 t2 fun t24 =>
 zae false 1 t24 H fun t25 =>
 zaj 1 t1 t25 fun t26 =>
 zae false 1 t26 H fun t27 =>
 K t27 H)
 (zaf 2 t2 fun t28 =>
 zae false 1 t28 H fun t29 =>
 zak 1 t29 fun t30 =>
 zoK t1 (.int .i64 1) t29 t30 (.int .i64 0) H K)
theorem zEi {t1 t5 t29 t30 t31 : AV} {H : zaa} {K : Kt} (Inv : Nat → AV → AV → zaa → Prop) (n : Nat) (h0 : HSc H → Inv n t5 t31 H)
  (round : Rd2 (fun t5 => fun t31 => zju t1 t5 t29 t30 t31) (fun t5 => fun t31 => fun H Kb5 => zoH t1 t5 t29 t30 t31 H K Kb5) H Inv) : zoK t1 t5 t29 t30 t31 H K :=
 lp2 (M := zjt) zEj t5 t31 (by kernel_rfl) Inv n h0 round
theorem zEk {t0 t1 : AV} {H : zaa} {K : Kt} (h : HSc H → zoG t0 t1 H K) : ACalls tP zig [t0, t1] H K :=
 zav (M := zjt) Try.func125 (c := zoI) (by kernel_rfl) (fun hs => Eq.mpr (by kernel_rfl) (h hs))
def zjw : Nat → List Bool
 | 5 => rl false [1,1,2,2,29,3,13]
 | _ => []
noncomputable def zoN : Code := Try.f126.body.getD .skip
noncomputable def zEs : List ResultVar := Try.f126.results.toList
def zjx (t1 t4 t5 t35 t36 t37 : AV) : List AV := ux 1 (t1 :: ux 2 (t4 :: t5 :: ux 29 (t35 :: t36 :: t37 :: ux 13 [])))
def zEq : List Bool := zjw 5
noncomputable def zEo : Code := zao [1, 1, 1, 0, 1, 0, 0] zoN
def zEn (K : Kt) : AExit → List AV → zaa → Prop := zap tP zjw [1, 1, 1, 0, 1, 0] zoN (zas tP zEs K)
def zhe (t1 t4 t5 t35 t36 t37 : AV) (H : zaa) (K : Kt) : Prop := ALoop tP zEo (zEn K) (zjx t1 t4 t5 t35 t36 t37) H
def zoM (t1 t4 t5 t35 t36 t37 : AV) (H : zaa) (K : Kt) (Kb5 : Lt) : Prop :=
 zad .lss false t37 t36 fun t38 =>
 zag t38
 (zaj 3 t35 t37 fun t39 =>
 zae true 3 t39 H fun t40 =>
 zaA [(.int .i64 0), (.int .i64 0), .snil] H fun t7 H =>
 zar 3 t7 t40 H fun H =>
 zac H (fun K' => zaf 2 t5 (K' · H)) fun t41 =>
 zac H (fun K' => zai false 1 t41 H (K' · H)) fun t42 =>
 zac H (fun K' => zai true 3 t7 H (K' · H)) fun t43 =>
 zac H (fun K' => K' t1 H) fun t44 =>
 zau H (fun H K' => ACalls tP zgU [t43, t44] H K') fun t45 =>
 zac H (fun K' => zaz 3 [(.int .i64 0), (.int .i64 0), .snil] 1 [(0, t45)] (K' · H)) fun t46 =>
 zaH zaB 3 40 t42 t46 H fun t47 H =>
 zac H (fun K' => zaf 2 t5 (K' · H)) fun t48 =>
 zar 1 t48 t47 H fun H =>
 zad .add false t37 (.int .i64 1) fun t49 =>
 Kb5 (zjx t1 t4 t5 t35 t36 t49) H)
 (zae true 3 t5 H fun t50 =>
 zar 3 t4 t50 H fun H =>
 zae true 3 t4 H fun r0 =>
 K r0 H)
def zoL (t0 t1 : AV) (H : zaa) (K : Kt) : Prop :=
 zaD t0 H fun t2 H =>
 zaA [(.int .i64 0), (.int .i64 0), .snil] H fun t4 H =>
 zaf 0 t2 fun t8 =>
 zae false 1 t8 H fun t9 =>
 zad .eql false t9 (.int .i64 4) fun t10 =>
 zab t10 true H (fun K' => zaf 1 t2 (K' · H)) fun t12 H =>
 zab t10 true H (fun K' => zae false 1 t12 H (K' · H)) fun t13 H =>
 zab t10 true H (fun K' => zad .geq false t13 (.int .i64 0) (K' · H)) fun t14 H =>
 zah t10 t14 (.bool false) fun t15 =>
 zab t15 true H (fun K' => zaf 1 t2 (K' · H)) fun t17 H =>
 zab t15 true H (fun K' => zae false 1 t17 H (K' · H)) fun t18 H =>
 zab t15 true H (fun K' => K' t1 H) fun t19 H =>
 zab t15 true H (fun K' => zak 1 t19 (K' · H)) fun t20 H =>
 zab t15 true H (fun K' => zad .lss false t18 t20 (K' · H)) fun t21 H =>
 zah t15 t21 (.bool false) fun t22 =>
 zag t22
 (zaf 1 t2 fun t24 =>
 zae false 1 t24 H fun t25 =>
 zaj 3 t1 t25 fun t26 =>
 zae true 3 t26 H fun t27 =>
 ACalls tP zgU [t27, .snil] H fun t28 H =>
 zar 3 t4 t28 H fun H =>
 zae true 3 t4 H fun r0 =>
 K r0 H)
 (zaf 0 t2 fun t29 =>
 zae false 1 t29 H fun t30 =>
 zaf 1 t2 fun t31 =>
 zae false 1 t31 H fun t32 =>
 zaI [(.int .i64 0), (.int .i64 0), .snil] [(0, 1), (1, 1), (2, 1)] [(0, t30), (1, t32)] fun t33 =>
 zaA [(.int .i64 0), (.int .i64 0), .snil] H fun t5 H =>
 zar 3 t5 t33 H fun H =>
 zaf 2 t2 fun t34 =>
 zae false 1 t34 H fun t35 =>
 zak 1 t35 fun t36 =>
 zhe t1 t4 t5 t35 t36 (.int .i64 0) H K)
theorem zEp {t1 t4 t5 t35 t36 t37 : AV} {H : zaa} {K : Kt} (Inv : Nat → AV → zaa → Prop) (n : Nat) (h0 : HSc H → Inv n t37 H)
  (round : Rd1 (fun t37 => zjx t1 t4 t5 t35 t36 t37) (fun t37 => fun H Kb5 => zoM t1 t4 t5 t35 t36 t37 H K Kb5) H Inv) : zhe t1 t4 t5 t35 t36 t37 H K :=
 lp1 (M := zjw) zEq t37 (by kernel_rfl) Inv n h0 round
theorem zEr {t0 t1 : AV} {H : zaa} {K : Kt} (h : HSc H → zoL t0 t1 H K) : ACalls tP zgU [t0, t1] H K :=
 zav (M := zjw) Try.func126 (c := zoN) (by kernel_rfl) (fun hs => Eq.mpr (by kernel_rfl) (h hs))
def zHW (_ : Nat) : List Bool := []
noncomputable def zHX : Code := Try.f49.body.getD .skip
def zwe (t0 t1 t2 : AV) (H : zaa) (K : Kt) : Prop :=
 zaD t1 H fun t4 H =>
 zae true 3 t4 H fun t7 =>
 ACalls tP zgX [t7] H fun t8 H =>
 zad .leq false t8 (.int .i64 200) fun t9 =>
 zab t9 true H (fun K' => K' t0 H) fun t11 H =>
 zab t9 true H (fun K' => zae true 3 t4 H (K' · H)) fun t12 H =>
 zab t9 true H (fun K' => K' t2 H) fun t13 H =>
 zab t9 true H (fun K' => ACalls tP zis [t11, t12, t13] H K') fun t14 H =>
 zah t9 t14 (.bool false) fun t15 =>
 K t15 H
theorem zHY {t0 t1 t2 : AV} {H : zaa} {K : Kt} (h : HSc H → zwe t0 t1 t2 H K) : ACalls tP zfX [t0, t1, t2] H K :=
 zav (M := zHW) Try.func49 (c := zHX) (by kernel_rfl) (fun hs => Eq.mpr (by kernel_rfl) (h hs))
def zkK : Nat → List Bool
 | 4 => rl false [2,2,1,1,40]
 | _ => []
noncomputable def zpY : Code := Try.f51.body.getD .skip
noncomputable def zIa : List ResultVar := Try.f51.results.toList
def zkL (t2 t3 t5 : AV) : List AV := ux 2 (t2 :: t3 :: ux 1 (t5 :: ux 40 []))
def zH8 : List Bool := zkK 4
noncomputable def zH6 : Code := zao [1, 1, 0, 1, 0, 0] zpY
def zH5 (K : Kt) : AExit → List AV → zaa → Prop := zap tP zkK [1, 1, 0, 1, 0] zpY (zas tP zIa K)
def zwh (t2 t3 t5 : AV) (H : zaa) (K : Kt) : Prop := ALoop tP zH6 (zH5 K) (zkL t2 t3 t5) H
def zpX (t2 t3 t5 : AV) (H : zaa) (K : Kt) (Kb4 : Lt) : Prop :=
 zaf 2 t2 fun t28 =>
 zae false 1 t28 H fun t29 =>
 zak 1 t29 fun t30 =>
 zad .lss false t5 t30 fun t31 =>
 zag t31
 (zac H (fun K' => zaf 2 t2 (K' · H)) fun t34 =>
 zac H (fun K' => zai false 1 t34 H (K' · H)) fun t35 =>
 zac H (fun K' => K' t5 H) fun t36 =>
 zac H (fun K' => zaj 3 t35 t36 (K' · H)) fun t37 =>
 zac H (fun K' => zai true 3 t37 H (K' · H)) fun t38 =>
 zac H (fun K' => zaf 2 t3 (K' · H)) fun t39 =>
 zac H (fun K' => zai false 1 t39 H (K' · H)) fun t40 =>
 zac H (fun K' => K' t5 H) fun t41 =>
 zac H (fun K' => zaj 3 t40 t41 (K' · H)) fun t42 =>
 zac H (fun K' => zai true 3 t42 H (K' · H)) fun t43 =>
 zau H (fun H K' => ACalls tP zcr [t38, t43] H K') fun t44 =>
 zac H (fun K' => aUn .not t44 (K' · H)) fun t45 =>
 zag t45
 (K (.bool false) H)
 (zad .add false t5 (.int .i64 1) fun t33 =>
 Kb4 (zkL t2 t3 t33) H))
 (K (.bool true) H)
def zht (t0 t1 : AV) (H : zaa) (K : Kt) : Prop :=
 zaD t0 H fun t2 H =>
 zaD t1 H fun t3 H =>
 zaf 0 t2 fun t6 =>
 zae false 1 t6 H fun t7 =>
 zaf 0 t3 fun t8 =>
 zae false 1 t8 H fun t9 =>
 zad .neq false t7 t9 fun t10 =>
 zab t10 false H (fun K' => zaf 1 t2 (K' · H)) fun t12 H =>
 zab t10 false H (fun K' => zae false 1 t12 H (K' · H)) fun t13 H =>
 zab t10 false H (fun K' => zaf 1 t3 (K' · H)) fun t14 H =>
 zab t10 false H (fun K' => zae false 1 t14 H (K' · H)) fun t15 H =>
 zab t10 false H (fun K' => zad .neq false t13 t15 (K' · H)) fun t16 H =>
 zah t10 (.bool true) t16 fun t17 =>
 zab t17 false H (fun K' => zaf 2 t2 (K' · H)) fun t19 H =>
 zab t17 false H (fun K' => zae false 1 t19 H (K' · H)) fun t20 H =>
 zab t17 false H (fun K' => zak 1 t20 (K' · H)) fun t21 H =>
 zab t17 false H (fun K' => zaf 2 t3 (K' · H)) fun t22 H =>
 zab t17 false H (fun K' => zae false 1 t22 H (K' · H)) fun t23 H =>
 zab t17 false H (fun K' => zak 1 t23 (K' · H)) fun t24 H =>
 zab t17 false H (fun K' => zad .neq false t21 t24 (K' · H)) fun t25 H =>
 zah t17 (.bool true) t25 fun t26 =>
 zag t26
 (K (.bool false) H)
 (zwh t2 t3 (.int .i64 0) H K)
theorem zH7 {t2 t3 t5 : AV} {H : zaa} {K : Kt} (Inv : Nat → AV → zaa → Prop) (n : Nat) (h0 : HSc H → Inv n t5 H)
  (round : Rd1 (fun t5 => zkL t2 t3 t5) (fun t5 => fun H Kb4 => zpX t2 t3 t5 H K Kb4) H Inv) : zwh t2 t3 t5 H K :=
 lp1 (M := zkK) zH8 t5 (by kernel_rfl) Inv n h0 round
theorem zH9 {t0 t1 : AV} {H : zaa} {K : Kt} (h : HSc H → zht t0 t1 H K) : ACalls tP zcr [t0, t1] H K :=
 zav (M := zkK) Try.func51 (c := zpY) (by kernel_rfl) (fun hs => Eq.mpr (by kernel_rfl) (h hs))
def zly : Nat → List Bool
 | 3 => rl false [1,1,1,2,16]
 | _ => []
noncomputable def zqD : Code := Try.f79.body.getD .skip
noncomputable def zK9 : List ResultVar := Try.f79.results.toList
def zlz (t1 t3 t4 : AV) : List AV := ux 1 (t1 :: ux 1 (t3 :: t4 :: ux 16 []))
def zK7 : List Bool := zly 3
noncomputable def zK5 : Code := zao [1, 1, 0, 1, 0, 0] zqD
def zK4 (K : Kt) : AExit → List AV → zaa → Prop := zap tP zly [1, 1, 0, 1, 0] zqD (zas tP zK9 K)
def zxl (t1 t3 t4 : AV) (H : zaa) (K : Kt) : Prop := ALoop tP zK5 (zK4 K) (zlz t1 t3 t4) H
def zqC (t1 t3 t4 : AV) (H : zaa) (K : Kt) (Kb3 : Lt) : Prop :=
 zaf 2 t1 fun t6 =>
 zae false 1 t6 H fun t7 =>
 zak 1 t7 fun t8 =>
 zad .lss false t4 t8 fun t9 =>
 zag t9
 (zaf 2 t1 fun t13 =>
 zae false 1 t13 H fun t14 =>
 zaj 3 t14 t4 fun t16 =>
 zae true 3 t16 H fun t17 =>
 ACalls tP zgX [t17] H fun t18 H =>
 zad .add false t3 t18 fun t19 =>
 zad .add false t4 (.int .i64 1) fun t11 =>
 Kb3 (zlz t1 t19 t11) H)
 (K t3 H)
def zxk (t0 : AV) (H : zaa) (K : Kt) : Prop :=
 zaD t0 H fun t1 H =>
 zxl t1 (.int .i64 1) (.int .i64 0) H K
theorem zK6 {t1 t3 t4 : AV} {H : zaa} {K : Kt} (Inv : Nat → AV → AV → zaa → Prop) (n : Nat) (h0 : HSc H → Inv n t3 t4 H)
  (round : Rd2 (fun t3 => fun t4 => zlz t1 t3 t4) (fun t3 => fun t4 => fun H Kb3 => zqC t1 t3 t4 H K Kb3) H Inv) : zxl t1 t3 t4 H K :=
 lp2 (M := zly) zK7 t3 t4 (by kernel_rfl) Inv n h0 round
theorem zK8 {t0 : AV} {H : zaa} {K : Kt} (h : HSc H → zxk t0 H K) : ACalls tP zgX [t0] H K :=
 zav (M := zly) Try.func79 (c := zqD) (by kernel_rfl) (fun hs => Eq.mpr (by kernel_rfl) (h hs))
def zlA : Nat → List Bool
 | 24 => rl false [0,1,1,1,1,1,2,2,103]
 | _ => []
noncomputable def zqF : Code := Try.f80.body.getD .skip
noncomputable def zLf : List ResultVar := Try.f80.results.toList
def zlB (t0 t2 t4 t7 t8 : AV) : List AV := t0 :: ux 1 (t2 :: ux 1 (t4 :: ux 2 (t7 :: t8 :: ux 103 [])))
def zLd : List Bool := zlA 24
noncomputable def zLb : Code := zao [1, 1, 1, 0, 1, 0, 0] zqF
def zLa (K : Kt) : AExit → List AV → zaa → Prop := zap tP zlA [1, 1, 1, 0, 1, 0] zqF (zas tP zLf K)
def zqG (t0 t2 t4 t7 t8 : AV) (H : zaa) (K : Kt) : Prop := ALoop tP zLb (zLa K) (zlB t0 t2 t4 t7 t8) H
def zqE (t0 t2 t4 t7 t8 : AV) (H : zaa) (K : Kt) (Kb24 : Lt) : Prop :=
 zad .lss false t8 t7 fun t100 =>
 zag t100
 (zaf 2 t4 fun t104 =>
 zae false 1 t104 H fun t105 =>
 zaj 3 t105 t8 fun t107 =>
 zae true 3 t107 H fun t108 =>
 ACalls tP zis [t0, t108, t2] H fun t110 H =>
 aUn .not t110 fun t111 =>
 zag t111
 (K (.bool false) H)
 (zad .add false t8 (.int .i64 1) fun t102 =>
 Kb24 (zlB t0 t2 t4 t7 t102) H))
 (K (.bool true) H)
def zhD (t0 t2 t4 t7 : AV) (H : zaa) (K : Kt) : Prop :=
 zqG t0 t2 t4 t7 (.int .i64 0) H K
def zeV (t0 t2 t4 t7 : AV) (H : zaa) (K : Kt) : Prop :=
 zhD t0 t2 t4 t7 H K
def zd1 (t0 t2 t4 t7 t13 t75 : AV) (H : zaa) (K : Kt) : Prop :=
 zag t75
 (zaf 1 t4 fun t78 =>
 zae false 1 t78 H fun t79 =>
 zad .neq false t79 (.int .i64 0) fun t80 =>
 zab t80 false H (fun K' => K' t7 H) fun t82 H =>
 zab t80 false H (fun K' => zad .neq false t82 (.int .i64 1) (K' · H)) fun t83 H =>
 zah t80 (.bool true) t83 fun t84 =>
 zag t84
 (K (.bool false) H)
 (zeV t0 t2 t4 t7 H K))
 (zad .eql false t13 (.int .i64 9) fun t86 =>
 zag t86
 (zaf 1 t4 fun t87 =>
 zae false 1 t87 H fun t88 =>
 zad .neq false t88 (.int .i64 0) fun t89 =>
 zab t89 false H (fun K' => K' t7 H) fun t91 H =>
 zab t89 false H (fun K' => zad .lss false t91 (.int .i64 1) (K' · H)) fun t92 H =>
 zah t89 (.bool true) t92 fun t93 =>
 zab t93 false H (fun K' => K' t7 H) fun t95 H =>
 zab t93 false H (fun K' => zad .gtr false t95 (.int .i64 7) (K' · H)) fun t96 H =>
 zah t93 (.bool true) t96 fun t97 =>
 zag t97
 (K (.bool false) H)
 (zeV t0 t2 t4 t7 H K))
 (K (.bool false) H))
def zbO (t0 t2 t4 t7 t13 t14 : AV) (H : zaa) (K : Kt) : Prop :=
 zag t14
 (zaf 1 t4 fun t18 =>
 zae false 1 t18 H fun t19 =>
 zad .eql false t19 (.int .i64 0) fun t20 =>
 zab t20 true H (fun K' => K' t7 H) fun t22 H =>
 zab t20 true H (fun K' => zad .eql false t22 (.int .i64 0) (K' · H)) fun t23 H =>
 zah t20 t23 (.bool false) fun t24 =>
 K t24 H)
 (zad .eql false t13 (.int .i64 4) fun t26 =>
 zag t26
 (zaf 1 t4 fun t27 =>
 zae false 1 t27 H fun t28 =>
 zad .geq false t28 (.int .i64 0) fun t29 =>
 zab t29 true H (fun K' => zaf 1 t4 (K' · H)) fun t31 H =>
 zab t29 true H (fun K' => zae false 1 t31 H (K' · H)) fun t32 H =>
 zab t29 true H (fun K' => K' t2 H) fun t33 H =>
 zab t29 true H (fun K' => zad .lss false t32 t33 (K' · H)) fun t34 H =>
 zah t29 t34 (.bool false) fun t35 =>
 zab t35 true H (fun K' => K' t7 H) fun t37 H =>
 zab t35 true H (fun K' => zad .eql false t37 (.int .i64 0) (K' · H)) fun t38 H =>
 zah t35 t38 (.bool false) fun t39 =>
 K t39 H)
 (zad .eql false t13 (.int .i64 5) fun t41 =>
 zag t41
 (zaf 1 t4 fun t42 =>
 zae false 1 t42 H fun t43 =>
 zad .lss false t43 (.int .i64 0) fun t44 =>
 zab t44 false H (fun K' => zaf 1 t4 (K' · H)) fun t46 H =>
 zab t44 false H (fun K' => zae false 1 t46 H (K' · H)) fun t47 H =>
 zab t44 false H (fun K' => K' t0 H) fun t48 H =>
 zab t44 false H (fun K' => zak 1 t48 (K' · H)) fun t49 H =>
 zab t44 false H (fun K' => zad .geq false t47 t49 (K' · H)) fun t50 H =>
 zah t44 (.bool true) t50 fun t51 =>
 zab t51 false H (fun K' => K' t7 H) fun t53 H =>
 zab t51 false H (fun K' => K' t0 H) fun t54 H =>
 zab t51 false H (fun K' => zaf 1 t4 (K' · H)) fun t55 H =>
 zab t51 false H (fun K' => zae false 1 t55 H (K' · H)) fun t56 H =>
 zab t51 false H (fun K' => zaj 3 t54 t56 (K' · H)) fun t57 H =>
 zab t51 false H (fun K' => zaf 1 t57 (K' · H)) fun t58 H =>
 zab t51 false H (fun K' => zae false 1 t58 H (K' · H)) fun t59 H =>
 zab t51 false H (fun K' => zad .neq false t53 t59 (K' · H)) fun t60 H =>
 zah t51 (.bool true) t60 fun t61 =>
 zag t61
 (K (.bool false) H)
 (zeV t0 t2 t4 t7 H K))
 (zad .eql false t13 (.int .i64 6) fun t63 =>
 zag t63
 (zaf 1 t4 fun t64 =>
 zae false 1 t64 H fun t65 =>
 zad .neq false t65 (.int .i64 0) fun t66 =>
 zab t66 false H (fun K' => K' t7 H) fun t68 H =>
 zab t66 false H (fun K' => zad .lss false t68 (.int .i64 2) (K' · H)) fun t69 H =>
 zah t66 (.bool true) t69 fun t70 =>
 zab t70 false H (fun K' => K' t7 H) fun t72 H =>
 zab t70 false H (fun K' => zad .gtr false t72 (.int .i64 6) (K' · H)) fun t73 H =>
 zah t70 (.bool true) t73 fun t74 =>
 zag t74
 (K (.bool false) H)
 (zeV t0 t2 t4 t7 H K))
 (zad .eql false t13 (.int .i64 7) fun t76 =>
 zag t76
 (zd1 t0 t2 t4 t7 t13 t76 H K)
 (zad .eql false t13 (.int .i64 8) fun t77 =>
 zd1 t0 t2 t4 t7 t13 t77 H K)))))
def zcy (t0 t1 t2 : AV) (H : zaa) (K : Kt) : Prop :=
 zaD t1 H fun t4 H =>
 zaf 2 t4 fun t9 =>
 zae false 1 t9 H fun t10 =>
 zak 1 t10 fun t11 =>
 zaf 0 t4 fun t12 =>
 zae false 1 t12 H fun t13 =>
 zad .eql false t13 (.int .i64 1) fun t15 =>
 zag t15
 (zbO t0 t2 t4 t11 t13 t15 H K)
 (zad .eql false t13 (.int .i64 2) fun t16 =>
 zag t16
 (zbO t0 t2 t4 t11 t13 t16 H K)
 (zad .eql false t13 (.int .i64 3) fun t17 =>
 zbO t0 t2 t4 t11 t13 t17 H K))
theorem zLc {t0 t2 t4 t7 t8 : AV} {H : zaa} {K : Kt} (Inv : Nat → AV → zaa → Prop) (n : Nat) (h0 : HSc H → Inv n t8 H)
  (round : Rd1 (fun t8 => zlB t0 t2 t4 t7 t8) (fun t8 => fun H Kb24 => zqE t0 t2 t4 t7 t8 H K Kb24) H Inv) : zqG t0 t2 t4 t7 t8 H K :=
 lp1 (M := zlA) zLd t8 (by kernel_rfl) Inv n h0 round
theorem zLe {t0 t1 t2 : AV} {H : zaa} {K : Kt} (h : HSc H → zcy t0 t1 t2 H K) : ACalls tP zis [t0, t1, t2] H K :=
 zav (M := zlA) Try.func80 (c := zqF) (by kernel_rfl) (fun hs => Eq.mpr (by kernel_rfl) (h hs))
def zlC : Nat → List Bool
 | 4 => rl false [0,2,3,1,21]
 | _ => []
noncomputable def zqJ : Code := Try.f82.body.getD .skip
noncomputable def zLp : List ResultVar := Try.f82.results.toList
def zlD (t0 t1 t5 : AV) : List AV := t0 :: t1 :: ux 3 (t5 :: ux 21 [])
def zLn : List Bool := zlC 4
noncomputable def zLl : Code := zao [1, 1, 0, 1, 0, 0] zqJ
def zLk (K : Kt) : AExit → List AV → zaa → Prop := zap tP zlC [1, 1, 0, 1, 0] zqJ (zas tP zLp K)
def zxo (t0 t1 t5 : AV) (H : zaa) (K : Kt) : Prop := ALoop tP zLl (zLk K) (zlD t0 t1 t5) H
def zqI (t0 t1 t5 : AV) (H : zaa) (K : Kt) (Kb4 : Lt) : Prop :=
 zak 1 t0 fun t13 =>
 zad .lss false t5 t13 fun t14 =>
 zag t14
 (zac H (fun K' => K' t0 H) fun t17 =>
 zac H (fun K' => K' t5 H) fun t18 =>
 zac H (fun K' => zaj 3 t17 t18 (K' · H)) fun t19 =>
 zac H (fun K' => zai true 3 t19 H (K' · H)) fun t20 =>
 zac H (fun K' => K' t1 H) fun t21 =>
 zac H (fun K' => K' t5 H) fun t22 =>
 zac H (fun K' => zaj 3 t21 t22 (K' · H)) fun t23 =>
 zac H (fun K' => zai true 3 t23 H (K' · H)) fun t24 =>
 zau H (fun H K' => ACalls tP zcr [t20, t24] H K') fun t25 =>
 zac H (fun K' => aUn .not t25 (K' · H)) fun t26 =>
 zag t26
 (K (.bool false) H)
 (zad .add false t5 (.int .i64 1) fun t16 =>
 Kb4 (zlD t0 t1 t16) H))
 (K (.bool true) H)
def zqH (t0 t1 : AV) (H : zaa) (K : Kt) : Prop :=
 zak 1 t0 fun t7 =>
 zak 1 t1 fun t9 =>
 zad .neq false t7 t9 fun t10 =>
 zag t10
 (K (.bool false) H)
 (zxo t0 t1 (.int .i64 0) H K)
theorem zLm {t0 t1 t5 : AV} {H : zaa} {K : Kt} (Inv : Nat → AV → zaa → Prop) (n : Nat) (h0 : HSc H → Inv n t5 H)
  (round : Rd1 (fun t5 => zlD t0 t1 t5) (fun t5 => fun H Kb4 => zqI t0 t1 t5 H K Kb4) H Inv) : zxo t0 t1 t5 H K :=
 lp1 (M := zlC) zLn t5 (by kernel_rfl) Inv n h0 round
theorem zLo {t0 t1 : AV} {H : zaa} {K : Kt} (h : HSc H → zqH t0 t1 H K) : ACalls tP zdd [t0, t1] H K :=
 zav (M := zlC) Try.func82 (c := zqJ) (by kernel_rfl) (fun hs => Eq.mpr (by kernel_rfl) (h hs))
def zlE : Nat → List Bool
 | 5 => rl false [4,1,3,1,54,3,16]
 | _ => []
noncomputable def zqL : Code := Try.f83.body.getD .skip
noncomputable def zLw : List ResultVar := Try.f83.results.toList
def zlF (t4 t8 t63 t64 t65 : AV) : List AV := ux 4 (t4 :: ux 3 (t8 :: ux 54 (t63 :: t64 :: t65 :: ux 16 [])))
def zLu : List Bool := zlE 5
noncomputable def zLs : Code := zao [1, 1, 1, 0, 1, 0, 0] zqL
def zLr (K : Kt) : AExit → List AV → zaa → Prop := zap tP zlE [1, 1, 1, 0, 1, 0] zqL (zas tP zLw K)
def zlG (t4 t8 t63 t64 t65 : AV) (H : zaa) (K : Kt) : Prop := ALoop tP zLs (zLr K) (zlF t4 t8 t63 t64 t65) H
def zqK (t4 t8 t63 t64 t65 : AV) (H : zaa) (K : Kt) (Kb5 : Lt) : Prop :=
 zad .lss false t65 t64 fun t66 =>
 zag t66
 (zaj 3 t63 t65 fun t67 =>
 zae true 3 t67 H fun t68 =>
 zaA [(.int .i64 0), (.int .i64 0), .snil] H fun t10 H =>
 zar 3 t10 t68 H fun H =>
 zae true 3 t10 H fun t69 =>
 zaf 2 t4 fun t70 =>
 zae false 1 t70 H fun t71 =>
 ACalls tP zix [t69, t71] H fun t72 H =>
 zaA [(.int .i64 0), (.int .i64 0), .snil] H fun t11 H =>
 zar 3 t11 t72 H fun H =>
 zae true 3 t11 H fun t73 =>
 ACalls tP zgX [t73] H fun t74 H =>
 zad .gtr false t74 (.int .i64 200) fun t75 =>
 zag t75
 (zaR [.snil, (.bool false)] (K · H))
 (zae true 3 t11 H fun t77 =>
 zaz 3 [(.int .i64 0), (.int .i64 0), .snil] 1 [(0, t77)] fun t78 =>
 zaH zaB 3 40 t8 t78 H fun t79 H =>
 zad .add false t65 (.int .i64 1) fun t80 =>
 Kb5 (zlF t4 t79 t63 t64 t80) H))
 (zaR [t8, (.bool true)] (K · H))
def zxp (t0 t1 t2 : AV) (H : zaa) (K : Kt) : Prop :=
 zaD t1 H fun t4 H =>
 zac H (fun K' => zaf 0 t4 (K' · H)) fun t12 =>
 zac H (fun K' => zai false 1 t12 H (K' · H)) fun t13 =>
 zac H (fun K' => zad .neq false t13 (.int .i64 5) (K' · H)) fun t14 =>
 zac H (fun K' => K' t14 H) fun t15 =>
 zab t15 false H (fun K' => zac H (fun K'' => zaf 1 t4 (K'' · H)) (K' · H)) fun t16 H =>
 zab t15 false H (fun K' => zac H (fun K'' => zai false 1 t16 H (K'' · H)) (K' · H)) fun t17 H =>
 zab t15 false H (fun K' => zac H (fun K'' => zad .lss false t17 (.int .i64 0) (K'' · H)) (K' · H)) fun t18 H =>
 zac H (fun K' => zah t15 (.bool true) t18 (K' · H)) fun t19 =>
 zac H (fun K' => K' t19 H) fun t20 =>
 zab t20 false H (fun K' => zac H (fun K'' => zaf 1 t4 (K'' · H)) (K' · H)) fun t21 H =>
 zab t20 false H (fun K' => zac H (fun K'' => zai false 1 t21 H (K'' · H)) (K' · H)) fun t22 H =>
 zab t20 false H (fun K' => zac H (fun K'' => K'' t0 H) (K' · H)) fun t23 H =>
 zab t20 false H (fun K' => zac H (fun K'' => zak 1 t23 (K'' · H)) (K' · H)) fun t24 H =>
 zab t20 false H (fun K' => zac H (fun K'' => zad .geq false t22 t24 (K'' · H)) (K' · H)) fun t25 H =>
 zac H (fun K' => zah t20 (.bool true) t25 (K' · H)) fun t26 =>
 zac H (fun K' => K' t26 H) fun t27 =>
 zab t27 false H (fun K' => zac H (fun K'' => zaf 2 t4 (K'' · H)) (K' · H)) fun t28 H =>
 zab t27 false H (fun K' => zac H (fun K'' => zai false 1 t28 H (K'' · H)) (K' · H)) fun t29 H =>
 zab t27 false H (fun K' => zac H (fun K'' => zak 1 t29 (K'' · H)) (K' · H)) fun t30 H =>
 zab t27 false H (fun K' => zac H (fun K'' => K'' t0 H) (K' · H)) fun t31 H =>
 zab t27 false H (fun K' => zac H (fun K'' => zaf 1 t4 (K'' · H)) (K' · H)) fun t32 H =>
 zab t27 false H (fun K' => zac H (fun K'' => zai false 1 t32 H (K'' · H)) (K' · H)) fun t33 H =>
 zab t27 false H (fun K' => zac H (fun K'' => zaj 3 t31 t33 (K'' · H)) (K' · H)) fun t34 H =>
 zab t27 false H (fun K' => zac H (fun K'' => zaf 1 t34 (K'' · H)) (K' · H)) fun t35 H =>
 zab t27 false H (fun K' => zac H (fun K'' => zai false 1 t35 H (K'' · H)) (K' · H)) fun t36 H =>
 zab t27 false H (fun K' => zac H (fun K'' => zad .neq false t30 t36 (K'' · H)) (K' · H)) fun t37 H =>
 zac H (fun K' => zah t27 (.bool true) t37 (K' · H)) fun t38 =>
 zac H (fun K' => K' t38 H) fun t39 =>
 zab t39 false H (fun K' => zac H (fun K'' => K'' t2 H) (K' · H)) fun t40 H =>
 zab t39 false H (fun K' => zac H (fun K'' => zad .lss false t40 (.int .i64 0) (K'' · H)) (K' · H)) fun t41 H =>
 zac H (fun K' => zah t39 (.bool true) t41 (K' · H)) fun t42 =>
 zac H (fun K' => K' t42 H) fun t43 =>
 zab t43 false H (fun K' => zac H (fun K'' => K'' t2 H) (K' · H)) fun t44 H =>
 zab t43 false H (fun K' => zac H (fun K'' => K'' t0 H) (K' · H)) fun t45 H =>
 zab t43 false H (fun K' => zac H (fun K'' => zaf 1 t4 (K'' · H)) (K' · H)) fun t46 H =>
 zab t43 false H (fun K' => zac H (fun K'' => zai false 1 t46 H (K'' · H)) (K' · H)) fun t47 H =>
 zab t43 false H (fun K' => zac H (fun K'' => zaj 3 t45 t47 (K'' · H)) (K' · H)) fun t48 H =>
 zab t43 false H (fun K' => zac H (fun K'' => zaf 2 t48 (K'' · H)) (K' · H)) fun t49 H =>
 zab t43 false H (fun K' => zac H (fun K'' => zai false 1 t49 H (K'' · H)) (K' · H)) fun t50 H =>
 zab t43 false H (fun K' => zac H (fun K'' => zak 1 t50 (K'' · H)) (K' · H)) fun t51 H =>
 zab t43 false H (fun K' => zac H (fun K'' => zad .geq false t44 t51 (K'' · H)) (K' · H)) fun t52 H =>
 zac H (fun K' => zah t43 (.bool true) t52 (K' · H)) fun t53 =>
 zag t53
 (zaR [.snil, (.bool false)] (K · H))
 (zaf 1 t4 fun t55 =>
 zae false 1 t55 H fun t56 =>
 zaj 3 t0 t56 fun t57 =>
 zaf 2 t57 fun t58 =>
 zae false 1 t58 H fun t59 =>
 zaj 2 t59 t2 fun t61 =>
 zaf 1 t61 fun t62 =>
 zae false 1 t62 H fun t63 =>
 zak 1 t63 fun t64 =>
 zlG t4 .snil t63 t64 (.int .i64 0) H K)
theorem zLt {t4 t8 t63 t64 t65 : AV} {H : zaa} {K : Kt} (Inv : Nat → AV → AV → zaa → Prop) (n : Nat) (h0 : HSc H → Inv n t8 t65 H)
  (round : Rd2 (fun t8 => fun t65 => zlF t4 t8 t63 t64 t65) (fun t8 => fun t65 => fun H Kb5 => zqK t4 t8 t63 t64 t65 H K Kb5) H Inv) : zlG t4 t8 t63 t64 t65 H K :=
 lp2 (M := zlE) zLu t8 t65 (by kernel_rfl) Inv n h0 round
theorem zLv {t0 t1 t2 : AV} {H : zaa} {K : Kt} (h : HSc H → zxp t0 t1 t2 H K) : ACalls tP zgY [t0, t1, t2] H K :=
 zav (M := zlE) Try.func83 (c := zqL) (by kernel_rfl) (fun hs => Eq.mpr (by kernel_rfl) (h hs))
def zl6 : Nat → List Bool
 | 5 => rl false [1,2,1,3,46]
 | _ => []
noncomputable def zrj : Code := Try.f100.body.getD .skip
noncomputable def zNh : List ResultVar := Try.f100.results.toList
def zl7 (t1 t2 t4 t5 t6 : AV) : List AV := ux 1 (t1 :: t2 :: ux 1 (t4 :: t5 :: t6 :: ux 46 []))
def zNf : List Bool := zl6 5
noncomputable def zNd : Code := zao [1, 1, 1, 0, 1, 0, 0] zrj
def zNc (K : Kt) : AExit → List AV → zaa → Prop := zap tP zl6 [1, 1, 1, 0, 1, 0] zrj (zas tP zNh K)
def zrk (t1 t2 t4 t5 t6 : AV) (H : zaa) (K : Kt) : Prop := ALoop tP zNd (zNc K) (zl7 t1 t2 t4 t5 t6) H
def zri (t1 t2 t4 t5 t6 : AV) (H : zaa) (K : Kt) (Kb5 : Lt) : Prop :=
 zaf 2 t2 fun t34 =>
 zae false 1 t34 H fun t35 =>
 zak 1 t35 fun t36 =>
 zad .lss false t6 t36 fun t37 =>
 zag t37
 (zac H (fun K' => zaf 2 t5 (K' · H)) fun t40 =>
 zac H (fun K' => zai false 1 t40 H (K' · H)) fun t41 =>
 zac H (fun K' => zaf 2 t2 (K' · H)) fun t42 =>
 zac H (fun K' => zai false 1 t42 H (K' · H)) fun t43 =>
 zac H (fun K' => K' t6 H) fun t44 =>
 zac H (fun K' => zaj 3 t43 t44 (K' · H)) fun t45 =>
 zac H (fun K' => zai true 3 t45 H (K' · H)) fun t46 =>
 zac H (fun K' => K' t1 H) fun t47 =>
 zau H (fun H K' => ACalls tP zix [t46, t47] H K') fun t48 =>
 zac H (fun K' => zaz 3 [(.int .i64 0), (.int .i64 0), .snil] 1 [(0, t48)] (K' · H)) fun t49 =>
 zaH zaB 3 40 t41 t49 H fun t50 H =>
 zac H (fun K' => zaf 2 t5 (K' · H)) fun t51 =>
 zar 1 t51 t50 H fun H =>
 zad .add false t6 (.int .i64 1) fun t39 =>
 Kb5 (zl7 t1 t2 t4 t5 t39) H)
 (zae true 3 t5 H fun t52 =>
 zar 3 t4 t52 H fun H =>
 zae true 3 t4 H fun r0 =>
 K r0 H)
def zrh (t0 t1 : AV) (H : zaa) (K : Kt) : Prop :=
 zaD t0 H fun t2 H =>
 zaA [(.int .i64 0), (.int .i64 0), .snil] H fun t4 H =>
 zaf 0 t2 fun t7 =>
 zae false 1 t7 H fun t8 =>
 zad .eql false t8 (.int .i64 4) fun t9 =>
 zab t9 true H (fun K' => zaf 1 t2 (K' · H)) fun t11 H =>
 zab t9 true H (fun K' => zae false 1 t11 H (K' · H)) fun t12 H =>
 zab t9 true H (fun K' => zad .geq false t12 (.int .i64 0) (K' · H)) fun t13 H =>
 zah t9 t13 (.bool false) fun t14 =>
 zab t14 true H (fun K' => zaf 1 t2 (K' · H)) fun t16 H =>
 zab t14 true H (fun K' => zae false 1 t16 H (K' · H)) fun t17 H =>
 zab t14 true H (fun K' => K' t1 H) fun t18 H =>
 zab t14 true H (fun K' => zak 1 t18 (K' · H)) fun t19 H =>
 zab t14 true H (fun K' => zad .lss false t17 t19 (K' · H)) fun t20 H =>
 zah t14 t20 (.bool false) fun t21 =>
 zag t21
 (zaf 1 t2 fun t23 =>
 zae false 1 t23 H fun t24 =>
 zaj 3 t1 t24 fun t25 =>
 zae true 3 t25 H fun t26 =>
 ACalls tP zic [t26] H fun t27 H =>
 zar 3 t4 t27 H fun H =>
 zae true 3 t4 H fun r0 =>
 K r0 H)
 (zaf 0 t2 fun t28 =>
 zae false 1 t28 H fun t29 =>
 zaf 1 t2 fun t30 =>
 zae false 1 t30 H fun t31 =>
 zaI [(.int .i64 0), (.int .i64 0), .snil] [(0, 1), (1, 1), (2, 1)] [(0, t29), (1, t31)] fun t32 =>
 zaA [(.int .i64 0), (.int .i64 0), .snil] H fun t5 H =>
 zar 3 t5 t32 H fun H =>
 zrk t1 t2 t4 t5 (.int .i64 0) H K)
theorem zNe {t1 t2 t4 t5 t6 : AV} {H : zaa} {K : Kt} (Inv : Nat → AV → zaa → Prop) (n : Nat) (h0 : HSc H → Inv n t6 H)
  (round : Rd1 (fun t6 => zl7 t1 t2 t4 t5 t6) (fun t6 => fun H Kb5 => zri t1 t2 t4 t5 t6 H K Kb5) H Inv) : zrk t1 t2 t4 t5 t6 H K :=
 lp1 (M := zl6) zNf t6 (by kernel_rfl) Inv n h0 round
theorem zNg {t0 t1 : AV} {H : zaa} {K : Kt} (h : HSc H → zrh t0 t1 H K) : ACalls tP zix [t0, t1] H K :=
 zav (M := zl6) Try.func100 (c := zrj) (by kernel_rfl) (fun hs => Eq.mpr (by kernel_rfl) (h hs))
def zjk : Nat → List Bool
 | 3 => rl false [1,4,24]
 | _ => []
noncomputable def zoz : Code := Try.f115.body.getD .skip
noncomputable def zDz : List ResultVar := Try.f115.results.toList
def zjl (t1 t2 t3 t4 : AV) : List AV := ux 1 (t1 :: t2 :: t3 :: t4 :: ux 24 [])
def zDx : List Bool := zjk 3
noncomputable def zDv : Code := zao [1, 1, 0, 1, 0, 0] zoz
def zDu (K : Kt) : AExit → List AV → zaa → Prop := zap tP zjk [1, 1, 0, 1, 0] zoz (zas tP zDz K)
def zus (t1 t2 t3 t4 : AV) (H : zaa) (K : Kt) : Prop := ALoop tP zDv (zDu K) (zjl t1 t2 t3 t4) H
def zoy (t1 t2 t3 t4 : AV) (H : zaa) (K : Kt) (Kb3 : Lt) : Prop :=
 zaf 2 t1 fun t11 =>
 zae false 1 t11 H fun t12 =>
 zak 1 t12 fun t13 =>
 zad .lss false t4 t13 fun t14 =>
 zag t14
 (zac H (fun K' => zaf 2 t3 (K' · H)) fun t17 =>
 zac H (fun K' => zai false 1 t17 H (K' · H)) fun t18 =>
 zac H (fun K' => zaf 2 t1 (K' · H)) fun t19 =>
 zac H (fun K' => zai false 1 t19 H (K' · H)) fun t20 =>
 zac H (fun K' => K' t4 H) fun t21 =>
 zac H (fun K' => zaj 3 t20 t21 (K' · H)) fun t22 =>
 zac H (fun K' => zai true 3 t22 H (K' · H)) fun t23 =>
 zau H (fun H K' => ACalls tP zic [t23] H K') fun t24 =>
 zac H (fun K' => zaz 3 [(.int .i64 0), (.int .i64 0), .snil] 1 [(0, t24)] (K' · H)) fun t25 =>
 zaH zaB 3 40 t18 t25 H fun t26 H =>
 zac H (fun K' => zaf 2 t3 (K' · H)) fun t27 =>
 zar 1 t27 t26 H fun H =>
 zad .add false t4 (.int .i64 1) fun t16 =>
 Kb3 (zjl t1 t2 t3 t16) H)
 (zae true 3 t3 H fun t28 =>
 zar 3 t2 t28 H fun H =>
 zae true 3 t2 H fun r0 =>
 K r0 H)
def zur (t0 : AV) (H : zaa) (K : Kt) : Prop :=
 zaD t0 H fun t1 H =>
 zaA [(.int .i64 0), (.int .i64 0), .snil] H fun t2 H =>
 zaf 0 t1 fun t5 =>
 zae false 1 t5 H fun t6 =>
 zaf 1 t1 fun t7 =>
 zae false 1 t7 H fun t8 =>
 zaI [(.int .i64 0), (.int .i64 0), .snil] [(0, 1), (1, 1), (2, 1)] [(0, t6), (1, t8)] fun t9 =>
 zaA [(.int .i64 0), (.int .i64 0), .snil] H fun t3 H =>
 zar 3 t3 t9 H fun H =>
 zus t1 t2 t3 (.int .i64 0) H K
theorem zDw {t1 t2 t3 t4 : AV} {H : zaa} {K : Kt} (Inv : Nat → AV → zaa → Prop) (n : Nat) (h0 : HSc H → Inv n t4 H)
  (round : Rd1 (fun t4 => zjl t1 t2 t3 t4) (fun t4 => fun H Kb3 => zoy t1 t2 t3 t4 H K Kb3) H Inv) : zus t1 t2 t3 t4 H K :=
 lp1 (M := zjk) zDx t4 (by kernel_rfl) Inv n h0 round
theorem zDy {t0 : AV} {H : zaa} {K : Kt} (h : HSc H → zur t0 H K) : ACalls tP zic [t0] H K :=
 zav (M := zjk) Try.func115 (c := zoz) (by kernel_rfl) (fun hs => Eq.mpr (by kernel_rfl) (h hs))
def zfF : Nat → List Bool
 | 6 => rl false [0,2,6,1,38,3,56]
 | 10 => rl false [0,2,6,2,37,3,28,3,25]
 | _ => []
noncomputable def zqR : Code := Try.f85.body.getD .skip
noncomputable def zLL : List ResultVar := Try.f85.results.toList
def zlL (t0 t1 t8 t47 t48 t49 : AV) : List AV := t0 :: t1 :: ux 6 (t8 :: ux 38 (t47 :: t48 :: t49 :: ux 56 []))
def zxx : List Bool := zfF 6
noncomputable def zqS : Code := zao [1, 1, 1, 1, 0, 1, 0, 0] zqR
def zxv (K : Kt) : AExit → List AV → zaa → Prop := zap tP zfF [1, 1, 1, 1, 0, 1, 0] zqR (zas tP zLL K)
def zxw (t0 t1 t8 t47 t48 t49 : AV) (H : zaa) (K : Kt) : Prop := ALoop tP zqS (zxv K) (zlL t0 t1 t8 t47 t48 t49) H
def zlK (t0 t1 t8 t9 t47 t48 t49 t78 t79 t80 : AV) : List AV := t0 :: t1 :: ux 6 (t8 :: t9 :: ux 37 (t47 :: t48 :: t49 :: ux 28 (t78 :: t79 :: t80 :: ux 25 [])))
def zLJ : List Bool := zfF 10
noncomputable def zLG : Code := zao [1, 1, 0, 0, 1, 1, 1, 0, 0] zqS
def zLF (K : Kt) (Kb6 : Lt) : AExit → List AV → zaa → Prop := zap tP zfF [1, 1, 0, 0, 1, 1, 1, 0] zqS (zbx zxx Kb6 (zxv K))
def zqU (t0 t1 t8 t9 t47 t48 t49 t78 t79 t80 : AV) (H : zaa) (K : Kt) (Kb6 : Lt) : Prop := ALoop tP zLG (zLF K Kb6) (zlK t0 t1 t8 t9 t47 t48 t49 t78 t79 t80) H
def zqT (t0 t1 t8 t9 t47 t48 t49 t78 t79 t80 : AV) (H : zaa) (K : Kt) (Kb6 : Lt) (Kb10 : Lt) : Prop :=
 zad .add false t80 (.int .i64 1) fun t103 =>
 Kb10 (zlK t0 t1 t8 t9 t47 t48 t49 t78 t79 t103) H
def zgs (t0 t1 t8 t9 t47 t48 t49 t78 t79 t80 : AV) (H : zaa) (K : Kt) (Kb6 : Lt) (Kb10 : Lt) : Prop :=
 zqT t0 t1 t8 t9 t47 t48 t49 t78 t79 t80 H K Kb6 Kb10
def zgr (t0 t1 t8 t9 t47 t48 t49 t78 t79 t80 : AV) (H : zaa) (K : Kt) (Kb6 : Lt) (Kb10 : Lt) : Prop :=
 zad .lss false t80 t79 fun t81 =>
 zag t81
 (zaj 3 t78 t80 fun t83 =>
 zae true 3 t83 H fun t84 =>
 zaA [(.int .i64 0), (.int .i64 0), .snil] H fun t12 H =>
 zar 3 t12 t84 H fun H =>
 zaf 0 t12 fun t85 =>
 zae false 1 t85 H fun t86 =>
 zad .neq false t86 (.int .i64 4) fun t87 =>
 zab t87 false H (fun K' => zaf 1 t12 (K' · H)) fun t89 H =>
 zab t87 false H (fun K' => zae false 1 t89 H (K' · H)) fun t90 H =>
 zab t87 false H (fun K' => K' t80 H) fun t91 H =>
 zab t87 false H (fun K' => zad .neq false t90 t91 (K' · H)) fun t92 H =>
 zah t87 (.bool true) t92 fun t93 =>
 zab t93 false H (fun K' => zaf 2 t12 (K' · H)) fun t95 H =>
 zab t93 false H (fun K' => zae false 1 t95 H (K' · H)) fun t96 H =>
 zab t93 false H (fun K' => zak 1 t96 (K' · H)) fun t97 H =>
 zab t93 false H (fun K' => zad .gtr false t97 (.int .i64 0) (K' · H)) fun t98 H =>
 zah t93 (.bool true) t98 fun t99 =>
 zag t99
 (zaj 1 t8 t9 fun t102 =>
 zar 1 t102 (.bool false) H fun H =>
 zgs t0 t1 t8 t9 t47 t48 t49 t78 t79 t80 H K Kb6 Kb10)
 (zgs t0 t1 t8 t9 t47 t48 t49 t78 t79 t80 H K Kb6 Kb10))
 (zad .add false t49 (.int .i64 1) fun t104 =>
 Kb6 (zlL t0 t1 t8 t47 t48 t104) H)
def zhE (t0 t1 t8 t47 t48 t49 : AV) (H : zaa) (K : Kt) (Kb6 : Lt) : Prop :=
 zad .lss false t49 t48 fun t50 =>
 zag t50
 (zaj 3 t47 t49 fun t52 =>
 zae true 3 t52 H fun t53 =>
 zaA [(.int .i64 0), (.int .i64 0), .snil] H fun t10 H =>
 zar 3 t10 t53 H fun H =>
 zac H (fun K' => K' t8 H) fun t54 =>
 zac H (fun K' => K' t49 H) fun t55 =>
 zac H (fun K' => zaf 0 t10 (K' · H)) fun t56 =>
 zac H (fun K' => zai false 1 t56 H (K' · H)) fun t57 =>
 zac H (fun K' => zad .eql false t57 (.int .i64 5) (K' · H)) fun t58 =>
 zac H (fun K' => K' t58 H) fun t59 =>
 zab t59 true H (fun K' => zac H (fun K'' => zaf 1 t10 (K'' · H)) (K' · H)) fun t60 H =>
 zab t59 true H (fun K' => zac H (fun K'' => zai false 1 t60 H (K'' · H)) (K' · H)) fun t61 H =>
 zab t59 true H (fun K' => zac H (fun K'' => K'' t1 H) (K' · H)) fun t62 H =>
 zab t59 true H (fun K' => zac H (fun K'' => zad .eql false t61 t62 (K'' · H)) (K' · H)) fun t63 H =>
 zac H (fun K' => zah t59 t63 (.bool false) (K' · H)) fun t64 =>
 zac H (fun K' => K' t64 H) fun t65 =>
 zab t65 true H (fun K' => zac H (fun K'' => zaf 2 t10 (K'' · H)) (K' · H)) fun t66 H =>
 zab t65 true H (fun K' => zac H (fun K'' => zai false 1 t66 H (K'' · H)) (K' · H)) fun t67 H =>
 zab t65 true H (fun K' => zac H (fun K'' => zak 1 t67 (K'' · H)) (K' · H)) fun t68 H =>
 zab t65 true H (fun K' => zac H (fun K'' => K'' t0 H) (K' · H)) fun t69 H =>
 zab t65 true H (fun K' => zac H (fun K'' => K'' t1 H) (K' · H)) fun t70 H =>
 zab t65 true H (fun K' => zac H (fun K'' => zaj 3 t69 t70 (K'' · H)) (K' · H)) fun t71 H =>
 zab t65 true H (fun K' => zac H (fun K'' => zaf 1 t71 (K'' · H)) (K' · H)) fun t72 H =>
 zab t65 true H (fun K' => zac H (fun K'' => zai false 1 t72 H (K'' · H)) (K' · H)) fun t73 H =>
 zab t65 true H (fun K' => zac H (fun K'' => zad .eql false t68 t73 (K'' · H)) (K' · H)) fun t74 H =>
 zac H (fun K' => zah t65 t74 (.bool false) (K' · H)) fun t75 =>
 zac H (fun K' => zaj 1 t54 t55 (K' · H)) fun t76 =>
 zar 1 t76 t75 H fun H =>
 zaf 2 t10 fun t77 =>
 zae false 1 t77 H fun t78 =>
 zak 1 t78 fun t79 =>
 zqU t0 t1 t8 t49 t47 t48 t49 t78 t79 (.int .i64 0) H K Kb6)
 (K t8 H)
def zxu (t0 t1 t2 : AV) (H : zaa) (K : Kt) : Prop :=
 zad .lss false t1 (.int .i64 0) fun t14 =>
 zab t14 false H (fun K' => K' t1 H) fun t16 H =>
 zab t14 false H (fun K' => K' t0 H) fun t17 H =>
 zab t14 false H (fun K' => zak 1 t17 (K' · H)) fun t18 H =>
 zab t14 false H (fun K' => zad .geq false t16 t18 (K' · H)) fun t19 H =>
 zah t14 (.bool true) t19 fun t20 =>
 zab t20 false H (fun K' => K' t2 H) fun t22 H =>
 zab t20 false H (fun K' => zad .lss false t22 (.int .i64 0) (K' · H)) fun t23 H =>
 zah t20 (.bool true) t23 fun t24 =>
 zab t24 false H (fun K' => K' t2 H) fun t26 H =>
 zab t24 false H (fun K' => K' t0 H) fun t27 H =>
 zab t24 false H (fun K' => K' t1 H) fun t28 H =>
 zab t24 false H (fun K' => zaj 3 t27 t28 (K' · H)) fun t29 H =>
 zab t24 false H (fun K' => zaf 2 t29 (K' · H)) fun t30 H =>
 zab t24 false H (fun K' => zae false 1 t30 H (K' · H)) fun t31 H =>
 zab t24 false H (fun K' => zak 1 t31 (K' · H)) fun t32 H =>
 zab t24 false H (fun K' => zad .geq false t26 t32 (K' · H)) fun t33 H =>
 zah t24 (.bool true) t33 fun t34 =>
 zag t34
 (K .snil H)
 (zaj 3 t0 t1 fun t37 =>
 zaf 2 t37 fun t38 =>
 zae false 1 t38 H fun t39 =>
 zaj 2 t39 t2 fun t41 =>
 zaf 1 t41 fun t42 =>
 zae false 1 t42 H fun t43 =>
 zak 1 t43 fun t45 =>
 zaY 1 [(.bool false)] t45 t45 H fun t46 H =>
 zak 1 t43 fun t48 =>
 zxw t0 t1 t46 t43 t48 (.int .i64 0) H K)
theorem zLH {t0 t1 t8 t9 t47 t48 t49 t78 t79 t80 : AV} {H : zaa} {K : Kt} {Kb6 : Lt} (Inv : Nat → AV → zaa → Prop) (n : Nat) (h0 : HSc H → Inv n t80 H)
  (round : Rd1 (fun t80 => zlK t0 t1 t8 t9 t47 t48 t49 t78 t79 t80) (fun t80 => fun H Kb10 => zgr t0 t1 t8 t9 t47 t48 t49 t78 t79 t80 H K Kb6 Kb10) H Inv) : zqU t0 t1 t8 t9 t47 t48 t49 t78 t79 t80 H K Kb6 :=
 lp1 (M := zfF) zLJ t80 (by kernel_rfl) Inv n h0 round
theorem zLI {t0 t1 t8 t47 t48 t49 : AV} {H : zaa} {K : Kt} (Inv : Nat → AV → zaa → Prop) (n : Nat) (h0 : HSc H → Inv n t49 H)
  (round : Rd1 (fun t49 => zlL t0 t1 t8 t47 t48 t49) (fun t49 => fun H Kb6 => zhE t0 t1 t8 t47 t48 t49 H K Kb6) H Inv) : zxw t0 t1 t8 t47 t48 t49 H K :=
 lp1 (M := zfF) zxx t49 (by kernel_rfl) Inv n h0 round
theorem zLK {t0 t1 t2 : AV} {H : zaa} {K : Kt} (h : HSc H → zxu t0 t1 t2 H K) : ACalls tP znn [t0, t1, t2] H K :=
 zav (M := zfF) Try.func85 (c := zqR) (by kernel_rfl) (fun hs => Eq.mpr (by kernel_rfl) (h hs))
def zLN (_ : Nat) : List Bool := []
noncomputable def zLO : Code := Try.f86.body.getD .skip
def zxy (t0 t1 : AV) (H : zaa) (K : Kt) : Prop :=
 zaD t0 H fun t2 H =>
 zaD t1 H fun t3 H =>
 zaf 0 t2 fun t5 =>
 zae false 1 t5 H fun t6 =>
 zad .eql false t6 (.int .i64 5) fun t7 =>
 zab t7 true H (fun K' => zaf 1 t2 (K' · H)) fun t9 H =>
 zab t7 true H (fun K' => zae false 1 t9 H (K' · H)) fun t10 H =>
 zab t7 true H (fun K' => zae false 1 t3 H (K' · H)) fun t11 H =>
 zab t7 true H (fun K' => zad .eql false t10 t11 (K' · H)) fun t12 H =>
 zah t7 t12 (.bool false) fun t13 =>
 zab t13 false H (fun K' => zaf 2 t2 (K' · H)) fun t15 H =>
 zab t13 false H (fun K' => zae false 1 t15 H (K' · H)) fun t16 H =>
 zab t13 false H (fun K' => zcz zh6 [t3] (K' · H)) fun t17 H =>
 zab t13 false H (fun K' => ACalls tP zfg [t16, t17] H K') fun t18 H =>
 zah t13 (.bool true) t18 fun t19 =>
 K t19 H
theorem zLP {t0 t1 : AV} {H : zaa} {K : Kt} (h : HSc H → zxy t0 t1 H K) : ACalls tP zit [t0, t1] H K :=
 zav (M := zLN) Try.func86 (c := zLO) (by kernel_rfl) (fun hs => Eq.mpr (by kernel_rfl) (h hs))
def zCm (_ : Nat) : List Bool := []
noncomputable def zCn : Code := Try.f103.body.getD .skip
def zt5 (t0 t1 : AV) (H : zaa) (K : Kt) : Prop :=
 zaD t0 H fun t2 H =>
 zae true 3 t2 H fun t4 =>
 zae false 1 t1 H fun t5 =>
 ACalls tP zit [t4, t5] H fun t6 H =>
 K t6 H
theorem zCo {t0 t1 : AV} {H : zaa} {K : Kt} (h : HSc H → zt5 t0 t1 H K) : ACalls tP zh6 [t0, t1] H K :=
 zav (M := zCm) Try.func103 (c := zCn) (by kernel_rfl) (fun hs => Eq.mpr (by kernel_rfl) (h hs))
def zlw : Nat → List Bool
 | 4 => rl false [3,1,3,1,50]
 | _ => []
noncomputable def zqB : Code := Try.f78.body.getD .skip
noncomputable def zK3 : List ResultVar := Try.f78.results.toList
def zlx (t3 t7 : AV) : List AV := ux 3 (t3 :: ux 3 (t7 :: ux 50 []))
def zK1 : List Bool := zlw 4
noncomputable def zKZ : Code := zao [1, 1, 0, 1, 0, 0] zqB
def zKY (K : Kt) : AExit → List AV → zaa → Prop := zap tP zlw [1, 1, 0, 1, 0] zqB (zas tP zK3 K)
def zxj (t3 t7 : AV) (H : zaa) (K : Kt) : Prop := ALoop tP zKZ (zKY K) (zlx t3 t7) H
def zgn (t3 t7 : AV) (H : zaa) (K : Kt) (Kb4 : Lt) : Prop :=
 zaf 2 t3 fun t25 =>
 zae false 1 t25 H fun t26 =>
 zak 1 t26 fun t27 =>
 zad .lss false t7 t27 fun t28 =>
 zag t28
 (zaf 2 t3 fun t31 =>
 zae false 1 t31 H fun t32 =>
 zaj 3 t32 t7 fun t34 =>
 zaf 0 t34 fun t35 =>
 zae false 1 t35 H fun t36 =>
 zad .neq false t36 (.int .i64 4) fun t37 =>
 zab t37 false H (fun K' => zaf 2 t3 (K' · H)) fun t39 H =>
 zab t37 false H (fun K' => zae false 1 t39 H (K' · H)) fun t40 H =>
 zab t37 false H (fun K' => K' t7 H) fun t41 H =>
 zab t37 false H (fun K' => zaj 3 t40 t41 (K' · H)) fun t42 H =>
 zab t37 false H (fun K' => zaf 1 t42 (K' · H)) fun t43 H =>
 zab t37 false H (fun K' => zae false 1 t43 H (K' · H)) fun t44 H =>
 zab t37 false H (fun K' => K' t7 H) fun t45 H =>
 zab t37 false H (fun K' => zad .neq false t44 t45 (K' · H)) fun t46 H =>
 zah t37 (.bool true) t46 fun t47 =>
 zab t47 false H (fun K' => zaf 2 t3 (K' · H)) fun t49 H =>
 zab t47 false H (fun K' => zae false 1 t49 H (K' · H)) fun t50 H =>
 zab t47 false H (fun K' => K' t7 H) fun t51 H =>
 zab t47 false H (fun K' => zaj 3 t50 t51 (K' · H)) fun t52 H =>
 zab t47 false H (fun K' => zaf 2 t52 (K' · H)) fun t53 H =>
 zab t47 false H (fun K' => zae false 1 t53 H (K' · H)) fun t54 H =>
 zab t47 false H (fun K' => zak 1 t54 (K' · H)) fun t55 H =>
 zab t47 false H (fun K' => zad .gtr false t55 (.int .i64 0) (K' · H)) fun t56 H =>
 zah t47 (.bool true) t56 fun t57 =>
 zag t57
 (K (.bool false) H)
 (zad .add false t7 (.int .i64 1) fun t30 =>
 Kb4 (zlx t3 t30) H))
 (K (.bool true) H)
def zxi (t0 t1 t2 : AV) (H : zaa) (K : Kt) : Prop :=
 zaD t0 H fun t3 H =>
 zaf 0 t3 fun t8 =>
 zae false 1 t8 H fun t9 =>
 zad .neq false t9 (.int .i64 5) fun t10 =>
 zab t10 false H (fun K' => zaf 1 t3 (K' · H)) fun t12 H =>
 zab t10 false H (fun K' => zae false 1 t12 H (K' · H)) fun t13 H =>
 zab t10 false H (fun K' => K' t1 H) fun t14 H =>
 zab t10 false H (fun K' => zad .neq false t13 t14 (K' · H)) fun t15 H =>
 zah t10 (.bool true) t15 fun t16 =>
 zab t16 false H (fun K' => zaf 2 t3 (K' · H)) fun t18 H =>
 zab t16 false H (fun K' => zae false 1 t18 H (K' · H)) fun t19 H =>
 zab t16 false H (fun K' => zak 1 t19 (K' · H)) fun t20 H =>
 zab t16 false H (fun K' => K' t2 H) fun t21 H =>
 zab t16 false H (fun K' => zad .neq false t20 t21 (K' · H)) fun t22 H =>
 zah t16 (.bool true) t22 fun t23 =>
 zag t23
 (K (.bool false) H)
 (zxj t3 (.int .i64 0) H K)
theorem zK0 {t3 t7 : AV} {H : zaa} {K : Kt} (Inv : Nat → AV → zaa → Prop) (n : Nat) (h0 : HSc H → Inv n t7 H)
  (round : Rd1 (fun t7 => zlx t3 t7) (fun t7 => fun H Kb4 => zgn t3 t7 H K Kb4) H Inv) : zxj t3 t7 H K :=
 lp1 (M := zlw) zK1 t7 (by kernel_rfl) Inv n h0 round
theorem zK2 {t0 t1 t2 : AV} {H : zaa} {K : Kt} (h : HSc H → zxi t0 t1 t2 H K) : ACalls tP znl [t0, t1, t2] H K :=
 zav (M := zlw) Try.func78 (c := zqB) (by kernel_rfl) (fun hs => Eq.mpr (by kernel_rfl) (h hs))
end Go.Proofs.Ytkdmpbhbmmhijaa
