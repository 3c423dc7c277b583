import Derived.Test.YtacebbdfgbfgiaaGreatKNum
import Derived.Test.YtacebbdfgbfgiaaGreatProg
import Derived.KernelRfl
import Derived.Test.YtacebbdfgbfgiaaGreatKY12
import Derived.Test.YtacebbdfgbfgiaaGreatIT
import Derived.Test.YtacebbdfgbfgiaaGreatKUC
import Derived.Test.YtacebbdfgbfgiaaGreatAbsQ1
import Derived.Test.YtacebbdfgbfgiaaGreatKV1
set_option linter.unusedSimpArgs false
set_option linter.unusedVariables false
namespace Go.Proofs.YtacebbdfgbfgiaaGreat
open Go Go.Abs
set_option maxRecDepth 100000
def zzN (_ : Nat) : List Bool := []
noncomputable def zzO : Code := Tryz.f23.body.getD .skip
def zie (t0 t1 : AV) (H : zaa) (K : Kt) : Prop :=
 zas t0 H fun t2 H =>
 zas t1 H fun t3 H =>
 zaf 0 t2 fun t5 =>
 zad false 1 t5 H fun t6 =>
 zaf 0 t3 fun t7 =>
 zad false 1 t7 H fun t8 =>
 zac .eql false t6 t8 fun t9 =>
 zab t9 true H (fun K' => zaf 1 t2 (K' · H)) fun t11 H =>
 zab t9 true H (fun K' => zad false 1 t11 H (K' · H)) fun t12 H =>
 zab t9 true H (fun K' => zaf 1 t3 (K' · H)) fun t13 H =>
 zab t9 true H (fun K' => zad false 1 t13 H (K' · H)) fun t14 H =>
 zab t9 true H (fun K' => ACalls tP zeC [t12, t14] H K') fun t15 H =>
 zaj t9 t15 (.bool false) fun t16 =>
 K t16 H
theorem zrH {t0 t1 : AV} {H : zaa} {K : Kt} (h : HSc H → zie t0 t1 H K) : ACalls tP zdz [t0, t1] H K :=
 zao (M := zzN) Tryz.func23 (c := zzO) (by kernel_rfl) (fun hs => Eq.mpr (by kernel_rfl) (h hs))
def zh3 : Nat → List Bool
 | 4 => rl false [0,2,10,2,13]
 | _ => []
noncomputable def zlY : Code := Tryz.f19.body.getD .skip
noncomputable def zzf : List ResultVar := Tryz.f19.results.toList
def zf0 (t0 t1 t12 t13 : AV) : List AV := t0 :: t1 :: ux 10 (t12 :: t13 :: ux 13 [])
def zze : List Bool := zh3 4
noncomputable def zzd : Code := zap [1, 1, 0, 1, 0, 0] zlY
def zzc (K : Kt) : AExit → List AV → zaa → Prop := zaq tP zh3 [1, 1, 0, 1, 0] zlY (zax tP zzf K)
def zrv (t0 t1 t12 t13 : AV) (H : zaa) (K : Kt) : Prop := ALoop tP zzd (zzc K) (zf0 t0 t1 t12 t13) H
def zfZ (t0 t1 t12 t13 : AV) (H : zaa) (K : Kt) (Kb4 : Lt) : Prop :=
 zac .lss false t13 t12 fun t14 =>
 zag t14
 (zae H (fun K' => K' t0 H) fun t16 =>
 zae H (fun K' => K' t13 H) fun t17 =>
 zae H (fun K' => zai 2 t16 t17 (K' · H)) fun t18 =>
 zae H (fun K' => zam true 2 t18 H (K' · H)) fun t19 =>
 zae H (fun K' => K' t1 H) fun t20 =>
 zae H (fun K' => K' t13 H) fun t21 =>
 zae H (fun K' => zai 2 t20 t21 (K' · H)) fun t22 =>
 zae H (fun K' => zam true 2 t22 H (K' · H)) fun t23 =>
 zbq H (fun H K' => ACalls tP zdz [t19, t23] H K') fun t24 =>
 zae H (fun K' => aUn .not t24 (K' · H)) fun t25 =>
 zag t25
 (K (.bool false) H)
 (zac .add false t13 (.int .i64 1) fun t26 =>
 Kb4 (zf0 t0 t1 t12 t26) H))
 (K (.bool true) H)
def zh2 (t0 t1 : AV) (H : zaa) (K : Kt) : Prop :=
 zah 1 t0 fun t7 =>
 zah 1 t1 fun t9 =>
 zac .neq false t7 t9 fun t10 =>
 zag t10
 (K (.bool false) H)
 (zah 1 t0 fun t12 =>
 zrv t0 t1 t12 (.int .i64 0) H K)
theorem zrw {t0 t1 t12 t13 : AV} {H : zaa} {K : Kt} (Inv : Nat → AV → zaa → Prop) (n : Nat) (h0 : HSc H → Inv n t13 H)
  (round : Rd1 (fun t13 => zf0 t0 t1 t12 t13) (fun t13 => fun H Kb4 => zfZ t0 t1 t12 t13 H K Kb4) H Inv) : zrv t0 t1 t12 t13 H K :=
 lp1 (M := zh3) zze t13 (by kernel_rfl) Inv n h0 round
theorem zrx {t0 t1 : AV} {H : zaa} {K : Kt} (h : HSc H → zh2 t0 t1 H K) : ACalls tP zeC [t0, t1] H K :=
 zao (M := zh3) Tryz.func19 (c := zlY) (by kernel_rfl) (fun hs => Eq.mpr (by kernel_rfl) (h hs))
def zh4 : Nat → List Bool
 | 2 => rl false [0,2,3,1,21]
 | _ => []
noncomputable def zlZ : Code := Tryz.f20.body.getD .skip
noncomputable def zzm : List ResultVar := Tryz.f20.results.toList
def zh6 (t0 t1 t5 : AV) : List AV := t0 :: t1 :: ux 3 (t5 :: ux 21 [])
def zzk : List Bool := zh4 2
noncomputable def zzi : Code := zap [1, 0, 1, 0, 0] zlZ
def zzh (K : Kt) : AExit → List AV → zaa → Prop := zaq tP zh4 [1, 0, 1, 0] zlZ (zax tP zzm K)
def zrz (t0 t1 t5 : AV) (H : zaa) (K : Kt) : Prop := ALoop tP zzi (zzh K) (zh6 t0 t1 t5) H
def zh5 (t0 t1 t5 : AV) (H : zaa) (K : Kt) (Kb2 : Lt) : Prop :=
 zah 1 t0 fun t8 =>
 zac .lss false t5 t8 fun t9 =>
 zab t9 true H (fun K' => K' t5 H) fun t11 H =>
 zab t9 true H (fun K' => K' t1 H) fun t12 H =>
 zab t9 true H (fun K' => zac .leq false t11 t12 (K' · H)) fun t13 H =>
 zaj t9 t13 (.bool false) fun t14 =>
 zag t14
 (zai 2 t0 t5 fun t19 =>
 zad true 2 t19 H fun t20 =>
 ACalls tP zkN [t20] H fun t21 H =>
 aUn .not t21 fun t22 =>
 zag t22
 (K (.bool false) H)
 (zac .add false t5 (.int .i64 1) fun t16 =>
 Kb2 (zh6 t0 t1 t16) H))
 (zah 1 t0 fun t24 =>
 zac .leq false t24 t1 fun t26 =>
 K t26 H)
def zry (t0 t1 : AV) (H : zaa) (K : Kt) : Prop :=
 zrz t0 t1 (.int .i64 0) H K
theorem zzj {t0 t1 t5 : AV} {H : zaa} {K : Kt} (Inv : Nat → AV → zaa → Prop) (n : Nat) (h0 : HSc H → Inv n t5 H)
  (round : Rd1 (fun t5 => zh6 t0 t1 t5) (fun t5 => fun H Kb2 => zh5 t0 t1 t5 H K Kb2) H Inv) : zrz t0 t1 t5 H K :=
 lp1 (M := zh4) zzk t5 (by kernel_rfl) Inv n h0 round
theorem zzl {t0 t1 : AV} {H : zaa} {K : Kt} (h : HSc H → zry t0 t1 H K) : ACalls tP zgE [t0, t1] H K :=
 zao (M := zh4) Tryz.func20 (c := zlZ) (by kernel_rfl) (fun hs => Eq.mpr (by kernel_rfl) (h hs))
def zx5 (_ : Nat) : List Bool := []
noncomputable def zx6 : Code := Tryz.f13.body.getD .skip
def zqX (H : zaa) (K : Kt) : Prop :=
 zal [(.str []), .snil] [(0, 1), (1, 1)] [(0, (.str [67]))] fun t4 =>
 zay 2 [(.str []), .snil] 1 [(0, t4)] fun t5 =>
 zal [(.str []), (.int .i64 0), .snil] [(0, 1), (1, 1), (2, 1)] [(0, (.str [68])), (2, t5)] fun t6 =>
 zay 3 [(.str []), (.int .i64 0), .snil] 1 [(0, t6)] fun t7 =>
 zal [(.int .i64 0), (.int .i64 0), .snil] [(0, 1), (1, 1), (2, 1)] [(0, (.int .i64 5))] fun t10 =>
 zal [(.int .i64 0), .snil] [(0, 1), (1, 1)] [] fun t11 =>
 zay 2 [(.int .i64 0), .snil] 1 [(0, t11)] fun t12 =>
 zal [(.int .i64 0), .snil] [(0, 1), (1, 1)] [(1, t12)] fun t13 =>
 ACalls tP zfJ [t7, t10, (.int .i64 0), t13] H fun t14 H =>
 zar t14 0 fun t15 =>
 zar t14 1 fun t16 =>
 zac .eql false t16 (.int .i64 0) fun t18 =>
 zab t18 true H (fun K' => K' t15 H) fun t20 H =>
 zab t18 true H (fun K' => zah 1 t20 (K' · H)) fun t21 H =>
 zab t18 true H (fun K' => zac .eql false t21 (.int .i64 1) (K' · H)) fun t22 H =>
 zaj t18 t22 (.bool false) fun t23 =>
 zab t23 true H (fun K' => K' t15 H) fun t25 H =>
 zab t23 true H (fun K' => zai 1 t25 (.int .i64 0) (K' · H)) fun t26 H =>
 zab t23 true H (fun K' => zad false 1 t26 H (K' · H)) fun t27 H =>
 zab t23 true H (fun K' => zah 1 t27 (K' · H)) fun t28 H =>
 zab t23 true H (fun K' => zac .eql false t28 (.int .i64 0) (K' · H)) fun t29 H =>
 zaj t23 t29 (.bool false) fun t30 =>
 K t30 H
theorem zx7 {H : zaa} {K : Kt} (h : HSc H → zqX H K) : ACalls tP zfu [] H K :=
 zao (M := zx5) Tryz.func13 (c := zx6) (by kernel_rfl) (fun hs => Eq.mpr (by kernel_rfl) (h hs))
def zDt (_ : Nat) : List Bool := []
noncomputable def zDu : Code := Tryz.f8.body.getD .skip
def zq6 (t0 t1 : AV) (H : zaa) (K : Kt) : Prop :=
 zas t1 H fun t3 H =>
 ACalls tP zkC [t0] H fun t6 H =>
 zab t6 true H (fun K' => zad true 3 t3 H (K' · H)) fun t8 H =>
 zab t6 true H (fun K' => ACalls tP zkD [t8] H K') fun t9 H =>
 zaj t6 t9 (.bool false) fun t10 =>
 K t10 H
theorem zDv {t0 t1 : AV} {H : zaa} {K : Kt} (h : HSc H → zq6 t0 t1 H K) : ACalls tP zgT [t0, t1] H K :=
 zao (M := zDt) Tryz.func8 (c := zDu) (by kernel_rfl) (fun hs => Eq.mpr (by kernel_rfl) (h hs))
def zB2 (_ : Nat) : List Bool := []
noncomputable def zB3 : Code := Tryz.f6.body.getD .skip
def zq4 (t0 t1 t2 t3 : AV) (H : zaa) (K : Kt) : Prop :=
 zas t1 H fun t5 H =>
 zad true 3 t5 H fun t14 =>
 ACalls tP zgT [t0, t14] H fun t15 H =>
 aUn .not t15 fun t16 =>
 zab t16 false H (fun K' => K' t3 H) fun t18 H =>
 zab t16 false H (fun K' => ACalls tP zgE [t18, (.int .i64 8)] H K') fun t19 H =>
 zab t16 false H (fun K' => aUn .not t19 (K' · H)) fun t20 H =>
 zaj t16 (.bool true) t20 fun t21 =>
 zag t21
 (K (.bool true) H)
 (zad true 3 t5 H fun t24 =>
 ACalls tP zfA [t0, t24, t2, t3] H fun t27 H =>
 zar t27 0 fun t28 =>
 zar t27 1 fun t29 =>
 zav [(.int .i64 0), .snil] H fun t9 H =>
 zak 2 t9 t28 H fun H =>
 zad true 3 t5 H fun t32 =>
 ACalls tP zgF [t0, t32, t2, t3] H fun t35 H =>
 zar t35 0 fun t36 =>
 zar t35 1 fun t37 =>
 zav [(.int .i64 0), .snil] H fun t11 H =>
 zak 2 t11 t36 H fun H =>
 zac .eql false t29 t37 fun t40 =>
 zab t40 true H (fun K' => zad true 2 t9 H (K' · H)) fun t42 H =>
 zab t40 true H (fun K' => zad true 2 t11 H (K' · H)) fun t43 H =>
 zab t40 true H (fun K' => ACalls tP zdz [t42, t43] H K') fun t44 H =>
 zaj t40 t44 (.bool false) fun t45 =>
 zab t45 true H (fun K' => ACalls tP zfu [] H K') fun t47 H =>
 zaj t45 t47 (.bool false) fun t48 =>
 K t48 H)
theorem zB4 {t0 t1 t2 t3 : AV} {H : zaa} {K : Kt} (h : HSc H → zq4 t0 t1 t2 t3 H K) : ACalls tP zkG [t0, t1, t2, t3] H K :=
 zao (M := zB2) Tryz.func6 (c := zB3) (by kernel_rfl) (fun hs => Eq.mpr (by kernel_rfl) (h hs))
def ziX : Nat → List Bool
 | 4 => rl false [2,2,6,3,12]
 | _ => []
noncomputable def zmZ : Code := Tryz.f54.body.getD .skip
noncomputable def zCk : List ResultVar := Tryz.f54.results.toList
def ziY (t2 t3 t10 t11 t12 : AV) : List AV := ux 2 (t2 :: t3 :: ux 6 (t10 :: t11 :: t12 :: ux 12 []))
def zCi : List Bool := ziX 4
noncomputable def zCg : Code := zap [1, 1, 0, 1, 0, 1, 0, 0] zmZ
def zCf (K : Kt) : AExit → List AV → zaa → Prop := zaq tP ziX [1, 1, 0, 1, 0, 1, 0] zmZ (zax tP zCk K)
def zi0 (t2 t3 t10 t11 t12 : AV) (H : zaa) (K : Kt) : Prop := ALoop tP zCg (zCf K) (ziY t2 t3 t10 t11 t12) H
def ziZ (t2 t3 : AV) (H : zaa) (K : Kt) : Prop :=
 zad true 2 t3 H fun t24 =>
 zak 2 t2 t24 H fun H =>
 zad true 2 t2 H fun r0 =>
 K r0 H
def zmY (t2 t3 t10 t11 t12 : AV) (H : zaa) (K : Kt) (Kb4 : Lt) : Prop :=
 zac .lss false t12 t11 fun t13 =>
 zag t13
 (zai 3 t10 t12 fun t14 =>
 zad true 3 t14 H fun t15 =>
 zav [(.int .i64 0), (.int .i64 0), .snil] H fun t5 H =>
 zak 3 t5 t15 H fun H =>
 zae H (fun K' => zaf 1 t3 (K' · H)) fun t16 =>
 zae H (fun K' => zam false 1 t16 H (K' · H)) fun t17 =>
 zae H (fun K' => zam true 3 t5 H (K' · H)) fun t18 =>
 zbq H (fun H K' => ACalls tP zgQ [t18] H K') fun t19 =>
 zae H (fun K' => zay 2 [(.int .i64 0), .snil] 1 [(0, t19)] (K' · H)) fun t20 =>
 zat zaw 2 32 t17 t20 H fun t21 H =>
 zae H (fun K' => zaf 1 t3 (K' · H)) fun t22 =>
 zak 1 t22 t21 H fun H =>
 zac .add false t12 (.int .i64 1) fun t23 =>
 Kb4 (ziY t2 t3 t10 t11 t23) H)
 (ziZ t2 t3 H K)
def zsx (t0 : AV) (H : zaa) (K : Kt) : Prop :=
 zas t0 H fun t1 H =>
 zav [(.int .i64 0), .snil] H fun t2 H =>
 zav [(.int .i64 0), .snil] H fun t3 H =>
 zaf 0 t1 fun t6 =>
 zad false 1 t6 H fun t7 =>
 zac .eql false t7 (.int .i64 6) fun t8 =>
 zag t8
 (zaf 2 t1 fun t9 =>
 zad false 1 t9 H fun t10 =>
 zah 1 t10 fun t11 =>
 zi0 t2 t3 t10 t11 (.int .i64 0) H K)
 (ziZ t2 t3 H K)
theorem zCh {t2 t3 t10 t11 t12 : AV} {H : zaa} {K : Kt} (Inv : Nat → AV → zaa → Prop) (n : Nat) (h0 : HSc H → Inv n t12 H)
  (round : Rd1 (fun t12 => ziY t2 t3 t10 t11 t12) (fun t12 => fun H Kb4 => zmY t2 t3 t10 t11 t12 H K Kb4) H Inv) : zi0 t2 t3 t10 t11 t12 H K :=
 lp1 (M := ziX) zCi t12 (by kernel_rfl) Inv n h0 round
theorem zCj {t0 : AV} {H : zaa} {K : Kt} (h : HSc H → zsx t0 H K) : ACalls tP zgQ [t0] H K :=
 zao (M := ziX) Tryz.func54 (c := zmZ) (by kernel_rfl) (fun hs => Eq.mpr (by kernel_rfl) (h hs))
def zAx (_ : Nat) : List Bool := []
noncomputable def zAy : Code := Tryz.f30.body.getD .skip
def zmn (t0 t1 : AV) (H : zaa) (K : Kt) : Prop :=
 zas t1 H fun t3 H =>
 zav [(.int .i64 0), .snil] H fun t4 H =>
 zad true 3 t3 H fun t7 =>
 ACalls tP zfH [t0, t7] H fun t8 H =>
 aUn .not t8 fun t9 =>
 zag t9
 (zal [(.int .i64 0), .snil] [(0, 1), (1, 1)] [] fun t10 =>
 zak 2 t4 t10 H fun H =>
 zad true 2 t4 H fun r0 =>
 zau [r0, (.bool false)] (K · H))
 (zad true 3 t3 H fun t11 =>
 ACalls tP zgQ [t11] H fun t12 H =>
 zak 2 t4 t12 H fun H =>
 zad true 2 t4 H fun r0 =>
 zau [r0, (.bool true)] (K · H))
theorem zrZ {t0 t1 : AV} {H : zaa} {K : Kt} (h : HSc H → zmn t0 t1 H K) : ACalls tP zfB [t0, t1] H K :=
 zao (M := zAx) Tryz.func30 (c := zAy) (by kernel_rfl) (fun hs => Eq.mpr (by kernel_rfl) (h hs))
def ziz : Nat → List Bool
 | 3 => rl false [2,2,6,3,12]
 | _ => []
noncomputable def zmw : Code := Tryz.f36.body.getD .skip
noncomputable def zAW : List ResultVar := Tryz.f36.results.toList
def ziA (t2 t3 t10 t11 t12 : AV) : List AV := ux 2 (t2 :: t3 :: ux 6 (t10 :: t11 :: t12 :: ux 12 []))
def zAU : List Bool := ziz 3
noncomputable def zAS : Code := zap [1, 1, 0, 1, 0, 0] zmw
def zAR (K : Kt) : AExit → List AV → zaa → Prop := zaq tP ziz [1, 1, 0, 1, 0] zmw (zax tP zAW K)
def ziB (t2 t3 t10 t11 t12 : AV) (H : zaa) (K : Kt) : Prop := ALoop tP zAS (zAR K) (ziA t2 t3 t10 t11 t12) H
def zmv (t2 t3 t10 t11 t12 : AV) (H : zaa) (K : Kt) (Kb3 : Lt) : Prop :=
 zac .lss false t12 t11 fun t13 =>
 zag t13
 (zai 2 t10 t12 fun t14 =>
 zad true 2 t14 H fun t15 =>
 zav [(.int .i64 0), .snil] H fun t5 H =>
 zak 2 t5 t15 H fun H =>
 zae H (fun K' => zaf 1 t3 (K' · H)) fun t16 =>
 zae H (fun K' => zam false 1 t16 H (K' · H)) fun t17 =>
 zae H (fun K' => zam true 2 t5 H (K' · H)) fun t18 =>
 zbq H (fun H K' => ACalls tP zfC [t18] H K') fun t19 =>
 zae H (fun K' => zay 2 [(.int .i64 0), .snil] 1 [(0, t19)] (K' · H)) fun t20 =>
 zat zaw 2 32 t17 t20 H fun t21 H =>
 zae H (fun K' => zaf 1 t3 (K' · H)) fun t22 =>
 zak 1 t22 t21 H fun H =>
 zac .add false t12 (.int .i64 1) fun t23 =>
 Kb3 (ziA t2 t3 t10 t11 t23) H)
 (zad true 2 t3 H fun t24 =>
 zak 2 t2 t24 H fun H =>
 zad true 2 t2 H fun r0 =>
 K r0 H)
def zsa (t0 : AV) (H : zaa) (K : Kt) : Prop :=
 zas t0 H fun t1 H =>
 zav [(.int .i64 0), .snil] H fun t2 H =>
 zaf 0 t1 fun t6 =>
 zad false 1 t6 H fun t7 =>
 zal [(.int .i64 0), .snil] [(0, 1), (1, 1)] [(0, t7)] fun t8 =>
 zav [(.int .i64 0), .snil] H fun t3 H =>
 zak 2 t3 t8 H fun H =>
 zaf 1 t1 fun t9 =>
 zad false 1 t9 H fun t10 =>
 zah 1 t10 fun t11 =>
 ziB t2 t3 t10 t11 (.int .i64 0) H K
theorem zAT {t2 t3 t10 t11 t12 : AV} {H : zaa} {K : Kt} (Inv : Nat → AV → zaa → Prop) (n : Nat) (h0 : HSc H → Inv n t12 H)
  (round : Rd1 (fun t12 => ziA t2 t3 t10 t11 t12) (fun t12 => fun H Kb3 => zmv t2 t3 t10 t11 t12 H K Kb3) H Inv) : ziB t2 t3 t10 t11 t12 H K :=
 lp1 (M := ziz) zAU t12 (by kernel_rfl) Inv n h0 round
theorem zAV {t0 : AV} {H : zaa} {K : Kt} (h : HSc H → zsa t0 H K) : ACalls tP zfC [t0] H K :=
 zao (M := ziz) Tryz.func36 (c := zmw) (by kernel_rfl) (fun hs => Eq.mpr (by kernel_rfl) (h hs))
def ziI : Nat → List Bool
 | 3 => rl false [2,2,6,3,12]
 | _ => []
noncomputable def zmG : Code := Tryz.f45.body.getD .skip
noncomputable def zBs : List ResultVar := Tryz.f45.results.toList
def ziJ (t2 t3 t10 t11 t12 : AV) : List AV := ux 2 (t2 :: t3 :: ux 6 (t10 :: t11 :: t12 :: ux 12 []))
def zBq : List Bool := ziI 3
noncomputable def zBo : Code := zap [1, 1, 0, 1, 0, 0] zmG
def zBn (K : Kt) : AExit → List AV → zaa → Prop := zaq tP ziI [1, 1, 0, 1, 0] zmG (zax tP zBs K)
def ziK (t2 t3 t10 t11 t12 : AV) (H : zaa) (K : Kt) : Prop := ALoop tP zBo (zBn K) (ziJ t2 t3 t10 t11 t12) H
def zmF (t2 t3 t10 t11 t12 : AV) (H : zaa) (K : Kt) (Kb3 : Lt) : Prop :=
 zac .lss false t12 t11 fun t13 =>
 zag t13
 (zai 2 t10 t12 fun t14 =>
 zad true 2 t14 H fun t15 =>
 zav [(.int .i64 0), .snil] H fun t5 H =>
 zak 2 t5 t15 H fun H =>
 zae H (fun K' => zaf 1 t3 (K' · H)) fun t16 =>
 zae H (fun K' => zam false 1 t16 H (K' · H)) fun t17 =>
 zae H (fun K' => zam true 2 t5 H (K' · H)) fun t18 =>
 zbq H (fun H K' => ACalls tP zgM [t18] H K') fun t19 =>
 zae H (fun K' => zay 2 [(.int .i64 0), .snil] 1 [(0, t19)] (K' · H)) fun t20 =>
 zat zaw 2 32 t17 t20 H fun t21 H =>
 zae H (fun K' => zaf 1 t3 (K' · H)) fun t22 =>
 zak 1 t22 t21 H fun H =>
 zac .add false t12 (.int .i64 1) fun t23 =>
 Kb3 (ziJ t2 t3 t10 t11 t23) H)
 (zad true 2 t3 H fun t24 =>
 zak 2 t2 t24 H fun H =>
 zad true 2 t2 H fun r0 =>
 K r0 H)
def zsj (t0 : AV) (H : zaa) (K : Kt) : Prop :=
 zas t0 H fun t1 H =>
 zav [(.int .i64 0), .snil] H fun t2 H =>
 zaf 0 t1 fun t6 =>
 zad false 1 t6 H fun t7 =>
 zal [(.int .i64 0), .snil] [(0, 1), (1, 1)] [(0, t7)] fun t8 =>
 zav [(.int .i64 0), .snil] H fun t3 H =>
 zak 2 t3 t8 H fun H =>
 zaf 1 t1 fun t9 =>
 zad false 1 t9 H fun t10 =>
 zah 1 t10 fun t11 =>
 ziK t2 t3 t10 t11 (.int .i64 0) H K
theorem zBp {t2 t3 t10 t11 t12 : AV} {H : zaa} {K : Kt} (Inv : Nat → AV → zaa → Prop) (n : Nat) (h0 : HSc H → Inv n t12 H)
  (round : Rd1 (fun t12 => ziJ t2 t3 t10 t11 t12) (fun t12 => fun H Kb3 => zmF t2 t3 t10 t11 t12 H K Kb3) H Inv) : ziK t2 t3 t10 t11 t12 H K :=
 lp1 (M := ziI) zBq t12 (by kernel_rfl) Inv n h0 round
theorem zBr {t0 : AV} {H : zaa} {K : Kt} (h : HSc H → zsj t0 H K) : ACalls tP zgM [t0] H K :=
 zao (M := ziI) Tryz.func45 (c := zmG) (by kernel_rfl) (fun hs => Eq.mpr (by kernel_rfl) (h hs))
def zAF (_ : Nat) : List Bool := []
noncomputable def zAG : Code := Tryz.f33.body.getD .skip
def zr6 (t0 t1 : AV) (H : zaa) (K : Kt) : Prop :=
 ACalls tP zgI [t0, t1, (.fn zeE [])] H fun t7 H =>
 K t7 H
theorem zAH {t0 t1 : AV} {H : zaa} {K : Kt} (h : HSc H → zr6 t0 t1 H K) : ACalls tP zkF [t0, t1] H K :=
 zao (M := zAF) Tryz.func33 (c := zAG) (by kernel_rfl) (fun hs => Eq.mpr (by kernel_rfl) (h hs))
def zix : Nat → List Bool
 | 2 => rl false [0,3,8,3,25]
 | _ => []
noncomputable def zmu : Code := Tryz.f34.body.getD .skip
noncomputable def zAN : List ResultVar := Tryz.f34.results.toList
def ziy (t0 t1 t2 t11 t12 t13 : AV) : List AV := t0 :: t1 :: t2 :: ux 8 (t11 :: t12 :: t13 :: ux 25 [])
def zAL : List Bool := zix 2
noncomputable def zAJ : Code := zap [1, 0, 1, 0, 0] zmu
def zAI (K : Kt) : AExit → List AV → zaa → Prop := zaq tP zix [1, 0, 1, 0] zmu (zax tP zAN K)
def zr8 (t0 t1 t2 t11 t12 t13 : AV) (H : zaa) (K : Kt) : Prop := ALoop tP zAJ (zAI K) (ziy t0 t1 t2 t11 t12 t13) H
def zmt (t0 t1 t2 t11 t12 t13 : AV) (H : zaa) (K : Kt) (Kb2 : Lt) : Prop :=
 zac .lss false t13 t12 fun t14 =>
 zag t14
 (zai 2 t11 t13 fun t16 =>
 zad true 2 t16 H fun t17 =>
 zav [(.int .i64 0), .snil] H fun t8 H =>
 zak 2 t8 t17 H fun H =>
 zah 1 t1 fun t20 =>
 zac .geq false t13 t20 fun t21 =>
 zag t21
 (K (.int .i64 1) H)
 (zai 2 t1 t13 fun t24 =>
 zad true 2 t24 H fun t25 =>
 zav [(.int .i64 0), .snil] H fun t9 H =>
 zak 2 t9 t25 H fun H =>
 zad true 2 t8 H fun t27 =>
 zad true 2 t9 H fun t28 =>
 aCallV tP t2 [t27, t28] H fun t29 H =>
 zac .neq false t29 (.int .i64 0) fun t31 =>
 zag t31
 (K t29 H)
 (zac .add false t13 (.int .i64 1) fun t33 =>
 Kb2 (ziy t0 t1 t2 t11 t12 t33) H)))
 (zah 1 t0 fun t35 =>
 zah 1 t1 fun t37 =>
 zac .lss false t35 t37 fun t38 =>
 zag t38
 (K (.int .i64 (-1)) H)
 (K (.int .i64 0) H))
def zr7 (t0 t1 t2 : AV) (H : zaa) (K : Kt) : Prop :=
 zah 1 t0 fun t12 =>
 zr8 t0 t1 t2 t0 t12 (.int .i64 0) H K
theorem zAK {t0 t1 t2 t11 t12 t13 : AV} {H : zaa} {K : Kt} (Inv : Nat → AV → zaa → Prop) (n : Nat) (h0 : HSc H → Inv n t13 H)
  (round : Rd1 (fun t13 => ziy t0 t1 t2 t11 t12 t13) (fun t13 => fun H Kb2 => zmt t0 t1 t2 t11 t12 t13 H K Kb2) H Inv) : zr8 t0 t1 t2 t11 t12 t13 H K :=
 lp1 (M := zix) zAL t13 (by kernel_rfl) Inv n h0 round
theorem zAM {t0 t1 t2 : AV} {H : zaa} {K : Kt} (h : HSc H → zr7 t0 t1 t2 H K) : ACalls tP zgI [t0, t1, t2] H K :=
 zao (M := zix) Tryz.func34 (c := zmu) (by kernel_rfl) (fun hs => Eq.mpr (by kernel_rfl) (h hs))
def zAO (_ : Nat) : List Bool := []
noncomputable def zAP : Code := Tryz.f35.body.getD .skip
def zr9 (t0 t1 : AV) (H : zaa) (K : Kt) : Prop :=
 zas t0 H fun t2 H =>
 zas t1 H fun t3 H =>
 zae H (fun K' => zaf 0 t2 (K' · H)) fun t6 =>
 zae H (fun K' => zam false 1 t6 H (K' · H)) fun t7 =>
 zae H (fun K' => zaf 0 t3 (K' · H)) fun t8 =>
 zae H (fun K' => zam false 1 t8 H (K' · H)) fun t9 =>
 zbq H (fun H K' => ACalls tP zgS [t7, t9] H K') fun t10 =>
 zae H (fun K' => zaf 1 t2 (K' · H)) fun t11 =>
 zae H (fun K' => zam false 1 t11 H (K' · H)) fun t12 =>
 zae H (fun K' => zah 1 t12 (K' · H)) fun t13 =>
 zae H (fun K' => zaf 1 t3 (K' · H)) fun t14 =>
 zae H (fun K' => zam false 1 t14 H (K' · H)) fun t15 =>
 zae H (fun K' => zah 1 t15 (K' · H)) fun t16 =>
 zbq H (fun H K' => ACalls tP zgS [t13, t16] H K') fun t17 =>
 zae H (fun K' => zay 1 [(.int .i64 0)] 2 [(0, t10), (1, t17)] (K' · H)) fun t18 =>
 zbq H (fun H K' => ACalls tP zkJ [t18] H K') fun t19 =>
 zae H (fun K' => K' t19 H) fun t5 =>
 zac .neq false t5 (.int .i64 0) fun t21 =>
 zag t21
 (K t5 H)
 (zaf 1 t2 fun t23 =>
 zad false 1 t23 H fun t24 =>
 zaf 1 t3 fun t25 =>
 zad false 1 t25 H fun t26 =>
 ACalls tP zgI [t24, t26, (.fn zeE [])] H fun t27 H =>
 K t27 H)
theorem zAQ {t0 t1 : AV} {H : zaa} {K : Kt} (h : HSc H → zr9 t0 t1 H K) : ACalls tP zeE [t0, t1] H K :=
 zao (M := zAO) Tryz.func35 (c := zAP) (by kernel_rfl) (fun hs => Eq.mpr (by kernel_rfl) (h hs))
def zi2 : Nat → List Bool
 | 3 => rl false [3,1,2,3,9]
 | _ => []
noncomputable def zm0 : Code := Tryz.f58.body.getD .skip
noncomputable def zCu : List ResultVar := Tryz.f58.results.toList
def zi4 (t3 t6 t7 t8 : AV) : List AV := ux 3 (t3 :: ux 2 (t6 :: t7 :: t8 :: ux 9 []))
def zCs : List Bool := zi2 3
noncomputable def zCq : Code := zap [1, 1, 0, 1, 0, 0] zm0
def zCp (K : Kt) : AExit → List AV → zaa → Prop := zaq tP zi2 [1, 1, 0, 1, 0] zm0 (zax tP zCu K)
def zsz (t3 t6 t7 t8 : AV) (H : zaa) (K : Kt) : Prop := ALoop tP zCq (zCp K) (zi4 t3 t6 t7 t8) H
def zi3 (t3 t6 t7 t8 : AV) (H : zaa) (K : Kt) (Kb3 : Lt) : Prop :=
 zac .lss false t8 t7 fun t9 =>
 zag t9
 (zai 1 t6 t8 fun t10 =>
 zad false 1 t10 H fun t11 =>
 zac .neq false t11 t3 fun t14 =>
 zag t14
 (K t11 H)
 (zac .add false t8 (.int .i64 1) fun t16 =>
 Kb3 (zi4 t3 t6 t7 t16) H))
 (K t3 H)
def zsy (t0 : AV) (H : zaa) (K : Kt) : Prop :=
 zah 1 t0 fun t7 =>
 zsz (.int .i64 0) t0 t7 (.int .i64 0) H K
theorem zCr {t3 t6 t7 t8 : AV} {H : zaa} {K : Kt} (Inv : Nat → AV → zaa → Prop) (n : Nat) (h0 : HSc H → Inv n t8 H)
  (round : Rd1 (fun t8 => zi4 t3 t6 t7 t8) (fun t8 => fun H Kb3 => zi3 t3 t6 t7 t8 H K Kb3) H Inv) : zsz t3 t6 t7 t8 H K :=
 lp1 (M := zi2) zCs t8 (by kernel_rfl) Inv n h0 round
theorem zCt {t0 : AV} {H : zaa} {K : Kt} (h : HSc H → zsy t0 H K) : ACalls tP zkJ [t0] H K :=
 zao (M := zi2) Tryz.func58 (c := zm0) (by kernel_rfl) (fun hs => Eq.mpr (by kernel_rfl) (h hs))
def zCv (_ : Nat) : List Bool := []
noncomputable def zCw : Code := Tryz.f59.body.getD .skip
def zsA (t0 t1 : AV) (H : zaa) (K : Kt) : Prop :=
 ACalls tP zgZ [t0] H fun t8 H =>
 ACalls tP zgZ [t1] H fun t10 H =>
 zag t8
 (zag t10
 (K (.int .i64 0) H)
 (K (.int .i64 (-1)) H))
 (zag t10
 (K (.int .i64 1) H)
 (zac .lss false t0 t1 fun t16 =>
 zag t16
 (K (.int .i64 (-1)) H)
 (zac .gtr false t0 t1 fun t19 =>
 zag t19
 (K (.int .i64 1) H)
 (K (.int .i64 0) H))))
theorem zCx {t0 t1 : AV} {H : zaa} {K : Kt} (h : HSc H → zsA t0 t1 H K) : ACalls tP zgS [t0, t1] H K :=
 zao (M := zCv) Tryz.func59 (c := zCw) (by kernel_rfl) (fun hs => Eq.mpr (by kernel_rfl) (h hs))
def zDA (_ : Nat) : List Bool := []
noncomputable def zDB : Code := Tryz.f82.body.getD .skip
def zsX (t0 : AV) (H : zaa) (K : Kt) : Prop :=
 zac .neq false t0 t0 fun t5 =>
 K t5 H
theorem zDC {t0 : AV} {H : zaa} {K : Kt} (h : HSc H → zsX t0 H K) : ACalls tP zgZ [t0] H K :=
 zao (M := zDA) Tryz.func82 (c := zDB) (by kernel_rfl) (fun hs => Eq.mpr (by kernel_rfl) (h hs))
end Go.Proofs.YtacebbdfgbfgiaaGreat
namespace Go.Proofs.YtacebbdfgbfgiaaGreat
open Go Go.Abs
set_option maxRecDepth 8000
theorem zb2 (v : IT) : ∃ a b, v.cs = [a, b] ∧ a.known = true ∧ b.known = true := by
 obtain ⟨n, ks⟩ := v; exact ⟨_, _, rfl, rfl, rfl⟩
theorem zfc {v : IT} {k : AV → Prop} : zay 2 [.int .i64 0, .snil] 1 [(0, .agg v.cs)] k = k (.sl [v.cs] .full) := by
 cases v
 exact propext Iff.rfl
theorem zo3 {l : List IT} {i : Nat} (h : i < l.length) : IT.css (l.take (i + 1)) = IT.css (l.take i) ++ [(l[i]).cs] := by
 rw [IT.css_map, IT.css_map, List.take_succ_eq_append_getElem h, List.map_append]
 rfl
theorem zsb : ∀ (m : Nat) (v : IT), v.nodes ≤ m → v.nodes ≤ 1000000 → ∀ (H : zaa) (K : Kt), K (.agg v.cs) H → ACalls tP zfC [.agg v.cs] H K := by
 intro m
 induction m with
 | zero => intro v h; have := v.nodes_pos; omega
 | succ m ih =>
  intro v hm hb H K hK
  obtain ⟨n, ks⟩ := v
  have hll := IT.len_le ks
  have hnn : (IT.mk n ks).nodes = IT.nodesL ks + 1 := by simp [IT.nodes]
  refine ACalls.out (zAV fun hs => ?_)
  simp [zsa, IT.cs, zal, zaB, AV.known, Nat.add_assoc]
  unfold ziB
  refine ALoop.ownC (H.length + 2) 1 zaw 2 (cs := [.int .i64 n, .snil]) (by simp) rfl ?_
  have hset : (H ++ [AB.cells [.int .i64 n, .sl (IT.css ks) .none], .cells [.int .i64 0, .snil], .cells [.int .i64 n, .snil]]).set (H.length + 2) (.cells ([AV.int .i64 n, .snil].set 1 (.sl [] (.own (H ++ [AB.cells [.int .i64 n, .sl (IT.css ks) .none], .cells [.int .i64 0, .snil], .cells [.int .i64 n, .snil]]).length)))) ++ [.perm zaw 2 0] =
    H ++ [.cells [.int .i64 n, .sl (IT.css ks) .none], .cells [.int .i64 0, .snil], .cells [.int .i64 n, .sl [] (.own (H.length + 3))], .perm zaw 2 0] := by simp [List.set_append_right]
  rw [hset]
  show ziB (.ptr (H.length + 1) 0) (.ptr (H.length + 2) 0) (.sl (IT.css ks) .none) (.int .i64 ks.length) (.int .i64 0) _ (Out H.length K)
  have hsc : ∀ i, HSc (H ++ [.cells [.int .i64 n, .sl (IT.css ks) .none], .cells [.int .i64 0, .snil], .cells [.int .i64 n, .sl (IT.css (ks.take i)) (.own (H.length + 3))], .perm zaw 2 i]) := fun i => hs.append (by simp [AB.sc, AV.scA, AV.scB])
  refine zAT (Inv := fun q t12 H' => ∃ i : Nat, i ≤ ks.length ∧ q = ks.length - i ∧ t12 = .int .i64 i ∧
   H' = H ++ [.cells [.int .i64 n, .sl (IT.css ks) .none], .cells [.int .i64 0, .snil], .cells [.int .i64 n, .sl (IT.css (ks.take i)) (.own (H.length + 3))], .perm zaw 2 i]) ks.length ?_ ?_
  ·intro _; exact ⟨0, by omega, by omega, rfl, by simp [IT.css]⟩
  ·rintro q t12 H' ⟨i, hi, rfl, rfl, rfl⟩ hsc' hlen hsF Kb hKb
   by_cases hlt : i < ks.length
   ·obtain ⟨x, y, hvx, hx, hy⟩ := zb2 ks[i]
    have hkn := IT.kid_lt (n := n) hlt
    simp [zmv, hlt, hvx, hx, hy]
    rw [← hvx]
    refine zbF (.agg (ks[i]).cs) (fun J => ih ks[i] (by omega) (by omega) _ _ ⟨rfl, rfl⟩) ?_
    rw [zfc]
    simp [zat, zaW, zaK, Nat.min_eq_left hi, AV.known, List.set_append_right]
    refine ⟨⟨by omega, by omega⟩, ?_⟩
    rw [zan (by omega) (by omega)]
    rw [← zo3 hlt]
    refine hKb _ _ ⟨ks.length - (i + 1), by omega, Back.at (J := [.cells (ks[i]).cs]) (H2 := H ++ [.cells [.int .i64 n, .sl (IT.css ks) .none], .cells [.int .i64 0, .snil], .cells [.int .i64 n, .sl (IT.css (ks.take (i + 1))) (.own (H.length + 3))], .perm zaw 2 (i + 1)]) (by simp) (by simp) (hsc _) ?_ ⟨_, rfl, i + 1, by omega, rfl, by simp, rfl⟩⟩
    simp [ziA, AV.sc, AV.scV, AV.scA, AV.scB]
   ·obtain rfl : i = ks.length := by omega
    rw [List.take_length] at *
    simp [zmv, AV.known, List.set_append_right]
    exact Out.at rfl (Nat.le_refl _) hs (WkV.agg (ds := [.int .i64 n, .sl (IT.css ks) .none]) ⟨.refl _, .sl _ _, trivial⟩) rfl (by simp [AV.scV, AV.scA, AV.scB]) (by simpa [IT.cs] using hK)
theorem zBt : ∀ (m : Nat) (v : IT), v.nodes ≤ m → v.nodes ≤ 1000000 → ∀ (H : zaa) (K : Kt), K (.agg v.cs) H → ACalls tP zgM [.agg v.cs] H K := by
 intro m
 induction m with
 | zero => intro v h; have := v.nodes_pos; omega
 | succ m ih =>
  intro v hm hb H K hK
  obtain ⟨n, ks⟩ := v
  have hll := IT.len_le ks
  have hnn : (IT.mk n ks).nodes = IT.nodesL ks + 1 := by simp [IT.nodes]
  refine ACalls.out (zBr fun hs => ?_)
  simp [zsj, IT.cs, zal, zaB, AV.known, Nat.add_assoc]
  unfold ziK
  refine ALoop.ownC (H.length + 2) 1 zaw 2 (cs := [.int .i64 n, .snil]) (by simp) rfl ?_
  have hset : (H ++ [AB.cells [.int .i64 n, .sl (IT.css ks) .none], .cells [.int .i64 0, .snil], .cells [.int .i64 n, .snil]]).set (H.length + 2) (.cells ([AV.int .i64 n, .snil].set 1 (.sl [] (.own (H ++ [AB.cells [.int .i64 n, .sl (IT.css ks) .none], .cells [.int .i64 0, .snil], .cells [.int .i64 n, .snil]]).length)))) ++ [.perm zaw 2 0] =
    H ++ [.cells [.int .i64 n, .sl (IT.css ks) .none], .cells [.int .i64 0, .snil], .cells [.int .i64 n, .sl [] (.own (H.length + 3))], .perm zaw 2 0] := by simp [List.set_append_right]
  rw [hset]
  show ziK (.ptr (H.length + 1) 0) (.ptr (H.length + 2) 0) (.sl (IT.css ks) .none) (.int .i64 ks.length) (.int .i64 0) _ (Out H.length K)
  have hsc : ∀ i, HSc (H ++ [.cells [.int .i64 n, .sl (IT.css ks) .none], .cells [.int .i64 0, .snil], .cells [.int .i64 n, .sl (IT.css (ks.take i)) (.own (H.length + 3))], .perm zaw 2 i]) := fun i => hs.append (by simp [AB.sc, AV.scA, AV.scB])
  refine zBp (Inv := fun q t12 H' => ∃ i : Nat, i ≤ ks.length ∧ q = ks.length - i ∧ t12 = .int .i64 i ∧
   H' = H ++ [.cells [.int .i64 n, .sl (IT.css ks) .none], .cells [.int .i64 0, .snil], .cells [.int .i64 n, .sl (IT.css (ks.take i)) (.own (H.length + 3))], .perm zaw 2 i]) ks.length ?_ ?_
  ·intro _; exact ⟨0, by omega, by omega, rfl, by simp [IT.css]⟩
  ·rintro q t12 H' ⟨i, hi, rfl, rfl, rfl⟩ hsc' hlen hsF Kb hKb
   by_cases hlt : i < ks.length
   ·obtain ⟨x, y, hvx, hx, hy⟩ := zb2 ks[i]
    have hkn := IT.kid_lt (n := n) hlt
    simp [zmF, hlt, hvx, hx, hy]
    rw [← hvx]
    refine zbF (.agg (ks[i]).cs) (fun J => ih ks[i] (by omega) (by omega) _ _ ⟨rfl, rfl⟩) ?_
    rw [zfc]
    simp [zat, zaW, zaK, Nat.min_eq_left hi, AV.known, List.set_append_right]
    refine ⟨⟨by omega, by omega⟩, ?_⟩
    rw [zan (by omega) (by omega)]
    rw [← zo3 hlt]
    refine hKb _ _ ⟨ks.length - (i + 1), by omega, Back.at (J := [.cells (ks[i]).cs]) (H2 := H ++ [.cells [.int .i64 n, .sl (IT.css ks) .none], .cells [.int .i64 0, .snil], .cells [.int .i64 n, .sl (IT.css (ks.take (i + 1))) (.own (H.length + 3))], .perm zaw 2 (i + 1)]) (by simp) (by simp) (hsc _) ?_ ⟨_, rfl, i + 1, by omega, rfl, by simp, rfl⟩⟩
    simp [ziJ, AV.sc, AV.scV, AV.scA, AV.scB]
   ·obtain rfl : i = ks.length := by omega
    rw [List.take_length] at *
    simp [zmF, AV.known, List.set_append_right]
    exact Out.at rfl (Nat.le_refl _) hs (WkV.agg (ds := [.int .i64 n, .sl (IT.css ks) .none]) ⟨.refl _, .sl _ _, trivial⟩) rfl (by simp [AV.scV, AV.scA, AV.scB]) (by simpa [IT.cs] using hK)
mutual
def zbp : VT → IT
 | .mk k _ ks => .mk 0 (if k = 6 then zbR ks else [])
def zbR : List VT → List IT
 | [] => []
 | t :: ts => zbp t :: zbR ts
end
theorem zhx : ∀ ts : List VT, zbR ts = ts.map zbp
 | [] => by simp [zbR]
 | t :: ts => by simp [zbR, zhx ts]
theorem zCl : ∀ (m : Nat) (v : VT), v.nodes ≤ m → v.nodes ≤ 1000000 → ∀ (H : zaa) (K : Kt), K (.agg (zbp v).cs) H → ACalls tP zgQ [.agg v.cs] H K := by
 intro m
 induction m with
 | zero => intro v h; have := v.nodes_pos; omega
 | succ m ih =>
  intro v hm hb H K hK
  obtain ⟨k, n, ks⟩ := v
  have hll := VT.len_le ks
  have hnn : (VT.mk k n ks).nodes = VT.nodesL ks + 1 := by simp [VT.nodes]
  refine ACalls.out (zCj fun hs => ?_)
  simp [zsx, VT.cs, zal, zaB, AV.known, Nat.add_assoc]
  by_cases hk6 : k = 6
  ·have hK : K (.agg [.int .i64 0, .sl (IT.css (zbR ks)) .none]) H := by simpa [zbp, hk6, IT.cs] using hK
   simp [hk6]
   subst hk6
   unfold zi0
   refine ALoop.ownC (H.length + 2) 1 zaw 2 (cs := [.int .i64 0, .snil]) (by simp) rfl ?_
   have hset : (H ++ [AB.cells [.int .i64 6, .int .i64 n, .sl (VT.css ks) .none], .cells [.int .i64 0, .snil], .cells [.int .i64 0, .snil]]).set (H.length + 2) (.cells ([AV.int .i64 0, .snil].set 1 (.sl [] (.own (H ++ [AB.cells [.int .i64 6, .int .i64 n, .sl (VT.css ks) .none], .cells [.int .i64 0, .snil], .cells [.int .i64 0, .snil]]).length)))) ++ [.perm zaw 2 0] =
     H ++ [.cells [.int .i64 6, .int .i64 n, .sl (VT.css ks) .none], .cells [.int .i64 0, .snil], .cells [.int .i64 0, .sl [] (.own (H.length + 3))], .perm zaw 2 0] := by simp [List.set_append_right]
   rw [hset]
   show zi0 (.ptr (H.length + 1) 0) (.ptr (H.length + 2) 0) (.sl (VT.css ks) .none) (.int .i64 ks.length) (.int .i64 0) _ (Out H.length K)
   have hsc : ∀ i, HSc (H ++ [.cells [.int .i64 6, .int .i64 n, .sl (VT.css ks) .none], .cells [.int .i64 0, .snil], .cells [.int .i64 0, .sl (IT.css (zbR (ks.take i))) (.own (H.length + 3))], .perm zaw 2 i]) := fun i => hs.append (by simp [AB.sc, AV.scA, AV.scB])
   refine zCh (Inv := fun q t12 H' => ∃ i : Nat, i ≤ ks.length ∧ q = ks.length - i ∧ t12 = .int .i64 i ∧
    H' = H ++ [.cells [.int .i64 6, .int .i64 n, .sl (VT.css ks) .none], .cells [.int .i64 0, .snil], .cells [.int .i64 0, .sl (IT.css (zbR (ks.take i))) (.own (H.length + 3))], .perm zaw 2 i]) ks.length ?_ ?_
   ·intro _; exact ⟨0, by omega, by omega, rfl, by simp [zbR, IT.css]⟩
   ·rintro q t12 H' ⟨i, hi, rfl, rfl, rfl⟩ hsc' hlen hsF Kb hKb
    by_cases hlt : i < ks.length
    ·obtain ⟨x, y, z, hvx, hx, hy, hz⟩ := zbd ks[i]
     have hkn := VT.kid_lt (k := 6) (n := n) hlt
     have hzl : (zbR (ks.take i)).length = i := by simp [zhx, Nat.min_eq_left hi]
     simp [zmY, hlt, hvx, hx, hy, hz]
     rw [← hvx]
     refine zbF (.agg (zbp ks[i]).cs) (fun J => ih ks[i] (by omega) (by omega) _ _ ⟨rfl, rfl⟩) ?_
     rw [zfc]
     simp [zat, zaW, zaK, hzl, AV.known, List.set_append_right]
     refine ⟨⟨by omega, by omega⟩, ?_⟩
     rw [zan (by omega) (by omega)]
     have hst : IT.css (zbR (ks.take i)) ++ [(zbp ks[i]).cs] = IT.css (zbR (ks.take (i + 1))) := by
      rw [zhx, zhx, List.take_succ_eq_append_getElem hlt, IT.css_map, IT.css_map, List.map_append, List.map_append]
      rfl
     rw [hst]
     refine hKb _ _ ⟨ks.length - (i + 1), by omega, Back.at (J := [.cells (ks[i]).cs]) (H2 := H ++ [.cells [.int .i64 6, .int .i64 n, .sl (VT.css ks) .none], .cells [.int .i64 0, .snil], .cells [.int .i64 0, .sl (IT.css (zbR (ks.take (i + 1)))) (.own (H.length + 3))], .perm zaw 2 (i + 1)]) (by simp) (by simp) (hsc _) ?_ ⟨_, rfl, i + 1, by omega, rfl, by simp, rfl⟩⟩
     simp [ziY, AV.sc, AV.scV, AV.scA, AV.scB]
    ·obtain rfl : i = ks.length := by omega
     rw [List.take_length] at *
     simp [zmY, ziZ, AV.known, List.set_append_right]
     exact Out.at rfl (Nat.le_refl _) hs (WkV.agg (ds := [.int .i64 0, .sl (IT.css (zbR ks)) .none]) ⟨.refl _, .sl _ _, trivial⟩) rfl (by simp [AV.scV, AV.scA, AV.scB]) hK
  ·have hK : K (.agg [.int .i64 0, .sl [] .none]) H := by simpa [zbp, hk6, IT.cs, IT.css] using hK
   have hb : (k == 6) = false := by simpa using hk6
   simp [hb, ziZ, AV.known, List.set_append_right]
   exact Out.at rfl (Nat.le_refl _) hs (WkV.agg (ds := [.int .i64 0, .sl [] .none]) ⟨.refl _, .snil, trivial⟩) rfl (by simp [AV.scV, AV.scA, AV.scB]) hK
end Go.Proofs.YtacebbdfgbfgiaaGreat
namespace Go.Proofs.YtacebbdfgbfgiaaGreat
open Go Go.Abs
set_option maxRecDepth 100000
def zDw (_ : Nat) : List Bool := []
noncomputable def zDx : Code := Tryz.f9.body.getD .skip
def zq7 (t0 : AV) (H : zaa) (K : Kt) : Prop :=
 zas t0 H fun t1 H =>
 zav [(.int .i64 0)] H fun t3 H =>
 zak 1 t3 (.int .i64 40) H fun H =>
 zad true 2 t1 H fun t4 =>
 ACalls tP zgG [t4, t3] H fun t5 H =>
 K t5 H
theorem zDy {t0 : AV} {H : zaa} {K : Kt} (h : HSc H → zq7 t0 H K) : ACalls tP zkN [t0] H K :=
 zao (M := zDw) Tryz.func9 (c := zDx) (by kernel_rfl) (fun hs => Eq.mpr (by kernel_rfl) (h hs))
def zih : Nat → List Bool
 | 5 => rl false [1,2,2,1,24]
 | _ => []
noncomputable def zmh : Code := Tryz.f26.body.getD .skip
noncomputable def zz8 : List ResultVar := Tryz.f26.results.toList
def zii (t1 t2 t5 : AV) : List AV := ux 1 (t1 :: t2 :: ux 2 (t5 :: ux 24 []))
def zz6 : List Bool := zih 5
noncomputable def zz4 : Code := zap [1, 1, 1, 0, 1, 0, 0] zmh
def zz3 (K : Kt) : AExit → List AV → zaa → Prop := zaq tP zih [1, 1, 1, 0, 1, 0] zmh (zax tP zz8 K)
def zrR (t1 t2 t5 : AV) (H : zaa) (K : Kt) : Prop := ALoop tP zz4 (zz3 K) (zii t1 t2 t5) H
def zmg (t1 t2 t5 : AV) (H : zaa) (K : Kt) (Kb5 : Lt) : Prop :=
 zaf 1 t2 fun t16 =>
 zad false 1 t16 H fun t17 =>
 zah 1 t17 fun t18 =>
 zac .lss false t5 t18 fun t19 =>
 zag t19
 (zaf 1 t2 fun t22 =>
 zad false 1 t22 H fun t23 =>
 zai 2 t23 t5 fun t25 =>
 zad true 2 t25 H fun t26 =>
 ACalls tP zgG [t26, t1] H fun t28 H =>
 aUn .not t28 fun t29 =>
 zag t29
 (K (.bool false) H)
 (zac .add false t5 (.int .i64 1) fun t21 =>
 Kb5 (zii t1 t2 t21) H))
 (K (.bool true) H)
def zrQ (t0 t1 : AV) (H : zaa) (K : Kt) : Prop :=
 zas t0 H fun t2 H =>
 za9 t1 fun t7 =>
 zad false 1 t7 H fun t8 =>
 zac .sub false t8 (.int .i64 1) fun t9 =>
 za9 t1 fun t10 =>
 zak 1 t10 t9 H fun H =>
 za9 t1 fun t12 =>
 zad false 1 t12 H fun t13 =>
 zac .lss false t13 (.int .i64 0) fun t14 =>
 zag t14
 (K (.bool false) H)
 (zrR t1 t2 (.int .i64 0) H K)
theorem zz5 {t1 t2 t5 : AV} {H : zaa} {K : Kt} (Inv : Nat → AV → zaa → Prop) (n : Nat) (h0 : HSc H → Inv n t5 H)
  (round : Rd1 (fun t5 => zii t1 t2 t5) (fun t5 => fun H Kb5 => zmg t1 t2 t5 H K Kb5) H Inv) : zrR t1 t2 t5 H K :=
 lp1 (M := zih) zz6 t5 (by kernel_rfl) Inv n h0 round
theorem zz7 {t0 t1 : AV} {H : zaa} {K : Kt} (h : HSc H → zrQ t0 t1 H K) : ACalls tP zgG [t0, t1] H K :=
 zao (M := zih) Tryz.func26 (c := zmh) (by kernel_rfl) (fun hs => Eq.mpr (by kernel_rfl) (h hs))
def zAa (_ : Nat) : List Bool := []
noncomputable def zAb : Code := Tryz.f27.body.getD .skip
def zrS (t0 t1 t2 : AV) (H : zaa) (K : Kt) : Prop :=
 zas t1 H fun t4 H =>
 zas t2 H fun t5 H =>
 zad true 3 t4 H fun t8 =>
 zad true 2 t5 H fun t9 =>
 ACalls tP zgN [t0, t8, t9] H fun t10 H =>
 zac .geq false t10 (.int .i64 0) fun t11 =>
 K t11 H
theorem zAc {t0 t1 t2 : AV} {H : zaa} {K : Kt} (h : HSc H → zrS t0 t1 t2 H K) : ACalls tP zkE [t0, t1, t2] H K :=
 zao (M := zAa) Tryz.func27 (c := zAb) (by kernel_rfl) (fun hs => Eq.mpr (by kernel_rfl) (h hs))
def zAX (_ : Nat) : List Bool := []
noncomputable def zAY : Code := Tryz.f37.body.getD .skip
def zsc (t0 t1 t2 : AV) (H : zaa) (K : Kt) : Prop :=
 zas t1 H fun t4 H =>
 zas t2 H fun t5 H =>
 zad true 3 t4 H fun t8 =>
 zad true 2 t5 H fun t9 =>
 ACalls tP zkv [t0, t8, t9] H fun t10 H =>
 zac .geq false t10 (.int .i64 0) fun t11 =>
 K t11 H
theorem zAZ {t0 t1 t2 : AV} {H : zaa} {K : Kt} (h : HSc H → zsc t0 t1 t2 H K) : ACalls tP zgJ [t0, t1, t2] H K :=
 zao (M := zAX) Tryz.func37 (c := zAY) (by kernel_rfl) (fun hs => Eq.mpr (by kernel_rfl) (h hs))
def zBu (_ : Nat) : List Bool := []
noncomputable def zBv : Code := Tryz.f46.body.getD .skip
def zsk (t0 t1 t2 : AV) (H : zaa) (K : Kt) : Prop :=
 zas t1 H fun t4 H =>
 zas t2 H fun t5 H =>
 zad true 3 t4 H fun t10 =>
 ACalls tP zfH [t0, t10] H fun t11 H =>
 aUn .not t11 fun t12 =>
 zag t12
 (K (.int .i64 (-1)) H)
 (zad true 3 t4 H fun t15 =>
 zad true 2 t5 H fun t16 =>
 ACalls tP zgX [t0, t15, t16] H fun t17 H =>
 zar t17 0 fun t18 =>
 zar t17 1 fun t19 =>
 aUn .not t19 fun t21 =>
 zag t21
 (K (.int .i64 (-1)) H)
 (K t18 H))
theorem zBw {t0 t1 t2 : AV} {H : zaa} {K : Kt} (h : HSc H → zsk t0 t1 t2 H K) : ACalls tP zgN [t0, t1, t2] H K :=
 zao (M := zBu) Tryz.func46 (c := zBv) (by kernel_rfl) (fun hs => Eq.mpr (by kernel_rfl) (h hs))
def zyp (_ : Nat) : List Bool := []
noncomputable def zyq : Code := Tryz.f14.body.getD .skip
def zra (t0 t1 t2 : AV) (H : zaa) (K : Kt) : Prop :=
 zas t1 H fun t4 H =>
 zas t2 H fun t5 H =>
 zad true 3 t4 H fun t8 =>
 ACalls tP zfD [t0, t8] H fun t9 H =>
 aUn .not t9 fun t10 =>
 zag t10
 (K (.int .i64 (-1)) H)
 (zad true 3 t4 H fun t12 =>
 zad true 2 t5 H fun t13 =>
 ACalls tP zgK [t0, t12, t13] H fun t14 H =>
 K t14 H)
theorem zyr {t0 t1 t2 : AV} {H : zaa} {K : Kt} (h : HSc H → zra t0 t1 t2 H K) : ACalls tP zkv [t0, t1, t2] H K :=
 zao (M := zyp) Tryz.func14 (c := zyq) (by kernel_rfl) (fun hs => Eq.mpr (by kernel_rfl) (h hs))
def zB5 (_ : Nat) : List Bool := []
noncomputable def zB6 : Code := Tryz.f52.body.getD .skip
def zss (t0 t1 : AV) (H : zaa) (K : Kt) : Prop :=
 zas t1 H fun t3 H =>
 zal [.snil, .snil, .snil, .snil] [(0, 1), (1, 1), (2, 1), (3, 1)] [(0, t0)] fun t6 =>
 ACalls tP zkM [t6] H fun t7 H =>
 zab t7 true H (fun K' => K' t0 H) fun t9 H =>
 zab t7 true H (fun K' => zad true 3 t3 H (K' · H)) fun t10 H =>
 zab t7 true H (fun K' => ACalls tP zfI [t9, t10, (.int .i64 0)] H K') fun t11 H =>
 zaj t7 t11 (.bool false) fun t12 =>
 K t12 H
theorem zB7 {t0 t1 : AV} {H : zaa} {K : Kt} (h : HSc H → zss t0 t1 H K) : ACalls tP zfH [t0, t1] H K :=
 zao (M := zB5) Tryz.func52 (c := zB6) (by kernel_rfl) (fun hs => Eq.mpr (by kernel_rfl) (h hs))
def zjj : Nat → List Bool
 | 13 => rl false [0,1,3,1,3,1,44,3,42]
 | _ => []
noncomputable def zng : Code := Tryz.f68.body.getD .skip
noncomputable def zDe : List ResultVar := Tryz.f68.results.toList
def zjk (t0 t4 t8 t53 t54 t55 : AV) : List AV := t0 :: ux 3 (t4 :: ux 3 (t8 :: ux 44 (t53 :: t54 :: t55 :: ux 42 [])))
def zDc : List Bool := zjj 13
noncomputable def zDa : Code := zap [1, 0, 1, 0, 1, 1, 1, 1, 1, 0, 1, 1, 0, 1, 0, 0] zng
def zC9 (K : Kt) : AExit → List AV → zaa → Prop := zaq tP zjj [1, 0, 1, 0, 1, 1, 1, 1, 1, 0, 1, 1, 0, 1, 0] zng (zax tP zDe K)
def zsQ (t0 t4 t8 t53 t54 t55 : AV) (H : zaa) (K : Kt) : Prop := ALoop tP zDa (zC9 K) (zjk t0 t4 t8 t53 t54 t55) H
def znf (t0 t4 t8 t53 t54 t55 : AV) (H : zaa) (K : Kt) (Kb13 : Lt) : Prop :=
 zac .lss false t55 t54 fun t56 =>
 zag t56
 (zai 2 t53 t55 fun t57 =>
 zad true 2 t57 H fun t58 =>
 zav [(.int .i64 0), .snil] H fun t10 H =>
 zak 2 t10 t58 H fun H =>
 zad true 3 t4 H fun t61 =>
 zaf 0 t10 fun t62 =>
 zad false 1 t62 H fun t63 =>
 ACalls tP zkO [t0, t61, t63] H fun t64 H =>
 zar t64 0 fun t65 =>
 zar t64 1 fun t66 =>
 aUn .not t66 fun t68 =>
 zag t68
 (zau [(.int .i64 0), (.bool false)] (K · H))
 (zaf 1 t10 fun t72 =>
 zad false 1 t72 H fun t73 =>
 ACalls tP zg3 [t0, t65, t73] H fun t74 H =>
 zar t74 0 fun t75 =>
 zar t74 1 fun t76 =>
 zac .add false (.int .i64 1) t75 fun t79 =>
 zac .add false t8 t79 fun t80 =>
 aUn .not t76 fun t82 =>
 zab t82 false H (fun K' => K' t80 H) fun t84 H =>
 zab t82 false H (fun K' => zac .gtr false t84 (.int .i64 6) (K' · H)) fun t85 H =>
 zaj t82 (.bool true) t85 fun t86 =>
 zag t86
 (zau [(.int .i64 0), (.bool false)] (K · H))
 (zac .add false t55 (.int .i64 1) fun t87 =>
 Kb13 (zjk t0 t4 t80 t53 t54 t87) H)))
 (zau [t8, (.bool true)] (K · H))
def zcy (t0 t1 t2 : AV) (H : zaa) (K : Kt) : Prop :=
 zas t1 H fun t4 H =>
 zas t2 H fun t5 H =>
 zaf 0 t4 fun t14 =>
 zad false 1 t14 H fun t15 =>
 zac .eql false t15 (.int .i64 6) fun t17 =>
 zag t17
 (zaf 0 t5 fun t18 =>
 zad false 1 t18 H fun t19 =>
 zac .neq false t19 (.int .i64 0) fun t20 =>
 zag t20
 (zau [(.int .i64 0), (.bool false)] (K · H))
 (zaf 2 t4 fun t22 =>
 zad false 1 t22 H fun t23 =>
 zaf 1 t5 fun t24 =>
 zad false 1 t24 H fun t25 =>
 ACalls tP zg3 [t0, t23, t25] H fun t26 H =>
 zar t26 0 fun t27 =>
 zar t26 1 fun t28 =>
 zau [t27, t28] (K · H)))
 (zac .eql false t15 (.int .i64 7) fun t30 =>
 zag t30
 (zae H (fun K' => zaf 0 t5 (K' · H)) fun t31 =>
 zae H (fun K' => zam false 1 t31 H (K' · H)) fun t32 =>
 zae H (fun K' => zaf 0 t5 (K' · H)) fun t33 =>
 zae H (fun K' => zam false 1 t33 H (K' · H)) fun t34 =>
 zae H (fun K' => zac .geq false t34 (.int .i64 0) (K' · H)) fun t35 =>
 zae H (fun K' => K' t35 H) fun t36 =>
 zab t36 true H (fun K' => zae H (fun K'' => zaf 0 t5 (K'' · H)) (K' · H)) fun t37 H =>
 zab t36 true H (fun K' => zae H (fun K'' => zam false 1 t37 H (K'' · H)) (K' · H)) fun t38 H =>
 zab t36 true H (fun K' => zae H (fun K'' => zac .leq false t38 (.int .i64 6) (K'' · H)) (K' · H)) fun t39 H =>
 zae H (fun K' => zaj t36 t39 (.bool false) (K' · H)) fun t40 =>
 zae H (fun K' => K' t40 H) fun t41 =>
 zab t41 true H (fun K' => zae H (fun K'' => zaf 1 t5 (K'' · H)) (K' · H)) fun t42 H =>
 zab t41 true H (fun K' => zae H (fun K'' => zam false 1 t42 H (K'' · H)) (K' · H)) fun t43 H =>
 zab t41 true H (fun K' => zae H (fun K'' => zah 1 t43 (K'' · H)) (K' · H)) fun t44 H =>
 zab t41 true H (fun K' => zae H (fun K'' => zac .eql false t44 (.int .i64 0) (K'' · H)) (K' · H)) fun t45 H =>
 zae H (fun K' => zaj t41 t45 (.bool false) (K' · H)) fun t46 =>
 zae H (fun K' => K' t32 H) fun t6 =>
 zae H (fun K' => K' t46 H) fun t7 =>
 zau [t6, t7] (K · H))
 (zac .eql false t15 (.int .i64 5) fun t48 =>
 zag t48
 (zaf 0 t5 fun t49 =>
 zad false 1 t49 H fun t50 =>
 zac .neq false t50 (.int .i64 0) fun t51 =>
 zag t51
 (zau [(.int .i64 0), (.bool false)] (K · H))
 (zaf 1 t5 fun t52 =>
 zad false 1 t52 H fun t53 =>
 zah 1 t53 fun t54 =>
 zsQ t0 t4 (.int .i64 0) t53 t54 (.int .i64 0) H K))
 (zae H (fun K' => zaf 0 t5 (K' · H)) fun t89 =>
 zae H (fun K' => zam false 1 t89 H (K' · H)) fun t90 =>
 zae H (fun K' => zac .eql false t90 (.int .i64 0) (K' · H)) fun t91 =>
 zae H (fun K' => K' t91 H) fun t92 =>
 zab t92 true H (fun K' => zae H (fun K'' => zaf 1 t5 (K'' · H)) (K' · H)) fun t93 H =>
 zab t92 true H (fun K' => zae H (fun K'' => zam false 1 t93 H (K'' · H)) (K' · H)) fun t94 H =>
 zab t92 true H (fun K' => zae H (fun K'' => zah 1 t94 (K'' · H)) (K' · H)) fun t95 H =>
 zab t92 true H (fun K' => zae H (fun K'' => zac .eql false t95 (.int .i64 0) (K'' · H)) (K' · H)) fun t96 H =>
 zae H (fun K' => zaj t92 t96 (.bool false) (K' · H)) fun t97 =>
 zae H (fun K' => K' (.int .i64 0) H) fun t6 =>
 zae H (fun K' => K' t97 H) fun t7 =>
 zau [t6, t7] (K · H))))
theorem zDb {t0 t4 t8 t53 t54 t55 : AV} {H : zaa} {K : Kt} (Inv : Nat → AV → AV → zaa → Prop) (n : Nat) (h0 : HSc H → Inv n t8 t55 H)
  (round : Rd2 (fun t8 => fun t55 => zjk t0 t4 t8 t53 t54 t55) (fun t8 => fun t55 => fun H Kb13 => znf t0 t4 t8 t53 t54 t55 H K Kb13) H Inv) : zsQ t0 t4 t8 t53 t54 t55 H K :=
 lp2 (M := zjj) zDc t8 t55 (by kernel_rfl) Inv n h0 round
theorem zDd {t0 t1 t2 : AV} {H : zaa} {K : Kt} (h : HSc H → zcy t0 t1 t2 H K) : ACalls tP zgX [t0, t1, t2] H K :=
 zao (M := zjj) Tryz.func68 (c := zng) (by kernel_rfl) (fun hs => Eq.mpr (by kernel_rfl) (h hs))
def zA0 (_ : Nat) : List Bool := []
noncomputable def zA1 : Code := Tryz.f39.body.getD .skip
def zse (t0 t1 : AV) (H : zaa) (K : Kt) : Prop :=
 zas t1 H fun t3 H =>
 ACalls tP zkK [t0] H fun t6 H =>
 zab t6 true H (fun K' => K' t0 H) fun t8 H =>
 zab t6 true H (fun K' => zad true 3 t3 H (K' · H)) fun t9 H =>
 zab t6 true H (fun K' => ACalls tP zgU [t8, t9, (.int .i64 0)] H K') fun t10 H =>
 zaj t6 t10 (.bool false) fun t11 =>
 K t11 H
theorem zA2 {t0 t1 : AV} {H : zaa} {K : Kt} (h : HSc H → zse t0 t1 H K) : ACalls tP zfD [t0, t1] H K :=
 zao (M := zA0) Tryz.func39 (c := zA1) (by kernel_rfl) (fun hs => Eq.mpr (by kernel_rfl) (h hs))
def ziC : Nat → List Bool
 | 15 => rl false [0,1,3,1,2,1,48,3,50]
 | _ => []
noncomputable def zmy : Code := Tryz.f40.body.getD .skip
noncomputable def zA8 : List ResultVar := Tryz.f40.results.toList
def ziD (t0 t4 t7 t56 t57 t58 : AV) : List AV := t0 :: ux 3 (t4 :: ux 2 (t7 :: ux 48 (t56 :: t57 :: t58 :: ux 50 [])))
def zA6 : List Bool := ziC 15
noncomputable def zA4 : Code := zap [1, 0, 1, 0, 1, 1, 1, 1, 1, 0, 1, 1, 0, 1, 0, 0] zmy
def zA3 (K : Kt) : AExit → List AV → zaa → Prop := zaq tP ziC [1, 0, 1, 0, 1, 1, 1, 1, 1, 0, 1, 1, 0, 1, 0] zmy (zax tP zA8 K)
def zsf (t0 t4 t7 t56 t57 t58 : AV) (H : zaa) (K : Kt) : Prop := ALoop tP zA4 (zA3 K) (ziD t0 t4 t7 t56 t57 t58) H
def zf4 (t0 t4 t7 t56 t57 t58 : AV) (H : zaa) (K : Kt) (Kb15 : Lt) : Prop :=
 zac .lss false t58 t57 fun t59 =>
 zag t59
 (zai 2 t56 t58 fun t60 =>
 zad true 2 t60 H fun t61 =>
 zav [(.int .i64 0), .snil] H fun t9 H =>
 zak 2 t9 t61 H fun H =>
 zaf 0 t9 fun t62 =>
 zad false 1 t62 H fun t63 =>
 zac .lss false t63 (.int .i64 0) fun t64 =>
 zab t64 false H (fun K' => zaf 0 t9 (K' · H)) fun t66 H =>
 zab t64 false H (fun K' => zad false 1 t66 H (K' · H)) fun t67 H =>
 zab t64 false H (fun K' => zac .geq false t67 (.int .i64 8) (K' · H)) fun t68 H =>
 zaj t64 (.bool true) t68 fun t69 =>
 zag t69
 (K (.int .i64 (-1)) H)
 (zad true 3 t4 H fun t72 =>
 zaf 0 t9 fun t73 =>
 zad false 1 t73 H fun t74 =>
 ACalls tP zkL [t0, t72, t74] H fun t75 H =>
 zar t75 0 fun t76 =>
 zar t75 1 fun t77 =>
 aUn .not t77 fun t79 =>
 zag t79
 (K (.int .i64 (-1)) H)
 (zaf 1 t9 fun t82 =>
 zad false 1 t82 H fun t83 =>
 ACalls tP zgV [t0, t76, t83] H fun t84 H =>
 zac .lss false t84 (.int .i64 0) fun t86 =>
 zab t86 false H (fun K' => K' t7 H) fun t88 H =>
 zab t86 false H (fun K' => zac .add false t88 (.int .i64 1) (K' · H)) fun t89 H =>
 zab t86 false H (fun K' => K' t84 H) fun t90 H =>
 zab t86 false H (fun K' => zac .add false t89 t90 (K' · H)) fun t91 H =>
 zab t86 false H (fun K' => zac .gtr false t91 (.int .i64 6) (K' · H)) fun t92 H =>
 zaj t86 (.bool true) t92 fun t93 =>
 zag t93
 (K (.int .i64 (-1)) H)
 (zac .add false (.int .i64 1) t84 fun t96 =>
 zac .add false t7 t96 fun t97 =>
 zac .add false t58 (.int .i64 1) fun t98 =>
 Kb15 (ziD t0 t4 t97 t56 t57 t98) H))))
 (K t7 H)
def zcl (t0 t1 t2 : AV) (H : zaa) (K : Kt) : Prop :=
 zas t1 H fun t4 H =>
 zas t2 H fun t5 H =>
 zaf 0 t4 fun t13 =>
 zad false 1 t13 H fun t14 =>
 zac .eql false t14 (.int .i64 6) fun t16 =>
 zag t16
 (zaf 0 t5 fun t17 =>
 zad false 1 t17 H fun t18 =>
 zac .neq false t18 (.int .i64 0) fun t19 =>
 zag t19
 (K (.int .i64 (-1)) H)
 (zaf 2 t4 fun t21 =>
 zad false 1 t21 H fun t22 =>
 zaf 1 t5 fun t23 =>
 zad false 1 t23 H fun t24 =>
 ACalls tP zgV [t0, t22, t24] H fun t25 H =>
 K t25 H))
 (zac .eql false t14 (.int .i64 7) fun t27 =>
 zag t27
 (zaf 0 t5 fun t28 =>
 zad false 1 t28 H fun t29 =>
 zac .lss false t29 (.int .i64 0) fun t30 =>
 zab t30 false H (fun K' => zaf 0 t5 (K' · H)) fun t32 H =>
 zab t30 false H (fun K' => zad false 1 t32 H (K' · H)) fun t33 H =>
 zab t30 false H (fun K' => zac .gtr false t33 (.int .i64 6) (K' · H)) fun t34 H =>
 zaj t30 (.bool true) t34 fun t35 =>
 zab t35 false H (fun K' => zaf 1 t5 (K' · H)) fun t37 H =>
 zab t35 false H (fun K' => zad false 1 t37 H (K' · H)) fun t38 H =>
 zab t35 false H (fun K' => zah 1 t38 (K' · H)) fun t39 H =>
 zab t35 false H (fun K' => zac .gtr false t39 (.int .i64 0) (K' · H)) fun t40 H =>
 zaj t35 (.bool true) t40 fun t41 =>
 zag t41
 (K (.int .i64 (-1)) H)
 (zaf 0 t5 fun t42 =>
 zad false 1 t42 H fun t43 =>
 K t43 H))
 (zac .eql false t14 (.int .i64 5) fun t45 =>
 zag t45
 (zaf 0 t5 fun t46 =>
 zad false 1 t46 H fun t47 =>
 zac .neq false t47 (.int .i64 0) fun t48 =>
 zab t48 false H (fun K' => zaf 1 t5 (K' · H)) fun t50 H =>
 zab t48 false H (fun K' => zad false 1 t50 H (K' · H)) fun t51 H =>
 zab t48 false H (fun K' => zah 1 t51 (K' · H)) fun t52 H =>
 zab t48 false H (fun K' => zac .gtr false t52 (.int .i64 6) (K' · H)) fun t53 H =>
 zaj t48 (.bool true) t53 fun t54 =>
 zag t54
 (K (.int .i64 (-1)) H)
 (zaf 1 t5 fun t55 =>
 zad false 1 t55 H fun t56 =>
 zah 1 t56 fun t57 =>
 zsf t0 t4 (.int .i64 0) t56 t57 (.int .i64 0) H K))
 (zaf 0 t5 fun t100 =>
 zad false 1 t100 H fun t101 =>
 zac .neq false t101 (.int .i64 0) fun t102 =>
 zab t102 false H (fun K' => zaf 1 t5 (K' · H)) fun t104 H =>
 zab t102 false H (fun K' => zad false 1 t104 H (K' · H)) fun t105 H =>
 zab t102 false H (fun K' => zah 1 t105 (K' · H)) fun t106 H =>
 zab t102 false H (fun K' => zac .gtr false t106 (.int .i64 0) (K' · H)) fun t107 H =>
 zaj t102 (.bool true) t107 fun t108 =>
 zag t108
 (K (.int .i64 (-1)) H)
 (K (.int .i64 0) H))))
theorem zA5 {t0 t4 t7 t56 t57 t58 : AV} {H : zaa} {K : Kt} (Inv : Nat → AV → AV → zaa → Prop) (n : Nat) (h0 : HSc H → Inv n t7 t58 H)
  (round : Rd2 (fun t7 => fun t58 => ziD t0 t4 t7 t56 t57 t58) (fun t7 => fun t58 => fun H Kb15 => zf4 t0 t4 t7 t56 t57 t58 H K Kb15) H Inv) : zsf t0 t4 t7 t56 t57 t58 H K :=
 lp2 (M := ziC) zA6 t7 t58 (by kernel_rfl) Inv n h0 round
theorem zA7 {t0 t1 t2 : AV} {H : zaa} {K : Kt} (h : HSc H → zcl t0 t1 t2 H K) : ACalls tP zgK [t0, t1, t2] H K :=
 zao (M := ziC) Tryz.func40 (c := zmy) (by kernel_rfl) (fun hs => Eq.mpr (by kernel_rfl) (h hs))
def zjw : Nat → List Bool
 | 5 => rl false [0,1,1,1,5,1,9,3,23]
 | _ => []
noncomputable def zns : Code := Tryz.f87.body.getD .skip
noncomputable def zD6 : List ResultVar := Tryz.f87.results.toList
def zjx (t0 t2 t8 t18 t19 t20 : AV) : List AV := t0 :: ux 1 (t2 :: ux 5 (t8 :: ux 9 (t18 :: t19 :: t20 :: ux 23 [])))
def zD4 : List Bool := zjw 5
noncomputable def zD2 : Code := zap [1, 1, 1, 0, 1, 0, 0] zns
def zD1 (K : Kt) : AExit → List AV → zaa → Prop := zaq tP zjw [1, 1, 1, 0, 1, 0] zns (zax tP zD6 K)
def zs7 (t0 t2 t8 t18 t19 t20 : AV) (H : zaa) (K : Kt) : Prop := ALoop tP zD2 (zD1 K) (zjx t0 t2 t8 t18 t19 t20) H
def znr (t0 t2 t8 t18 t19 t20 : AV) (H : zaa) (K : Kt) (Kb5 : Lt) : Prop :=
 zac .lss false t20 t19 fun t21 =>
 zag t21
 (zai 3 t18 t20 fun t23 =>
 zad true 3 t23 H fun t24 =>
 zav [(.int .i64 0), (.int .i64 0), .snil] H fun t10 H =>
 zak 3 t10 t24 H fun H =>
 zae H (fun K' => K' t0 H) fun t26 =>
 zae H (fun K' => zam true 3 t10 H (K' · H)) fun t27 =>
 zae H (fun K' => K' t2 H) fun t28 =>
 zae H (fun K' => K' t20 H) fun t29 =>
 zae H (fun K' => zai 2 t28 t29 (K' · H)) fun t30 =>
 zae H (fun K' => zam true 2 t30 H (K' · H)) fun t31 =>
 zbq H (fun H K' => ACalls tP zgX [t26, t27, t31] H K') fun t32 =>
 zae H (fun K' => K' t32 H) fun t25 =>
 zae H (fun K' => zar t25 0 (K' · H)) fun t33 =>
 zae H (fun K' => zar t25 1 (K' · H)) fun t34 =>
 zae H (fun K' => K' t33 H) fun t11 =>
 zae H (fun K' => K' t34 H) fun t12 =>
 aUn .not t12 fun t36 =>
 zag t36
 (zau [(.int .i64 0), (.bool false)] (K · H))
 (zac .add false t8 t11 fun t39 =>
 zac .add false t20 (.int .i64 1) fun t40 =>
 Kb5 (zjx t0 t2 t39 t18 t19 t40) H))
 (zac .leq false t8 (.int .i64 6) fun t43 =>
 zau [t8, t43] (K · H))
def znq (t0 t1 t2 : AV) (H : zaa) (K : Kt) : Prop :=
 zah 1 t1 fun t14 =>
 zah 1 t2 fun t16 =>
 zac .neq false t14 t16 fun t17 =>
 zag t17
 (zau [(.int .i64 0), (.bool false)] (K · H))
 (zah 1 t1 fun t19 =>
 zs7 t0 t2 (.int .i64 0) t1 t19 (.int .i64 0) H K)
theorem zD3 {t0 t2 t8 t18 t19 t20 : AV} {H : zaa} {K : Kt} (Inv : Nat → AV → AV → zaa → Prop) (n : Nat) (h0 : HSc H → Inv n t8 t20 H)
  (round : Rd2 (fun t8 => fun t20 => zjx t0 t2 t8 t18 t19 t20) (fun t8 => fun t20 => fun H Kb5 => znr t0 t2 t8 t18 t19 t20 H K Kb5) H Inv) : zs7 t0 t2 t8 t18 t19 t20 H K :=
 lp2 (M := zjw) zD4 t8 t20 (by kernel_rfl) Inv n h0 round
theorem zD5 {t0 t1 t2 : AV} {H : zaa} {K : Kt} (h : HSc H → znq t0 t1 t2 H K) : ACalls tP zg3 [t0, t1, t2] H K :=
 zao (M := zjw) Tryz.func87 (c := zns) (by kernel_rfl) (fun hs => Eq.mpr (by kernel_rfl) (h hs))
def zjy : Nat → List Bool
 | 6 => rl false [8,1,1,1,15,3,15]
 | _ => []
noncomputable def znu : Code := Tryz.f88.body.getD .skip
noncomputable def zEc : List ResultVar := Tryz.f88.results.toList
def zjz (t8 t10 t26 t27 t28 : AV) : List AV := ux 8 (t8 :: ux 1 (t10 :: ux 15 (t26 :: t27 :: t28 :: ux 15 [])))
def zEa : List Bool := zjy 6
noncomputable def zD8 : Code := zap [1, 1, 1, 1, 0, 1, 0, 0] znu
def zD7 (K : Kt) : AExit → List AV → zaa → Prop := zaq tP zjy [1, 1, 1, 1, 0, 1, 0] znu (zax tP zEc K)
def zjB (t8 t10 t26 t27 t28 : AV) (H : zaa) (K : Kt) : Prop := ALoop tP zD8 (zD7 K) (zjz t8 t10 t26 t27 t28) H
def zta (t8 t10 t26 t27 t28 : AV) (H : zaa) (K : Kt) (Kb6 : Lt) : Prop :=
 zac .add false t28 (.int .i64 1) fun t42 =>
 Kb6 (zjz t8 t10 t26 t27 t42) H
def zjA (t8 t10 t26 t27 t28 : AV) (H : zaa) (K : Kt) (Kb6 : Lt) : Prop :=
 zta t8 t10 t26 t27 t28 H K Kb6
def znt (t8 t10 t26 t27 t28 : AV) (H : zaa) (K : Kt) (Kb6 : Lt) : Prop :=
 zac .lss false t28 t27 fun t29 =>
 zag t29
 (zai 1 t26 t28 fun t31 =>
 zad false 1 t31 H fun t32 =>
 aUn .not t32 fun t34 =>
 zag t34
 (zai 3 t8 t28 fun t38 =>
 zad true 3 t38 H fun t39 =>
 zay 3 [(.int .i64 0), (.int .i64 0), .snil] 1 [(0, t39)] fun t40 =>
 zat zaQ 3 40 t10 t40 H fun t41 H =>
 zjA t8 t41 t26 t27 t28 H K Kb6)
 (zjA t8 t10 t26 t27 t28 H K Kb6))
 (zau [t10, (.bool true)] (K · H))
def zs9 (t0 t1 t2 : AV) (H : zaa) (K : Kt) : Prop :=
 zas t1 H fun t4 H =>
 zad true 3 t4 H fun t15 =>
 ACalls tP zeD [t0, t15, t2] H fun t17 H =>
 zar t17 0 fun t18 =>
 zar t17 1 fun t19 =>
 aUn .not t19 fun t21 =>
 zag t21
 (zau [.snil, (.bool false)] (K · H))
 (zaf 1 t4 fun t23 =>
 zad false 1 t23 H fun t24 =>
 ACalls tP zcD [t0, t24, t2] H fun t26 H =>
 zah 1 t26 fun t27 =>
 zjB t18 .snil t26 t27 (.int .i64 0) H K)
theorem zD9 {t8 t10 t26 t27 t28 : AV} {H : zaa} {K : Kt} (Inv : Nat → AV → AV → zaa → Prop) (n : Nat) (h0 : HSc H → Inv n t10 t28 H)
  (round : Rd2 (fun t10 => fun t28 => zjz t8 t10 t26 t27 t28) (fun t10 => fun t28 => fun H Kb6 => znt t8 t10 t26 t27 t28 H K Kb6) H Inv) : zjB t8 t10 t26 t27 t28 H K :=
 lp2 (M := zjy) zEa t10 t28 (by kernel_rfl) Inv n h0 round
theorem zEb {t0 t1 t2 : AV} {H : zaa} {K : Kt} (h : HSc H → zs9 t0 t1 t2 H K) : ACalls tP zkO [t0, t1, t2] H K :=
 zao (M := zjy) Tryz.func88 (c := znu) (by kernel_rfl) (fun hs => Eq.mpr (by kernel_rfl) (h hs))
def zje : Nat → List Bool
 | 7 => rl false [8,1,4,1,19,3,12]
 | _ => []
noncomputable def znc : Code := Tryz.f66.body.getD .skip
noncomputable def zC1 : List ResultVar := Tryz.f66.results.toList
def zjf (t8 t13 t33 t34 t35 : AV) : List AV := ux 8 (t8 :: ux 4 (t13 :: ux 19 (t33 :: t34 :: t35 :: ux 12 [])))
def zCZ : List Bool := zje 7
noncomputable def zCX : Code := zap [1, 1, 1, 1, 1, 0, 1, 0, 0] znc
def zCW (K : Kt) : AExit → List AV → zaa → Prop := zaq tP zje [1, 1, 1, 1, 1, 0, 1, 0] znc (zax tP zC1 K)
def zjg (t8 t13 t33 t34 t35 : AV) (H : zaa) (K : Kt) : Prop := ALoop tP zCX (zCW K) (zjf t8 t13 t33 t34 t35) H
def znb (t8 t13 t33 t34 t35 : AV) (H : zaa) (K : Kt) (Kb7 : Lt) : Prop :=
 zac .lss false t35 t34 fun t36 =>
 zag t36
 (zai 1 t33 t35 fun t37 =>
 zad false 1 t37 H fun t38 =>
 zai 3 t8 t38 fun t42 =>
 zad true 3 t42 H fun t43 =>
 zay 3 [(.int .i64 0), (.int .i64 0), .snil] 1 [(0, t43)] fun t44 =>
 zat zaQ 3 40 t13 t44 H fun t45 H =>
 zac .add false t35 (.int .i64 1) fun t46 =>
 Kb7 (zjf t8 t45 t33 t34 t46) H)
 (zau [t13, (.bool true)] (K · H))
def zsN (t0 t1 t2 : AV) (H : zaa) (K : Kt) : Prop :=
 zas t1 H fun t4 H =>
 zad true 3 t4 H fun t18 =>
 ACalls tP zfw [t0, t18, t2] H fun t20 H =>
 zar t20 0 fun t21 =>
 zar t20 1 fun t22 =>
 aUn .not t22 fun t24 =>
 zag t24
 (zau [.snil, (.bool false)] (K · H))
 (zad true 3 t4 H fun t27 =>
 ACalls tP zgY [t0, t27, t2] H fun t29 H =>
 zar t29 0 fun t30 =>
 zar t29 1 fun t31 =>
 zar t29 2 fun t32 =>
 zah 1 t30 fun t34 =>
 zjg t21 .snil t30 t34 (.int .i64 0) H K)
theorem zCY {t8 t13 t33 t34 t35 : AV} {H : zaa} {K : Kt} (Inv : Nat → AV → AV → zaa → Prop) (n : Nat) (h0 : HSc H → Inv n t13 t35 H)
  (round : Rd2 (fun t13 => fun t35 => zjf t8 t13 t33 t34 t35) (fun t13 => fun t35 => fun H Kb7 => znb t8 t13 t33 t34 t35 H K Kb7) H Inv) : zjg t8 t13 t33 t34 t35 H K :=
 lp2 (M := zje) zCZ t13 t35 (by kernel_rfl) Inv n h0 round
theorem zC0 {t0 t1 t2 : AV} {H : zaa} {K : Kt} (h : HSc H → zsN t0 t1 t2 H K) : ACalls tP zkL [t0, t1, t2] H K :=
 zao (M := zje) Tryz.func66 (c := znc) (by kernel_rfl) (fun hs => Eq.mpr (by kernel_rfl) (h hs))
def zjl : Nat → List Bool
 | 6 => rl false [11,2,15,3,16]
 | _ => []
noncomputable def znh : Code := Tryz.f69.body.getD .skip
noncomputable def zDl : List ResultVar := Tryz.f69.results.toList
def zjn (t11 t12 t28 t29 t30 : AV) : List AV := ux 11 (t11 :: t12 :: ux 15 (t28 :: t29 :: t30 :: ux 16 []))
def zDj : List Bool := zjl 6
noncomputable def zDh : Code := zap [1, 1, 1, 0, 1, 0, 0] znh
def zDg (K : Kt) : AExit → List AV → zaa → Prop := zaq tP zjl [1, 1, 1, 0, 1, 0] znh (zax tP zDl K)
def zjp (t11 t12 t28 t29 t30 : AV) (H : zaa) (K : Kt) : Prop := ALoop tP zDh (zDg K) (zjn t11 t12 t28 t29 t30) H
def zsS (t11 t12 t28 t29 t30 : AV) (H : zaa) (K : Kt) (Kb6 : Lt) : Prop :=
 zac .add false t30 (.int .i64 1) fun t44 =>
 Kb6 (zjn t11 t12 t28 t29 t44) H
def zjo (t11 t12 t28 t29 t30 : AV) (H : zaa) (K : Kt) (Kb6 : Lt) : Prop :=
 zsS t11 t12 t28 t29 t30 H K Kb6
def zjm (t11 t12 t28 t29 t30 : AV) (H : zaa) (K : Kt) (Kb6 : Lt) : Prop :=
 zac .lss false t30 t29 fun t31 =>
 zag t31
 (zai 1 t28 t30 fun t33 =>
 zad false 1 t33 H fun t34 =>
 zag t34
 (zay 1 [(.int .i64 0)] 1 [(0, t30)] fun t38 =>
 zat za2 1 8 t12 t38 H fun t39 H =>
 zjo t11 t39 t28 t29 t30 H K Kb6)
 (zay 1 [(.int .i64 0)] 1 [(0, t30)] fun t42 =>
 zat za2 1 8 t11 t42 H fun t43 H =>
 zjo t43 t12 t28 t29 t30 H K Kb6))
 (zau [t11, t12, (.bool true)] (K · H))
def zsR (t0 t1 t2 : AV) (H : zaa) (K : Kt) : Prop :=
 zas t1 H fun t4 H =>
 zad true 3 t4 H fun t17 =>
 ACalls tP zfw [t0, t17, t2] H fun t19 H =>
 zar t19 0 fun t20 =>
 zar t19 1 fun t21 =>
 aUn .not t21 fun t23 =>
 zag t23
 (zau [.snil, .snil, (.bool false)] (K · H))
 (zaf 1 t4 fun t25 =>
 zad false 1 t25 H fun t26 =>
 ACalls tP zdA [t0, t26, t2] H fun t28 H =>
 zah 1 t28 fun t29 =>
 zjp .snil .snil t28 t29 (.int .i64 0) H K)
theorem zDi {t11 t12 t28 t29 t30 : AV} {H : zaa} {K : Kt} (Inv : Nat → AV → AV → AV → zaa → Prop) (n : Nat) (h0 : HSc H → Inv n t11 t12 t30 H)
  (round : Rd3 (fun t11 => fun t12 => fun t30 => zjn t11 t12 t28 t29 t30) (fun t11 => fun t12 => fun t30 => fun H Kb6 => zjm t11 t12 t28 t29 t30 H K Kb6) H Inv) : zjp t11 t12 t28 t29 t30 H K :=
 lp3 (M := zjl) zDj t11 t12 t30 (by kernel_rfl) Inv n h0 round
theorem zDk {t0 t1 t2 : AV} {H : zaa} {K : Kt} (h : HSc H → zsR t0 t1 t2 H K) : ACalls tP zgY [t0, t1, t2] H K :=
 zao (M := zjl) Tryz.func69 (c := znh) (by kernel_rfl) (fun hs => Eq.mpr (by kernel_rfl) (h hs))
def zjc : Nat → List Bool
 | 5 => rl false [0,3,4,1,8,2,25]
 | _ => []
noncomputable def zna : Code := Tryz.f65.body.getD .skip
noncomputable def zCV : List ResultVar := Tryz.f65.results.toList
def zjd (t0 t1 t2 t7 t16 t17 : AV) : List AV := t0 :: t1 :: t2 :: ux 4 (t7 :: ux 8 (t16 :: t17 :: ux 25 []))
def zCT : List Bool := zjc 5
noncomputable def zCR : Code := zap [1, 1, 1, 0, 1, 0, 0] zna
def zCQ (K : Kt) : AExit → List AV → zaa → Prop := zaq tP zjc [1, 1, 1, 0, 1, 0] zna (zax tP zCV K)
def zsL (t0 t1 t2 t7 t16 t17 : AV) (H : zaa) (K : Kt) : Prop := ALoop tP zCR (zCQ K) (zjd t0 t1 t2 t7 t16 t17) H
def zm9 (t0 t1 t2 t7 t16 t17 : AV) (H : zaa) (K : Kt) (Kb5 : Lt) : Prop :=
 zac .lss false t17 t16 fun t18 =>
 zag t18
 (zae H (fun K' => K' t0 H) fun t20 =>
 zae H (fun K' => K' t1 H) fun t21 =>
 zae H (fun K' => K' t17 H) fun t22 =>
 zae H (fun K' => zai 3 t21 t22 (K' · H)) fun t23 =>
 zae H (fun K' => zam true 3 t23 H (K' · H)) fun t24 =>
 zae H (fun K' => K' t2 H) fun t25 =>
 zae H (fun K' => K' t17 H) fun t26 =>
 zae H (fun K' => zai 2 t25 t26 (K' · H)) fun t27 =>
 zae H (fun K' => zam true 2 t27 H (K' · H)) fun t28 =>
 zbq H (fun H K' => ACalls tP zgK [t20, t24, t28] H K') fun t29 =>
 zae H (fun K' => K' t29 H) fun t9 =>
 zac .lss false t9 (.int .i64 0) fun t31 =>
 zab t31 false H (fun K' => K' t7 H) fun t33 H =>
 zab t31 false H (fun K' => K' t9 H) fun t34 H =>
 zab t31 false H (fun K' => zac .add false t33 t34 (K' · H)) fun t35 H =>
 zab t31 false H (fun K' => zac .gtr false t35 (.int .i64 6) (K' · H)) fun t36 H =>
 zaj t31 (.bool true) t36 fun t37 =>
 zag t37
 (K (.int .i64 (-1)) H)
 (zac .add false t7 t9 fun t40 =>
 zac .add false t17 (.int .i64 1) fun t41 =>
 Kb5 (zjd t0 t1 t2 t40 t16 t41) H))
 (K t7 H)
def zm8 (t0 t1 t2 : AV) (H : zaa) (K : Kt) : Prop :=
 zah 1 t1 fun t11 =>
 zah 1 t2 fun t13 =>
 zac .neq false t11 t13 fun t14 =>
 zag t14
 (K (.int .i64 (-1)) H)
 (zah 1 t1 fun t16 =>
 zsL t0 t1 t2 (.int .i64 0) t16 (.int .i64 0) H K)
theorem zCS {t0 t1 t2 t7 t16 t17 : AV} {H : zaa} {K : Kt} (Inv : Nat → AV → AV → zaa → Prop) (n : Nat) (h0 : HSc H → Inv n t7 t17 H)
  (round : Rd2 (fun t7 => fun t17 => zjd t0 t1 t2 t7 t16 t17) (fun t7 => fun t17 => fun H Kb5 => zm9 t0 t1 t2 t7 t16 t17 H K Kb5) H Inv) : zsL t0 t1 t2 t7 t16 t17 H K :=
 lp2 (M := zjc) zCT t7 t17 (by kernel_rfl) Inv n h0 round
theorem zCU {t0 t1 t2 : AV} {H : zaa} {K : Kt} (h : HSc H → zm8 t0 t1 t2 H K) : ACalls tP zgV [t0, t1, t2] H K :=
 zao (M := zjc) Tryz.func65 (c := zna) (by kernel_rfl) (fun hs => Eq.mpr (by kernel_rfl) (h hs))
end Go.Proofs.YtacebbdfgbfgiaaGreat

namespace Go.Proofs.YtacebbdfgbfgiaaGreat
open Go Go.Abs
set_option maxRecDepth 100000
def zjC : Nat → List Bool
 | 5 => rl false [0,2,5,1,32,3,16]
 | _ => []
noncomputable def znw : Code := Tryz.f89.body.getD .skip
noncomputable def zEj : List ResultVar := Tryz.f89.results.toList
def zjD (t0 t1 t7 t40 t41 t42 : AV) : List AV := t0 :: t1 :: ux 5 (t7 :: ux 32 (t40 :: t41 :: t42 :: ux 16 []))
def zEh : List Bool := zjC 5
noncomputable def zEf : Code := zap [1, 1, 1, 0, 1, 0, 0] znw
def zEe (K : Kt) : AExit → List AV → zaa → Prop := zaq tP zjC [1, 1, 1, 0, 1, 0] znw (zax tP zEj K)
def zjE (t0 t1 t7 t40 t41 t42 : AV) (H : zaa) (K : Kt) : Prop := ALoop tP zEf (zEe K) (zjD t0 t1 t7 t40 t41 t42) H
def znv (t0 t1 t7 t40 t41 t42 : AV) (H : zaa) (K : Kt) (Kb5 : Lt) : Prop :=
 zac .lss false t42 t41 fun t43 =>
 zag t43
 (zai 3 t40 t42 fun t44 =>
 zad true 3 t44 H fun t45 =>
 zav [(.int .i64 0), (.int .i64 0), .snil] H fun t9 H =>
 zak 3 t9 t45 H fun H =>
 zae H (fun K' => K' t7 H) fun t46 =>
 zae H (fun K' => zam true 3 t9 H (K' · H)) fun t47 =>
 zae H (fun K' => K' t1 H) fun t48 =>
 zae H (fun K' => K' t0 H) fun t49 =>
 zae H (fun K' => K' t1 H) fun t50 =>
 zae H (fun K' => zai 3 t49 t50 (K' · H)) fun t51 =>
 zae H (fun K' => zaf 1 t51 (K' · H)) fun t52 =>
 zae H (fun K' => zam false 1 t52 H (K' · H)) fun t53 =>
 zbq H (fun H K' => ACalls tP zg1 [t47, t48, t53] H K') fun t54 =>
 zae H (fun K' => zay 1 [(.bool false)] 1 [(0, t54)] (K' · H)) fun t55 =>
 zat zev 1 1 t46 t55 H fun t56 H =>
 zae H (fun K' => K' t56 H) fun t7 =>
 zac .add false t42 (.int .i64 1) fun t57 =>
 Kb5 (zjD t0 t1 t7 t40 t41 t57) H)
 (K t7 H)
def ztb (t0 t1 t2 : AV) (H : zaa) (K : Kt) : Prop :=
 zac .lss false t1 (.int .i64 0) fun t11 =>
 zab t11 false H (fun K' => K' t1 H) fun t13 H =>
 zab t11 false H (fun K' => K' t0 H) fun t14 H =>
 zab t11 false H (fun K' => zah 1 t14 (K' · H)) fun t15 H =>
 zab t11 false H (fun K' => zac .geq false t13 t15 (K' · H)) fun t16 H =>
 zaj t11 (.bool true) t16 fun t17 =>
 zab t17 false H (fun K' => K' t2 H) fun t19 H =>
 zab t17 false H (fun K' => zac .lss false t19 (.int .i64 0) (K' · H)) fun t20 H =>
 zaj t17 (.bool true) t20 fun t21 =>
 zab t21 false H (fun K' => K' t2 H) fun t23 H =>
 zab t21 false H (fun K' => K' t0 H) fun t24 H =>
 zab t21 false H (fun K' => K' t1 H) fun t25 H =>
 zab t21 false H (fun K' => zai 3 t24 t25 (K' · H)) fun t26 H =>
 zab t21 false H (fun K' => zaf 2 t26 (K' · H)) fun t27 H =>
 zab t21 false H (fun K' => zad false 1 t27 H (K' · H)) fun t28 H =>
 zab t21 false H (fun K' => zah 1 t28 (K' · H)) fun t29 H =>
 zab t21 false H (fun K' => zac .geq false t23 t29 (K' · H)) fun t30 H =>
 zaj t21 (.bool true) t30 fun t31 =>
 zag t31
 (K .snil H)
 (zai 3 t0 t1 fun t34 =>
 zaf 2 t34 fun t35 =>
 zad false 1 t35 H fun t36 =>
 zai 2 t36 t2 fun t38 =>
 zaf 1 t38 fun t39 =>
 zad false 1 t39 H fun t40 =>
 zah 1 t40 fun t41 =>
 zjE t0 t1 .snil t40 t41 (.int .i64 0) H K)
theorem zEg {t0 t1 t7 t40 t41 t42 : AV} {H : zaa} {K : Kt} (Inv : Nat → AV → AV → zaa → Prop) (n : Nat) (h0 : HSc H → Inv n t7 t42 H)
  (round : Rd2 (fun t7 => fun t42 => zjD t0 t1 t7 t40 t41 t42) (fun t7 => fun t42 => fun H Kb5 => znv t0 t1 t7 t40 t41 t42 H K Kb5) H Inv) : zjE t0 t1 t7 t40 t41 t42 H K :=
 lp2 (M := zjC) zEh t7 t42 (by kernel_rfl) Inv n h0 round
theorem zEi {t0 t1 t2 : AV} {H : zaa} {K : Kt} (h : HSc H → ztb t0 t1 t2 H K) : ACalls tP zdA [t0, t1, t2] H K :=
 zao (M := zjC) Tryz.func89 (c := znw) (by kernel_rfl) (fun hs => Eq.mpr (by kernel_rfl) (h hs))
end Go.Proofs.YtacebbdfgbfgiaaGreat

namespace Go.Proofs.YtacebbdfgbfgiaaGreat
open Go Go.Abs
set_option maxRecDepth 8000
def za0 (l : List Bool) : List (List AV) := l.map fun b => [.bool b]
theorem ztc (data : List Dat) (d : Nat) (c : Nat) (hd : d < data.length) (hc : c < (data[d]).cons.length) (hl : data.length ≤ 1000000) (hcl : (data[d]).cons.length ≤ 1000000) (hal : ((data[d]).cons[c]).args.length ≤ 1000000)
  (hb : ∀ x ∈ ((data[d]).cons[c]).args, x.nodes ≤ 1000000) (H : zaa) (K : Kt)
  (hK : K (.sl (za0 (zbP d data[d] (data[d]).cons[c])) .none) H) :
  ACalls tP zdA [.sl (data.map Dat.cs) .none, .int .i64 d, .int .i64 c] H K := by
 refine ACalls.out (zEi fun hs => ?_)
 have e1 : (data.map Dat.cs)[d]? = some (data[d]).cs := by simp [hd]
 have e2 : ((data[d]).cons.map Con.cs)[c]? = some ((data[d]).cons[c]).cs := by simp [hc]
 generalize hD : data[d] = D at *
 generalize hA : D.cons[c] = C at *
 have h1 : ¬ (d : Int) < 0 := by omega
 have h2 : ¬ (data.length : Int) ≤ d := by omega
 have h3 : ¬ (c : Int) < 0 := by omega
 have h4 : ¬ (D.cons.length : Int) ≤ c := by omega
 simp [ztb, h1, h2, h3, h4, e1, e2, Dat.cs, Con.cs, hd, hD, hc, hA]
 unfold zjE
 refine ALoop.own 7 zev 1 rfl ?_
 show zjE (.sl (data.map Dat.cs) .none) (.int .i64 d) (.sl [] (.own H.length)) (.sl (VT.css C.args) .none) (.int .i64 C.args.length) (.int .i64 0) (H ++ [.perm zev 1 0]) (Out H.length K)
 have hperm : ∀ n, HSc (H ++ [.perm zev 1 n]) := fun n => hs.append rfl
 refine zEg (Inv := fun q t7 t42 H' => ∃ i : Nat, i ≤ C.args.length ∧ q = C.args.length - i ∧ t42 = .int .i64 i ∧ t7 = .sl (za0 ((zbP d D C).take i)) (.own H.length) ∧ H' = H ++ [.perm zev 1 i]) C.args.length ?_ ?_
 ·intro _; exact ⟨0, by omega, by omega, rfl, rfl, rfl⟩
 ·rintro q t7 t42 H' ⟨i, hi, rfl, rfl, rfl, rfl⟩ hsc hlen hsF Kb hKb
  have hrl : (zbP d D C).length = C.args.length := by simp [zbP]
  by_cases hlt : i < C.args.length
  ·obtain ⟨x, y, z, hvx, hx, hy, hz⟩ := zbd C.args[i]
   have hnb := hb _ (List.getElem_mem hlt)
   simp [znv, hlt, hvx, Nat.add_assoc, e1, hd, hD, Dat.cs]
   rw [← hvx]
   refine ⟨⟨hx, hy, hz⟩, ?_⟩
   refine zbF (.bool (zbt d D.vars C.args[i])) (fun J => znW _ _ _ hnb _ _ ⟨rfl, rfl⟩) ?_
   simp [zay, zbz, zaD, AV.pd, zat, zaW, zaK, za0]
   have hmin : min i (zbP d D C).length = i := by omega
   rw [hmin]
   refine ⟨rfl, ⟨by omega, by omega⟩, ?_⟩
   rw [zan (by omega) (by omega)]
   have hst : List.take i (List.map (fun b => [AV.bool b]) (zbP d D C)) ++ [[AV.bool (zbt (↑d) D.vars C.args[i])]] = za0 ((zbP d D C).take (i + 1)) := by
    rw [List.take_succ_eq_append_getElem (by omega)]
    simp [za0, zbP]
   rw [hst]
   refine hKb _ _ ⟨C.args.length - (i + 1), by omega, Back.at (J := [.cells C.args[i].cs]) (H2 := H ++ [.perm zev 1 (i + 1)]) (by simp) (by simp) (hperm _) ?_ ⟨_, _, rfl, i + 1, by omega, rfl, by simp, rfl, rfl⟩⟩
   simp [zjD, AV.sc, AV.scV, AV.scA, AV.scB]
  ·obtain rfl : i = C.args.length := by omega
   rw [List.take_of_length_le (by omega)]
   simp [znv]
   exact Out.at rfl (Nat.le_refl _) hs (.atom (.sl _ _)) rfl (by simp [za0, AV.scV, AV.scA, AV.scB]) hK
end Go.Proofs.YtacebbdfgbfgiaaGreat
