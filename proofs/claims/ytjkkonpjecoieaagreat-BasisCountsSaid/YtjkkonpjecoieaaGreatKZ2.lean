import Derived.Test.YtjkkonpjecoieaaGreatKNum
import Derived.Test.YtjkkonpjecoieaaGreatProg
import Derived.KernelRfl
import Derived.Test.YtjkkonpjecoieaaGreatAbsQ1
import Derived.Test.YtjkkonpjecoieaaGreatKGB7
import Derived.Test.YtjkkonpjecoieaaGreatKGR7
set_option linter.unusedSimpArgs false
set_option linter.unusedVariables false
namespace Go.Proofs.YtjkkonpjecoieaaGreat
open Go Go.Abs
set_option maxRecDepth 100000
def zD7 (_ : Nat) : List Bool := []
noncomputable def zD8 : Code := Tryz.f20.body.getD .skip
def ztJ (t0 : AV) (H : zaa) (K : Kt) : Prop :=
 zau [(.bool false), .snil, .snil] H fun t2 H =>
 zac .lss false t0 (.int .i64 0) fun t4 =>
 zag t4
 (zac .add false t0 (.int .i64 1) fun t6 =>
 aUn .neg t6 fun t7 =>
 zaP .u64 t7 fun t8 =>
 zac .add false t8 (.int .u64 1) fun t9 =>
 ACalls tP zfC [t9] H fun t10 H =>
 zaB 1 [(.int .u32 0)] 1 [(0, (.int .u32 1))] fun t11 =>
 ACalls tP zeB [(.bool true), t10, t11] H fun t12 H =>
 zak 3 t2 t12 H fun H =>
 zad true 3 t2 H fun r0 =>
 K r0 H)
 (zaP .u64 t0 fun t14 =>
 ACalls tP zfC [t14] H fun t15 H =>
 zaB 1 [(.int .u32 0)] 1 [(0, (.int .u32 1))] fun t16 =>
 ACalls tP zeB [(.bool false), t15, t16] H fun t17 H =>
 zak 3 t2 t17 H fun H =>
 zad true 3 t2 H fun r0 =>
 K r0 H)
theorem zD9 {t0 : AV} {H : zaa} {K : Kt} (h : HSc H → ztJ t0 H K) : ACalls tP zk6 [t0] H K :=
 zam (M := zD7) Tryz.func20 (c := zD8) (by kernel_rfl) (fun hs => Eq.mpr (by kernel_rfl) (h hs))
def zjn : Nat → List Bool
 | 2 => rl false [0,1,2,1,11]
 | _ => []
noncomputable def zn8 : Code := Tryz.f57.body.getD .skip
noncomputable def zHg : List ResultVar := Tryz.f57.results.toList
def zjo (t0 t3 : AV) : List AV := t0 :: ux 2 (t3 :: ux 11 [])
def zHe : List Bool := zjn 2
noncomputable def zHc : Code := zar [1, 1, 0, 0, 0] zn8
def zHb (K : Kt) : AExit → List AV → zaa → Prop := zas tP zjn [1, 1, 0, 0] zn8 (zaw tP zHg K)
def zjp (t0 t3 : AV) (H : zaa) (K : Kt) : Prop := ALoop tP zHc (zHb K) (zjo t0 t3) H
def zn7 (t0 t3 : AV) (H : zaa) (K : Kt) (Kb2 : Lt) : Prop :=
 zac .gtr false t0 (.int .u64 0) fun t5 =>
 zag t5
 (zac .rem false t0 (.int .u64 1000000000) fun t8 =>
 zaP .u32 t8 fun t9 =>
 zaB 1 [(.int .u32 0)] 1 [(0, t9)] fun t10 =>
 zaA zbr 1 4 t3 t10 H fun t11 H =>
 zac .quo false t0 (.int .u64 1000000000) fun t13 =>
 Kb2 (zjo t13 t11) H)
 (K t3 H)
def zuX (t0 : AV) (H : zaa) (K : Kt) : Prop :=
 zjp t0 .snil H K
theorem zHd {t0 t3 : AV} {H : zaa} {K : Kt} (Inv : Nat → AV → AV → zaa → Prop) (n : Nat) (h0 : HSc H → Inv n t0 t3 H)
  (round : Rd2 (fun t0 => fun t3 => zjo t0 t3) (fun t0 => fun t3 => fun H Kb2 => zn7 t0 t3 H K Kb2) H Inv) : zjp t0 t3 H K :=
 lp2 (M := zjn) zHe t0 t3 (by kernel_rfl) Inv n h0 round
theorem zHf {t0 : AV} {H : zaa} {K : Kt} (h : HSc H → zuX t0 H K) : ACalls tP zfC [t0] H K :=
 zam (M := zjn) Tryz.func57 (c := zn8) (by kernel_rfl) (fun hs => Eq.mpr (by kernel_rfl) (h hs))
def zjr : Nat → List Bool
 | 6 => rl false [0,2,3,1,35]
 | _ => []
noncomputable def zn9 : Code := Tryz.f61.body.getD .skip
noncomputable def zHm : List ResultVar := Tryz.f61.results.toList
def zjs (t0 t1 t5 : AV) : List AV := t0 :: t1 :: ux 3 (t5 :: ux 35 [])
def zHk : List Bool := zjr 6
noncomputable def zHi : Code := zar [1, 1, 0, 1, 0, 0] zn9
def zHh (K : Kt) : AExit → List AV → zaa → Prop := zas tP zjr [1, 1, 0, 1, 0] zn9 (zaw tP zHm K)
def zuZ (t0 t1 t5 : AV) (H : zaa) (K : Kt) : Prop := ALoop tP zHi (zHh K) (zjs t0 t1 t5) H
def zf1 (t0 t1 t5 : AV) (H : zaa) (K : Kt) (Kb6 : Lt) : Prop :=
 zac .geq false t5 (.int .i64 0) fun t20 =>
 zag t20
 (zae H (fun K' => K' t0 H) fun t23 =>
 zae H (fun K' => K' t5 H) fun t24 =>
 zae H (fun K' => zaj 1 t23 t24 (K' · H)) fun t25 =>
 zae H (fun K' => zan false 1 t25 H (K' · H)) fun t26 =>
 zae H (fun K' => K' t1 H) fun t27 =>
 zae H (fun K' => K' t5 H) fun t28 =>
 zae H (fun K' => zaj 1 t27 t28 (K' · H)) fun t29 =>
 zae H (fun K' => zan false 1 t29 H (K' · H)) fun t30 =>
 zae H (fun K' => zac .lss false t26 t30 (K' · H)) fun t31 =>
 zag t31
 (K (.int .i64 (-1)) H)
 (zae H (fun K' => K' t0 H) fun t32 =>
 zae H (fun K' => K' t5 H) fun t33 =>
 zae H (fun K' => zaj 1 t32 t33 (K' · H)) fun t34 =>
 zae H (fun K' => zan false 1 t34 H (K' · H)) fun t35 =>
 zae H (fun K' => K' t1 H) fun t36 =>
 zae H (fun K' => K' t5 H) fun t37 =>
 zae H (fun K' => zaj 1 t36 t37 (K' · H)) fun t38 =>
 zae H (fun K' => zan false 1 t38 H (K' · H)) fun t39 =>
 zae H (fun K' => zac .gtr false t35 t39 (K' · H)) fun t40 =>
 zag t40
 (K (.int .i64 1) H)
 (zac .sub false t5 (.int .i64 1) fun t22 =>
 Kb6 (zjs t0 t1 t22) H)))
 (K (.int .i64 0) H)
def zjq (t0 t1 : AV) (H : zaa) (K : Kt) : Prop :=
 zah 1 t0 fun t7 =>
 zah 1 t1 fun t9 =>
 zac .neq false t7 t9 fun t10 =>
 zag t10
 (zah 1 t0 fun t12 =>
 zah 1 t1 fun t14 =>
 zac .lss false t12 t14 fun t15 =>
 zag t15
 (K (.int .i64 (-1)) H)
 (K (.int .i64 1) H))
 (zah 1 t0 fun t17 =>
 zac .sub false t17 (.int .i64 1) fun t18 =>
 zuZ t0 t1 t18 H K)
theorem zHj {t0 t1 t5 : AV} {H : zaa} {K : Kt} (Inv : Nat → AV → zaa → Prop) (n : Nat) (h0 : HSc H → Inv n t5 H)
  (round : Rd1 (fun t5 => zjs t0 t1 t5) (fun t5 => fun H Kb6 => zf1 t0 t1 t5 H K Kb6) H Inv) : zuZ t0 t1 t5 H K :=
 lp1 (M := zjr) zHk t5 (by kernel_rfl) Inv n h0 round
theorem zHl {t0 t1 : AV} {H : zaa} {K : Kt} (h : HSc H → zjq t0 t1 H K) : ACalls tP zlq [t0, t1] H K :=
 zam (M := zjr) Tryz.func61 (c := zn9) (by kernel_rfl) (fun hs => Eq.mpr (by kernel_rfl) (h hs))
def zhv : Nat → List Bool
 | 4 => rl false [0,1,2,3,30]
 | _ => []
noncomputable def zl0 : Code := Tryz.f103.body.getD .skip
noncomputable def zzq : List ResultVar := Tryz.f103.results.toList
def zhx (t0 t3 t4 t5 : AV) : List AV := t0 :: ux 2 (t3 :: t4 :: t5 :: ux 30 [])
def zzo : List Bool := zhv 4
noncomputable def zzm : Code := zar [1, 1, 1, 0, 1, 0, 0] zl0
def zzl (K : Kt) : AExit → List AV → zaa → Prop := zas tP zhv [1, 1, 1, 0, 1, 0] zl0 (zaw tP zzq K)
def zhz (t0 t3 t4 t5 : AV) (H : zaa) (K : Kt) : Prop := ALoop tP zzm (zzl K) (zhx t0 t3 t4 t5) H
def zhy (t3 : AV) (H : zaa) (K : Kt) : Prop :=
 ACalls tP zeu [t3] H fun t35 H =>
 K t35 H
def zhw (t0 t3 t4 t5 : AV) (H : zaa) (K : Kt) (Kb4 : Lt) : Prop :=
 zah 1 t0 fun t8 =>
 zac .lss false t5 t8 fun t9 =>
 zag t9
 (zaj 1 t0 t5 fun t15 =>
 zad false 1 t15 H fun t16 =>
 zaP .u64 t16 fun t17 =>
 zac .add false t4 t17 fun t18 =>
 zac .rem false t18 (.int .u64 1000000000) fun t21 =>
 zaP .u32 t21 fun t22 =>
 zaB 1 [(.int .u32 0)] 1 [(0, t22)] fun t23 =>
 zaA zbr 1 4 t3 t23 H fun t24 H =>
 zac .quo false t18 (.int .u64 1000000000) fun t26 =>
 zac .add false t5 (.int .i64 1) fun t11 =>
 Kb4 (zhx t0 t24 t26 t11) H)
 (zac .gtr false t4 (.int .u64 0) fun t28 =>
 zag t28
 (zaP .u32 t4 fun t31 =>
 zaB 1 [(.int .u32 0)] 1 [(0, t31)] fun t32 =>
 zaA zbr 1 4 t3 t32 H fun t33 H =>
 zhy t33 H K)
 (zhy t3 H K))
def zr9 (t0 : AV) (H : zaa) (K : Kt) : Prop :=
 zhz t0 .snil (.int .u64 0) (.int .i64 0) H K
theorem zzn {t0 t3 t4 t5 : AV} {H : zaa} {K : Kt} (Inv : Nat → AV → AV → AV → zaa → Prop) (n : Nat) (h0 : HSc H → Inv n t3 t4 t5 H)
  (round : Rd3 (fun t3 => fun t4 => fun t5 => zhx t0 t3 t4 t5) (fun t3 => fun t4 => fun t5 => fun H Kb4 => zhw t0 t3 t4 t5 H K Kb4) H Inv) : zhz t0 t3 t4 t5 H K :=
 lp3 (M := zhv) zzo t3 t4 t5 (by kernel_rfl) Inv n h0 round
theorem zzp {t0 : AV} {H : zaa} {K : Kt} (h : HSc H → zr9 t0 H K) : ACalls tP zgw [t0] H K :=
 zam (M := zhv) Tryz.func103 (c := zl0) (by kernel_rfl) (fun hs => Eq.mpr (by kernel_rfl) (h hs))
def zhA : Nat → List Bool
 | 1 => rl false [0,2,17]
 | _ => []
noncomputable def zl2 : Code := Tryz.f104.body.getD .skip
noncomputable def zzw : List ResultVar := Tryz.f104.results.toList
def zhB (t0 t1 : AV) : List AV := t0 :: t1 :: ux 17 []
def zzu : List Bool := zhA 1
noncomputable def zzs : Code := zar [1, 0, 0, 0] zl2
def zzr (K : Kt) : AExit → List AV → zaa → Prop := zas tP zhA [1, 0, 0] zl2 (zaw tP zzw K)
def zsc (t0 t1 : AV) (H : zaa) (K : Kt) : Prop := ALoop tP zzs (zzr K) (zhB t0 t1) H
def zl1 (t0 t1 : AV) (H : zaa) (K : Kt) (Kb1 : Lt) : Prop :=
 zah 1 t1 fun t8 =>
 zac .gtr false t8 (.int .i64 0) fun t9 =>
 zag t9
 (ACalls tP zfr [t0, t1] H fun t13 H =>
 zax t13 0 fun t14 =>
 zax t13 1 fun t15 =>
 Kb1 (zhB t1 t15) H)
 (K t0 H)
def zsb (t0 t1 : AV) (H : zaa) (K : Kt) : Prop :=
 zsc t0 t1 H K
theorem zzt {t0 t1 : AV} {H : zaa} {K : Kt} (Inv : Nat → AV → AV → zaa → Prop) (n : Nat) (h0 : HSc H → Inv n t0 t1 H)
  (round : Rd2 (fun t0 => fun t1 => zhB t0 t1) (fun t0 => fun t1 => fun H Kb1 => zl1 t0 t1 H K Kb1) H Inv) : zsc t0 t1 H K :=
 lp2 (M := zhA) zzu t0 t1 (by kernel_rfl) Inv n h0 round
theorem zzv {t0 t1 : AV} {H : zaa} {K : Kt} (h : HSc H → zsb t0 t1 H K) : ACalls tP zkK [t0, t1] H K :=
 zam (M := zhA) Tryz.func104 (c := zl2) (by kernel_rfl) (fun hs => Eq.mpr (by kernel_rfl) (h hs))
def zhC : Nat → List Bool
 | 2 => rl false [0,1,2,1,18]
 | _ => []
noncomputable def zl5 : Code := Tryz.f106.body.getD .skip
noncomputable def zzJ : List ResultVar := Tryz.f106.results.toList
def zhE (t0 t3 : AV) : List AV := t0 :: ux 2 (t3 :: ux 18 [])
def zzH : List Bool := zhC 2
noncomputable def zzF : Code := zar [1, 1, 0, 0, 0] zl5
def zzE (K : Kt) : AExit → List AV → zaa → Prop := zas tP zhC [1, 1, 0, 0] zl5 (zaw tP zzJ K)
def zsg (t0 t3 : AV) (H : zaa) (K : Kt) : Prop := ALoop tP zzF (zzE K) (zhE t0 t3) H
def zhD (t0 t3 : AV) (H : zaa) (K : Kt) (Kb2 : Lt) : Prop :=
 zac .gtr false t3 (.int .i64 0) fun t7 =>
 zab t7 true H (fun K' => K' t0 H) fun t9 H =>
 zab t7 true H (fun K' => K' t3 H) fun t10 H =>
 zab t7 true H (fun K' => zac .sub false t10 (.int .i64 1) (K' · H)) fun t11 H =>
 zab t7 true H (fun K' => zaj 1 t9 t11 (K' · H)) fun t12 H =>
 zab t7 true H (fun K' => zad false 1 t12 H (K' · H)) fun t13 H =>
 zab t7 true H (fun K' => zac .eql false t13 (.int .u32 0) (K' · H)) fun t14 H =>
 zai t7 t14 (.bool false) fun t15 =>
 zag t15
 (zac .sub false t3 (.int .i64 1) fun t17 =>
 Kb2 (zhE t0 t17) H)
 (zaL 1 1 t0 none (some t3) fun t20 =>
 zaA zbr 1 4 .snil t20 H fun t21 H =>
 K t21 H)
def zsf (t0 : AV) (H : zaa) (K : Kt) : Prop :=
 zah 1 t0 fun t5 =>
 zsg t0 t5 H K
theorem zzG {t0 t3 : AV} {H : zaa} {K : Kt} (Inv : Nat → AV → zaa → Prop) (n : Nat) (h0 : HSc H → Inv n t3 H)
  (round : Rd1 (fun t3 => zhE t0 t3) (fun t3 => fun H Kb2 => zhD t0 t3 H K Kb2) H Inv) : zsg t0 t3 H K :=
 lp1 (M := zhC) zzH t3 (by kernel_rfl) Inv n h0 round
theorem zzI {t0 : AV} {H : zaa} {K : Kt} (h : HSc H → zsf t0 H K) : ACalls tP zeu [t0] H K :=
 zam (M := zhC) Tryz.func106 (c := zl5) (by kernel_rfl) (fun hs => Eq.mpr (by kernel_rfl) (h hs))
def zhY : Nat → List Bool
 | 4 => rl false [0,2,4,3,31]
 | _ => []
noncomputable def zmt : Code := Tryz.f145.body.getD .skip
noncomputable def zBb : List ResultVar := Tryz.f145.results.toList
def zhZ (t0 t1 t6 t7 t8 : AV) : List AV := t0 :: t1 :: ux 4 (t6 :: t7 :: t8 :: ux 31 [])
def zA9 : List Bool := zhY 4
noncomputable def zA7 : Code := zar [1, 1, 1, 0, 1, 0, 0] zmt
def zA6 (K : Kt) : AExit → List AV → zaa → Prop := zas tP zhY [1, 1, 1, 0, 1, 0] zmt (zaw tP zBb K)
def zsH (t0 t1 t6 t7 t8 : AV) (H : zaa) (K : Kt) : Prop := ALoop tP zA7 (zA6 K) (zhZ t0 t1 t6 t7 t8) H
def zms (t0 t1 t6 t7 t8 : AV) (H : zaa) (K : Kt) (Kb4 : Lt) : Prop :=
 zac .geq false t8 (.int .i64 0) fun t16 =>
 zag t16
 (zac .mul false t7 (.int .u64 1000000000) fun t20 =>
 zaj 1 t0 t8 fun t23 =>
 zad false 1 t23 H fun t24 =>
 zaP .u64 t24 fun t25 =>
 zac .add false t20 t25 fun t26 =>
 zac .quo false t26 t1 fun t31 =>
 zaP .u32 t31 fun t32 =>
 zaj 1 t6 t8 fun t33 =>
 zak 1 t33 t32 H fun H =>
 zac .rem false t26 t1 fun t36 =>
 zac .sub false t8 (.int .i64 1) fun t18 =>
 Kb4 (zhZ t0 t1 t6 t36 t18) H)
 (ACalls tP zeu [t6] H fun t38 H =>
 zay [t38, t7] (K · H))
def zsG (t0 t1 : AV) (H : zaa) (K : Kt) : Prop :=
 zah 1 t0 fun t10 =>
 zba 4 [(.int .u32 0)] t10 t10 H fun t11 H =>
 zah 1 t0 fun t13 =>
 zac .sub false t13 (.int .i64 1) fun t14 =>
 zsH t0 t1 t11 (.int .u64 0) t14 H K
theorem zA8 {t0 t1 t6 t7 t8 : AV} {H : zaa} {K : Kt} (Inv : Nat → AV → AV → zaa → Prop) (n : Nat) (h0 : HSc H → Inv n t7 t8 H)
  (round : Rd2 (fun t7 => fun t8 => zhZ t0 t1 t6 t7 t8) (fun t7 => fun t8 => fun H Kb4 => zms t0 t1 t6 t7 t8 H K Kb4) H Inv) : zsH t0 t1 t6 t7 t8 H K :=
 lp2 (M := zhY) zA9 t7 t8 (by kernel_rfl) Inv n h0 round
theorem zBa {t0 t1 : AV} {H : zaa} {K : Kt} (h : HSc H → zsG t0 t1 H K) : ACalls tP zkR [t0, t1] H K :=
 zam (M := zhY) Tryz.func145 (c := zmt) (by kernel_rfl) (fun hs => Eq.mpr (by kernel_rfl) (h hs))
def zG7 (_ : Nat) : List Bool := []
noncomputable def zG8 : Code := Tryz.f56.body.getD .skip
def zjm (t0 t1 t2 t6 : AV) (H : zaa) (K : Kt) : Prop :=
 zav [(.bool false), .snil, .snil] [(0, 1), (1, 1), (2, 1)] [(0, t0), (1, t1), (2, t2)] fun t49 =>
 zak 3 t6 t49 H fun H =>
 zad true 3 t6 H fun r0 =>
 K r0 H
def zuW (t0 t1 t2 : AV) (H : zaa) (K : Kt) : Prop :=
 zau [(.bool false), .snil, .snil] H fun t6 H =>
 ACalls tP zgw [t1] H fun t9 H =>
 ACalls tP zgw [t2] H fun t11 H =>
 zah 1 t9 fun t13 =>
 zac .eql false t13 (.int .i64 0) fun t14 =>
 zab t14 false H (fun K' => K' t11 H) fun t16 H =>
 zab t14 false H (fun K' => zah 1 t16 (K' · H)) fun t17 H =>
 zab t14 false H (fun K' => zac .eql false t17 (.int .i64 0) (K' · H)) fun t18 H =>
 zai t14 (.bool true) t18 fun t19 =>
 zag t19
 (zaB 1 [(.int .u32 0)] 1 [(0, (.int .u32 1))] fun t20 =>
 zav [(.bool false), .snil, .snil] [(0, 1), (1, 1), (2, 1)] [(2, t20)] fun t21 =>
 zak 3 t6 t21 H fun H =>
 zad true 3 t6 H fun r0 =>
 K r0 H)
 (ACalls tP zkK [t9, t11] H fun t24 H =>
 zah 1 t24 fun t26 =>
 zac .neq false t26 (.int .i64 1) fun t27 =>
 zab t27 false H (fun K' => K' t24 H) fun t29 H =>
 zab t27 false H (fun K' => zaj 1 t29 (.int .i64 0) (K' · H)) fun t30 H =>
 zab t27 false H (fun K' => zad false 1 t30 H (K' · H)) fun t31 H =>
 zab t27 false H (fun K' => zac .neq false t31 (.int .u32 1) (K' · H)) fun t32 H =>
 zai t27 (.bool true) t32 fun t33 =>
 zag t33
 (ACalls tP zfr [t9, t24] H fun t37 H =>
 zax t37 0 fun t38 =>
 zax t37 1 fun t39 =>
 ACalls tP zfr [t11, t24] H fun t43 H =>
 zax t43 0 fun t44 =>
 zax t43 1 fun t45 =>
 zjm t0 t38 t44 t6 H K)
 (zjm t0 t9 t11 t6 H K))
theorem zG9 {t0 t1 t2 : AV} {H : zaa} {K : Kt} (h : HSc H → zuW t0 t1 t2 H K) : ACalls tP zeB [t0, t1, t2] H K :=
 zam (M := zG7) Tryz.func56 (c := zG8) (by kernel_rfl) (fun hs => Eq.mpr (by kernel_rfl) (h hs))
def zse : Nat → List Bool
 | 9 => rl false [0,2,6,3,79]
 | 13 => rl false [0,2,6,4,78]
 | 16 => rl false [0,2,6,4,78]
 | _ => []
noncomputable def zl3 : Code := Tryz.f105.body.getD .skip
noncomputable def zzD : List ResultVar := Tryz.f105.results.toList
def zzA (t0 t1 t8 t9 t10 : AV) : List AV := t0 :: t1 :: ux 6 (t8 :: t9 :: t10 :: ux 79 [])
noncomputable def zzz : Code := zar [1, 1, 1, 1, 1, 0, 1, 0, 0] zl3
def zzy (K : Kt) : AExit → List AV → zaa → Prop := zas tP zse [1, 1, 1, 1, 1, 0, 1, 0] zl3 (zaw tP zzD K)
def zzB (t0 t1 t8 t9 t10 : AV) (H : zaa) (K : Kt) : Prop := ALoop tP zzz (zzy K) (zzA t0 t1 t8 t9 t10) H
def zsd (t0 t1 : AV) (H : zaa) (K : Kt) : Prop :=
 ACalls tP zlq [t0, t1] H fun t14 H =>
 zac .lss false t14 (.int .i64 0) fun t15 =>
 zag t15
 (ACalls tP zeu [t0] H fun t17 H =>
 zay [.snil, t17] (K · H))
 (zah 1 t1 fun t19 =>
 zac .eql false t19 (.int .i64 1) fun t20 =>
 zag t20
 (zaj 1 t1 (.int .i64 0) fun t24 =>
 zad false 1 t24 H fun t25 =>
 zaP .u64 t25 fun t26 =>
 ACalls tP zkR [t0, t26] H fun t27 H =>
 zax t27 0 fun t28 =>
 zax t27 1 fun t29 =>
 ACalls tP zfC [t29] H fun t32 H =>
 zay [t28, t32] (K · H))
 (zah 1 t0 fun t34 =>
 zba 4 [(.int .u32 0)] t34 t34 H fun t35 H =>
 zah 1 t0 fun t37 =>
 zac .sub false t37 (.int .i64 1) fun t38 =>
 zzB t0 t1 t35 .snil t38 H K))
theorem zzC {t0 t1 : AV} {H : zaa} {K : Kt} (h : HSc H → zsd t0 t1 H K) : ACalls tP zfr [t0, t1] H K :=
 zam (M := zse) Tryz.func105 (c := zl3) (by kernel_rfl) (fun hs => Eq.mpr (by kernel_rfl) (h hs))
end Go.Proofs.YtjkkonpjecoieaaGreat
namespace Go.Abs
def zao : List Nat → Nat
 | [] => 0
 | x :: l => x + 1000000000 * zao l
def lim (n : Nat) : List Nat := if _h : n = 0 then [] else n % 1000000000 :: lim (n / 1000000000)
termination_by n
decreasing_by exact Nat.div_lt_self (by omega) (by decide)
@[simp] theorem zqa : lim 0 = [] := by rw [lim]; rfl
theorem zb0 {n : Nat} (h : n ≠ 0) : lim n = n % 1000000000 :: lim (n / 1000000000) := by rw [lim, dif_neg h]
theorem zb1 (n : Nat) : zao (lim n) = n := by
 induction n using Nat.strongRecOn with
 | _ n ih =>
  by_cases h : n = 0
  ·subst h; simp [zao]
  ·rw [zb0 h, zao, ih _ (Nat.div_lt_self (by omega) (by decide))]
   exact Nat.mod_add_div n 1000000000
theorem zcu (n : Nat) : ∀ x ∈ lim n, x < 1000000000 := by
 induction n using Nat.strongRecOn with
 | _ n ih =>
  by_cases h : n = 0
  ·subst h; simp
  ·rw [zb0 h]
   intro x hx
   rcases List.mem_cons.1 hx with rfl | hx
   ·exact Nat.mod_lt _ (by decide)
   ·exact ih _ (Nat.div_lt_self (by omega) (by decide)) x hx
theorem lim_nil {n : Nat} : lim n = [] ↔ n = 0 := by
 by_cases h : n = 0
 ·simp [h]
 ·rw [zb0 h]; simp [h]
def zbv : List Nat → List Nat
 | [] => []
 | x :: l => if x = 0 ∧ zbv l = [] then [] else x :: zbv l
theorem zfn : ∀ (a b : List Nat), zao (a ++ b) = zao a + 1000000000 ^ a.length * zao b
 | [], b => by simp [zao]
 | x :: a, b => by
  simp only [List.cons_append, zao, zfn a b, List.length_cons, Nat.pow_succ]
  grind
theorem zeL : ∀ (l : List Nat), (∀ x ∈ l, x < 1000000000) → zbv l = lim (zao l)
 | [], _ => by simp [zbv, zao]
 | x :: l, h => by
  have hx := h x (by simp)
  have ih := zeL l (fun y hy => h y (by simp [hy]))
  rw [zbv, zao, ih]
  have e1 : (x + 1000000000 * zao l) % 1000000000 = x := by rw [Nat.add_mul_mod_self_left, Nat.mod_eq_of_lt hx]
  have e2 : (x + 1000000000 * zao l) / 1000000000 = zao l := by rw [Nat.add_mul_div_left _ _ (by decide), Nat.div_eq_of_lt hx]; omega
  by_cases h0 : x = 0 ∧ lim (zao l) = []
  ·rw [if_pos h0]
   have := lim_nil.1 h0.2
   rw [this, h0.1]; simp
  ·rw [if_neg h0]
   have : x + 1000000000 * zao l ≠ 0 := by
    intro h1
    refine h0 ⟨by omega, lim_nil.2 ?_⟩
    have : 1000000000 * zao l = 0 := by omega
    rcases Nat.mul_eq_zero.1 this with h2 | h2
    ·cases h2
    ·exact h2
   rw [zb0 this, e1, e2]
theorem zdV : ∀ (l : List Nat), (∀ x ∈ l, x < 1000000000) → zao l < 1000000000 ^ l.length
 | [], _ => by simp [zao]
 | x :: l, h => by
  have hx := h x (by simp)
  have ih := zdV l (fun y hy => h y (by simp [hy]))
  simp only [zao, List.length_cons, Nat.pow_succ]
  have : 1000000000 * (zao l + 1) ≤ 1000000000 * 1000000000 ^ l.length := Nat.mul_le_mul_left _ ih
  rw [Nat.mul_comm (1000000000 ^ l.length)]
  rw [Nat.mul_succ] at this
  omega
theorem zbV {n k : Nat} (h : n < 1000000000 ^ k) : (lim n).length ≤ k := by
 induction k generalizing n with
 | zero => have : n = 0 := by simp at h; omega
           subst this; simp
 | succ k ih =>
  by_cases h0 : n = 0
  ·subst h0; simp
  ·rw [zb0 h0, List.length_cons]
   have := ih (n := n / 1000000000) (Nat.div_lt_of_lt_mul (by rw [Nat.pow_succ, Nat.mul_comm] at h; exact h))
   omega
theorem zxc {n : Nat} (h : n ≠ 0) : 1000000000 ^ ((lim n).length - 1) ≤ n := by
 induction n using Nat.strongRecOn with
 | _ n ih =>
  rw [zb0 h, List.length_cons, Nat.add_sub_cancel]
  by_cases h1 : n / 1000000000 = 0
  ·rw [h1]; simp; omega
  ·have := ih (n / 1000000000) (Nat.div_lt_self (by omega) (by decide)) h1
   have hl : 0 < (lim (n / 1000000000)).length := by rw [zb0 h1]; simp
   have e : (lim (n / 1000000000)).length = (lim (n / 1000000000)).length - 1 + 1 := by omega
   rw [e, Nat.pow_succ]
   calc _ ≤ (n / 1000000000) * 1000000000 := Nat.mul_le_mul_right _ this
    _ ≤ n := Nat.div_mul_le_self _ _
theorem zdU {n : Nat} (h0 : n ≠ 0) (h : n < 1000000000) : lim n = [n] := by
 rw [zb0 h0, Nat.mod_eq_of_lt h, Nat.div_eq_of_lt h]; simp
theorem zkG : ∀ (l : List Nat) (j : Nat) (x : Nat) (h : j < l.length), zao (l.set j x) + l[j] * 1000000000 ^ j = zao l + x * 1000000000 ^ j
 | [], j, x, h => by simp at h
 | y :: l, 0, x, h => by simp [zao]; omega
 | y :: l, j + 1, x, h => by
  have := zkG l j x (by simpa using h)
  simp only [List.set_cons_succ, zao, List.getElem_cons_succ, Nat.pow_succ]
  grind
theorem zgu (l : List Nat) (i : Nat) (h : i < l.length) : zao (l.take (i + 1)) = zao (l.take i) + l[i] * 1000000000 ^ i := by
 rw [List.take_succ_eq_append_getElem h, zfn]
 simp [zao, Nat.min_eq_left (Nat.le_of_lt h)]
 exact Nat.mul_comm _ _
theorem zxg (n : Nat) : zao (List.replicate n 0) = 0 := by
 induction n with
 | zero => rfl
 | succ n ih => rw [List.replicate_succ, zao, ih]
theorem zfo (l : List Nat) (i : Nat) (h : i < l.length) : zao (l.drop i) = l[i] + 1000000000 * zao (l.drop (i + 1)) := by
 rw [List.drop_eq_getElem_cons h, zao]
theorem zgr {a b : Nat} (h : (lim a).length < (lim b).length) : a < b := by
 by_cases hb : b = 0
 ·subst hb; simp at h
 ·have h1 := zxc hb
  have h2 := zdV (lim a) (zcu a)
  rw [zb1] at h2
  exact Nat.lt_of_lt_of_le h2 (Nat.le_trans (Nat.pow_le_pow_right (by decide) (by omega)) h1)
end Go.Abs
namespace Go.Abs
open Go Go.RowKit
def zal (l : List Nat) : List (List AV) := l.map fun (n : Nat) => [AV.int .u32 (n : Int)]
@[simp] theorem zNd (l : List Nat) : (zal l).length = l.length := by simp [zal]
theorem zrT (l : List Nat) (n : Nat) : (zal l).take n = zal (l.take n) := by simp [zal, List.map_take]
theorem zNc {l : List Nat} {i : Nat} (h : i < l.length) : (zal l)[i]?.getD [] = [.int .u32 ((l[i] : Nat) : Int)] := by simp [zal, h]
@[simp] theorem zNb {l : List Nat} {i : Nat} (h : i < (zal l).length) : (zal l)[i] = [.int .u32 (((l[i]'(by simpa using h)) : Nat) : Int)] := by simp [zal]
theorem zdf (l : List Nat) : ∀ c ∈ zal l, c.length = 1 := by
 intro c hc
 simp only [zal, List.mem_map] at hc
 obtain ⟨n, _, rfl⟩ := hc
 rfl
theorem zrq {L : List Nat} {n : Nat} (hn : 0 < n) (h : n ≤ L.length) (h0 : L[n - 1] = 0) : zbv (L.take n) = zbv (L.take (n - 1)) := by
 obtain ⟨m, rfl⟩ : ∃ m, n = m + 1 := ⟨n - 1, by omega⟩
 simp only [Nat.add_sub_cancel] at h0 ⊢
 rw [List.take_succ_eq_append_getElem (by omega), h0]
 generalize L.take m = A
 induction A with
 | nil => simp [zbv]
 | cons a A ih => rw [List.cons_append, zbv, zbv, ih]
theorem zrp {L : List Nat} {n : Nat} (hn : 0 < n) (h : n ≤ L.length) (h0 : L[n - 1] ≠ 0) : zbv (L.take n) = L.take n := by
 obtain ⟨m, rfl⟩ : ∃ m, n = m + 1 := ⟨n - 1, by omega⟩
 simp only [Nat.add_sub_cancel] at h0
 rw [List.take_succ_eq_append_getElem (by omega)]
 generalize hx : L[m] = x at h0
 generalize L.take m = A
 induction A with
 | nil => simp [zbv, h0]
 | cons a A ih =>
  rw [List.cons_append, zbv, ih, if_neg]
  rintro ⟨_, h⟩
  simp at h
theorem zd6 {n : Nat} (h : n < 4294967296) : IntKind.u32.wrap (n : Int) = n := IntWalk.u32_in _ ⟨by omega, by omega⟩
theorem zbh {n : Nat} (h : n < 18446744073709551616) : IntKind.u64.wrap (n : Int) = n := IntWalk.u64_in _ ⟨by omega, by omega⟩
theorem zo5 {k : AV → Prop} (b : Bool) (j : IntKind) (m n : Nat) (hn : n ≠ 0) : zac .rem b (.int j m) (.int j n) k = k (.int j ((m % n : Nat) : Int)) := by
 simp only [zbS, ne_eq, Int.natCast_eq_zero, hn, not_false_eq_true, true_and]
 rfl
theorem zo3 {k : AV → Prop} (b : Bool) (j : IntKind) (m n : Nat) (hn : n ≠ 0) : zac .quo b (.int j m) (.int j n) k = k (.int j (j.wrap ((m / n : Nat) : Int))) := by
 simp only [zbS, ne_eq, Int.natCast_eq_zero, hn, not_false_eq_true, true_and]
 rfl
theorem zo4 {k : AV → Prop} (b : Bool) (j : IntKind) (m : Nat) : zac .rem b (.int j m) (.int j 1000000000) k = k (.int j ((m % 1000000000 : Nat) : Int)) := zo5 b j m 1000000000 (by decide)
theorem zvY {k : AV → Prop} (b : Bool) (j : IntKind) (m : Nat) : zac .quo b (.int j m) (.int j 1000000000) k = k (.int j (j.wrap ((m / 1000000000 : Nat) : Int))) := zo3 b j m 1000000000 (by decide)
theorem zo2 {k : AV → Prop} (b : Bool) {m : Nat} (h : m < 18446744073709551616) : zac .quo b (.int .u64 m) (.int .u64 1000000000) k = k (.int .u64 ((m / 1000000000 : Nat) : Int)) := by
 rw [zvY, zbh (by have := Nat.div_le_self m 1000000000; omega)]
theorem zvS {k : AV → Prop} (j : IntKind) {m : Nat} (h : m < 4294967296) : zaP .u32 (.int j m) k = k (.int .u32 m) := by rw [zvT, zd6 h]
theorem zql (m : Nat) : m % 1000000000 < 1000000000 := Nat.mod_lt _ (by decide)
theorem zwM {m : Nat} (h : m ≠ 0) : m / 1000000000 < m := Nat.div_lt_self (by omega) (by decide)
theorem sN (l : List Nat) (x : Nat) : zal l ++ [[AV.int .u32 (x : Int)]] = zal (l ++ [x]) := by simp [zal]
theorem zfe (s : Nat) (h : s < 18446744073709551616) : ∃ x c : Nat, x < 1000000000 ∧ s = x + 1000000000 * c ∧ IntKind.u32.wrap (x : Int) = x ∧
  (∀ (b : Bool) (k : AV → Prop), zac .rem b (.int .u64 s) (.int .u64 1000000000) k = k (.int .u64 x)) ∧ ∀ (b : Bool) (k : AV → Prop), zac .quo b (.int .u64 s) (.int .u64 1000000000) k = k (.int .u64 c) :=
 ⟨s % 1000000000, s / 1000000000, zql s, by omega, zd6 (by omega), fun b k => zo4 b .u64 s, fun b k => zo2 b h⟩
theorem zkr (s d : Nat) (hd : 0 < d) (h : s < 18446744073709551616) : ∃ x c : Nat, x < d ∧ s = x + d * c ∧
  (∀ (b : Bool) (k : AV → Prop), zac .rem b (.int .u64 s) (.int .u64 d) k = k (.int .u64 x)) ∧ ∀ (b : Bool) (k : AV → Prop), zac .quo b (.int .u64 s) (.int .u64 d) k = k (.int .u64 c) :=
 ⟨s % d, s / d, Nat.mod_lt _ hd, (Nat.mod_add_div s d).symm, fun b k => zo5 b .u64 s d (by omega), fun b k => by rw [zo3 b .u64 s d (by omega), zbh (by have := Nat.div_le_self s d; omega)]⟩
theorem wi (i : Nat) (h : i < 1000000000) : IntKind.i64.wrap ((i : Int) + 1) = ((i + 1 : Nat) : Int) := by rw [zaq (by omega) (by omega)]; omega
end Go.Abs
namespace Go.Proofs.YtjkkonpjecoieaaGreat
open Go Go.Abs
set_option maxRecDepth 8000
theorem zl6 (L : List Nat) (hL : L.length ≤ 1000000) (H : zaa) (K : Kt) (hK : K (.sl (zal (zbv L)) .none) H) :
  ACalls tP zeu [.sl (zal L) .none] H K := by
 refine ACalls.out (zzI fun hs => ?_)
 simp [zsf]
 refine zzG (Inv := fun q t3 H' => ∃ n : Nat, n ≤ L.length ∧ n = q ∧ t3 = .int .i64 n ∧ H' = H ∧ zbv L = zbv (L.take n)) L.length ?_ ?_
 ·intro _; exact ⟨L.length, by omega, rfl, by simp, rfl, by simp⟩
 ·rintro q t3 H' ⟨n, hn, rfl, rfl, rfl, hst⟩ hsc' hlen hsF Kb hKb
  have hone : ∀ (l : List Nat) (J : zaa), l = zbv L → Out (List.length H') K (AV.sl (zal l) (Tok.own (List.length H'))) (H' ++ J) := fun l J hl => Out.one hs (.atom (.sl _ _)) rfl rfl (by rw [hl]; exact hK)
  by_cases h0 : n = 0
  ·subst h0
   simp [zhD, zaA, zaV, zaN]
   exact ⟨zdf L, hone [] _ (by simpa [zbv] using hst.symm)⟩
  ·have hw : IntKind.i64.wrap ((n : Int) - 1) = ((n - 1 : Nat) : Int) := by rw [zaq (by omega) (by omega)]; omega
   have hlt : n - 1 < L.length := by omega
   by_cases hz : L[n - 1] = 0
   ·simp [zhD, show 0 < n by omega, hw, hlt, hz]
    exact hKb _ _ ⟨n - 1, by omega, Back.here (by simp) hs (by simp [zhE, AV.sc, AV.scA, AV.scB, AV.scV]) ⟨_, rfl, n - 1, by omega, rfl, rfl, rfl, by rw [hst, zrq (by omega) hn hz]⟩⟩
   ·have hzb : (((L[n - 1] : Nat) : Int) == 0) = false := by simp; omega
    simp [zhD, show 0 < n by omega, hw, hlt, hzb, zaA, zaV, zaN]
    refine ⟨⟨hn, zdf L⟩, fun c hc => zdf L c (List.mem_of_mem_take hc), ⟨by omega, by omega⟩, ?_⟩
    rw [zrT]
    exact hone _ _ (by rw [hst, zrp (by omega) hn hz])
end Go.Proofs.YtjkkonpjecoieaaGreat
namespace Go.Abs
open Go Go.RowKit
variable {P : Program} {B : Nat} {w : World} {G : Gh} {H : zaa}
theorem HRel.frz (h : HRel B w G H) {id : Nat} {cs : List AV} (hH : H[id]? = some (.cells cs)) :
  ∃ G', Ext B w G w G' ∧ HRel B w G' (H.set id .dead) ∧ ∃ b, G.μ[id]? = some (.blk b) ∧ G'.L b = cs.length ∧ ∃ (vs : Array Value) (e : TypeId), w.heap[b]? = some (.cells vs e (0, 0)) ∧ All2 (ARel w G) vs.toList cs := by
 have hlt : id < G.μ.length := by rw [h.len]; exact (List.getElem?_eq_some_iff.1 hH).1
 obtain ⟨gi, hgi⟩ : ∃ gi, G.μ[id]? = some gi := ⟨_, List.getElem?_eq_getElem hlt⟩
 have hok := h.ok id _ _ hH hgi
 cases gi with
 | gap => exact hok.elim
 | own v s n => exact hok.elim
 | blk b =>
  obtain ⟨hB, hL, vs, e, hw, hcs⟩ := hok
  have hl : vs.size = cs.length := by simpa using hcs.length
  have he : Ext B w G w ⟨fun x => if x = b then cs.length else G.L x, G.μ⟩ :=
   ⟨Nat.le_refl _, Below.refl _ _, fun x => by by_cases hx : x = b <;> simp [hx, hL], fun _ _ _ => rfl, fun _ gi h => ⟨gi, h, gi.le_refl⟩⟩
  refine ⟨_, he, ⟨by simp [h.len], ?_, h.dist, fun x hx => ?_, h.lt, h.base⟩, b, hgi, by simp, vs, e, hw, hcs⟩
  ·intro id' ab gi h1 h2
   by_cases hid : id' = id
   ·subst hid
    rw [List.getElem?_set_self (List.getElem?_eq_some_iff.1 hH).1] at h1
    cases h1
    have h2 : G.μ[id']? = some gi := h2
    rw [hgi] at h2
    cases h2
    exact ⟨vs, e, (0, 0), hw, by simp [hl]⟩
   ·rw [List.getElem?_set_ne (fun h => hid h.symm)] at h1
    refine (h.ok id' ab gi h1 h2).keep he (fun x hx => ⟨rfl, ?_⟩)
    have : ¬ x = b := fun hxb => hid (h.dist id' id gi _ b h2 hgi (by rw [hx, hxb]) rfl)
    simp [this]
  ·have := h.lt id _ b hgi rfl
   have h3 : ¬ x = b := by omega
   simp [h3, h.fresh x hx]
inductive FzA (id off len cap : Nat) (es : List (List AV)) : AV → AV → Prop
 | refl (a : AV) : FzA id off len cap es a a
 | ms : FzA id off len cap es (.ms id off len cap) (.sl es .none)
inductive FzT (id off len cap : Nat) (es : List (List AV)) : AV → AV → Prop
 | one {a b : AV} (h : FzA id off len cap es a b) : FzT id off len cap es a b
 | agg {asx bs : List AV} (h : All2 (FzA id off len cap es) asx bs) : FzT id off len cap es (.agg asx) (.agg bs)
theorem FzA.rel {id off len cap size : Nat} {cs : List AV} {es : List (List AV)} (hfit : off + len * size ≤ cs.length)
  (hp : zaz ((cs.drop off).take (len * size)) = some es.flatten) (hlen : es.length = len) (hsz : ∀ c ∈ es, c.length = size) (hcap : len ≤ cap) {G' : Gh} (hE : Ext B w G w G') {b : Nat} (hμ : G.μ[id]? = some (.blk b)) (hLb : G'.L b = cs.length)
  {vs0 : Array Value} {e : TypeId} (hw : w.heap[b]? = some (.cells vs0 e (0, 0))) (hcs : All2 (ARel w G) vs0.toList cs) {v : Value} {a b' : AV} (hab : FzA id off len cap es a b') (hr : ARel w G v a) : ARel w G' v b' := by
 cases hab with
 | refl a => exact hE.arel hr
 | ms =>
  obtain ⟨b2, hb2, rfl⟩ := hr
  rw [hμ] at hb2
  cases hb2
  show DRel w G'.L _ _
  subst hlen
  by_cases hne : es = []
  ·subst hne; exact .slE _ _
  ·have hl := hcs.length
   have hd := zcP ((hcs.drop off).take (es.length * size)) hp
   refine DRel.of_flat_at (zs := (vs0.toList.drop off).take (es.length * size)) hsz hne hcap (by rw [hLb]; exact hfit) (hd.mono fun _ _ => hE.drel) ?_
   intro j u hj
   rw [List.getElem?_take] at hj
   split at hj
   ·simp only [World.cell?, hw]
    simpa using hj
   ·cases hj
theorem zkc {R R' : Value → AV → Prop} {S : AV → AV → Prop} (h : ∀ v a b, S a b → R v a → R' v b) {vs : List Value} {asx bs : List AV} (hr : All2 R vs asx) (hs : All2 S asx bs) : All2 R' vs bs :=
 All2.of_get (hr.length.trans hs.length) fun i x y hx hy => by
  obtain ⟨a, ha, hxa⟩ := All2.get' hr hx
  obtain ⟨y', hy', hay⟩ := All2.get' hs ha
  rw [hy] at hy'
  cases hy'
  exact h _ _ _ hay hxa
theorem ACalls.frz {f : FuncId} {args args' : List AV} {K : Kt} (id off len cap size : Nat) (cs : List AV) (es : List (List AV)) (hH : H[id]? = some (.cells cs)) (hfit : off + len * size ≤ cs.length)
  (hp : zaz ((cs.drop off).take (len * size)) = some es.flatten) (hlen : es.length = len) (hsz : ∀ c ∈ es, c.length = size) (hcap : len ≤ cap) (ha : All2 (FzT id off len cap es) args args')
  (h : ACalls P f args' (H.set id .dead) K) : ACalls P f args H K := by
 intro B w G vs hR hv
 obtain ⟨G', hE, hR', b, hμ, hLb, vs0, e, hw, hcs⟩ := hR.frz hH
 have h1 : ∀ v a b, FzA id off len cap es a b → ARel w G v a → ARel w G' v b := fun v a b' hab hr => FzA.rel hfit hp hlen hsz hcap hE hμ hLb hw hcs hab hr
 have h2 : ∀ v a b, FzT id off len cap es a b → TRel w G v a → TRel w G' v b := by
  intro v a b' hab hr
  cases hab with
  | one hab =>
   cases hab with
   | refl a => exact hE.trel hr
   | ms => exact TRel.of_v (VRel.of_a (h1 _ _ _ .ms hr))
  | agg hab =>
   obtain ⟨us, hu, hr⟩ := hr
   exact ⟨us, hu, zkc h1 hr hab⟩
 refine (h B w G' vs hR' (zkc h2 hv ha)).mono fun e w' ⟨v, r, H', G'', k1, k2, k3, k4, k5⟩ => ⟨v, r, H', G'', k1, hE.trans k2, k3, k4, k5⟩
theorem AWp.frz {c : Code} {Q : AExit → List AV → zaa → Prop} {F : List AV} (id off len cap size : Nat) (cs : List AV) (es : List (List AV)) (id2 : Nat) (cs2 cs2' : List AV) (hH : H[id]? = some (.cells cs)) (hfit : off + len * size ≤ cs.length)
  (hp : zaz ((cs.drop off).take (len * size)) = some es.flatten) (hlen : es.length = len) (hsz : ∀ c ∈ es, c.length = size) (hcap : len ≤ cap) (hne : id ≠ id2) (hH2 : H[id2]? = some (.cells cs2)) (ha : All2 (FzA id off len cap es) cs2 cs2')
  (h : AWp P c Q F ((H.set id .dead).set id2 (.cells cs2'))) : AWp P c Q F H := by
 intro B w G a hR hF hd
 obtain ⟨G', hE, hR', b, hμ, hLb, vs0, e, hw, hcs⟩ := hR.frz hH
 have h1 : ∀ v a b, FzA id off len cap es a b → ARel w G v a → ARel w G' v b := fun v a b' hab hr => FzA.rel hfit hp hlen hsz hcap hE hμ hLb hw hcs hab hr
 have hlt2 : id2 < G.μ.length := by rw [hR.len]; exact (List.getElem?_eq_some_iff.1 hH2).1
 have hH2' : (H.set id .dead)[id2]? = some (.cells cs2) := by rw [List.getElem?_set_ne hne]; exact hH2
 have hR2 : HRel B w G' ((H.set id .dead).set id2 (.cells cs2')) := by
  refine ⟨by simp [hR'.len], ?_, hR'.dist, hR'.fresh, hR'.lt, hR'.base⟩
  intro i ab gi k1 k2
  by_cases hi : i = id2
  ·subst hi
   rw [List.getElem?_set_self (List.getElem?_eq_some_iff.1 hH2').1] at k1
   cases k1
   have hok := hR'.ok i _ _ hH2' k2
   have hgi : G.μ[i]? = some gi := by
    obtain ⟨gi0, hgi0⟩ : ∃ gi0, G.μ[i]? = some gi0 := ⟨_, List.getElem?_eq_getElem hlt2⟩
    have hok0 := hR.ok i _ _ hH2 hgi0
    obtain ⟨gi1, hg1, hle⟩ := hE.ids i gi0 hgi0
    rw [k2] at hg1
    cases hg1
    cases gi0 with
    | blk x => cases gi with
     | blk y => obtain rfl : x = y := hle; exact hgi0
     | own v s n => exact hle.elim
     | gap => exact hle.elim
    | own v s n => exact hok0.elim
    | gap => exact hok0.elim
   have hok0 := hR.ok i _ _ hH2 hgi
   cases gi with
   | blk x =>
    obtain ⟨k3, k4, vs, e', k5, k6⟩ := hok
    obtain ⟨_, _, vs1, e1, k7, k8⟩ := hok0
    rw [k5] at k7
    cases k7
    exact ⟨k3, k4, vs, e', k5, zkc h1 k8 ha⟩
   | own v s n => exact hok.elim
   | gap => exact hok.elim
  ·rw [List.getElem?_set_ne (fun h => hi h.symm)] at k1
   exact hR'.ok i ab gi k1 k2
 refine wp_mono (h B w G' a hR2 (hF.ext hE) hd) fun e a' w' hp => ?_
 obtain ⟨F', H', G'', e', rfl, k1, k2, k3, k4, k5⟩ := hp
 exact ⟨F', H', G'', e', rfl, hE.trans k1, k2, k3, k4, k5⟩
end Go.Abs
namespace Go.Abs
open Go Go.RowKit
variable {P : Program} {B : Nat} {w : World} {G : Gh} {H : zaa}
inductive OutW (H : zaa) (n : Nat) : AV → AV → Prop
 | one {a b : AV} (h : OutV H n a b) : OutW H n a b
 | rows (id e m : Nat) (cs : List AV) (rs : List (List (List AV))) (hid : n ≤ id) (hH : H[id]? = some (.vec e 1 m cs)) (hm : rs.length = m)
   (hall : All2 (OutV H n) cs (rs.map fun r => .sl r .none)) : OutW H n (.ov id m) (.sl (rs.map fun r => [.sl r .none]) .none)
theorem OutW.vrel (hH : HRel B w G H) {n : Nat} {v : Value} {a b : AV} (h : OutW H n a b) (hr : TRel w G v a) : VRel w (G.cut w n) v b := by
 cases h with
 | one h => exact h.vrel hH hr
 | rows id e m cs rs hid hHid hm hall =>
  obtain ⟨⟨a, cap0, rfl, _⟩, v', s0, n', hμ, _, heq⟩ := hr
  obtain ⟨rfl, rfl, ⟨xs, hown, hcs⟩, _⟩ := hH.ok id _ _ hHid hμ
  obtain rfl := heq rfl
  subst hm
  show DRel w (G.cut w n).L _ _
  by_cases hne : rs = []
  ·subst hne; exact .slE _ _
  ·have hown2 := hown
   obtain ⟨hl, hrow⟩ := hown2
   have hd : All2 (DRel w (G.cut w n).L) xs (rs.map fun r => AV.sl r .none) := All2.of_get (hcs.length.trans hall.length) fun i x y hx hy => by
    obtain ⟨a, ha, hxa⟩ := All2.get' hcs hx
    obtain ⟨y', hy', hay⟩ := All2.get' hall ha
    rw [hy] at hy'
    cases hy'
    obtain ⟨r, hr, rfl⟩ : ∃ r, rs[i]? = some r ∧ AV.sl r .none = y := by simpa using hy
    exact hay.vrel hH (TRel.of_v (VRel.of_a hxa))
   rcases hrow with ⟨h1, h2⟩ | ⟨g, cap, cur, h1, h2, h3, h4, h5, h6, h7⟩
   ·cases rs <;> simp_all
   ·simp at h1
    obtain ⟨rfl, rfl⟩ := h1
    obtain ⟨_, _, _, hcell⟩ := zcO hown
    have hfl : ∀ l : List (List (List AV)), (l.map fun r => [AV.sl r .none]).flatten = l.map fun r => AV.sl r .none := by
     intro l
     induction l with
     | nil => rfl
     | cons r l ih => simp [ih]
    have := DRel.of_flat_at (w := w) (L := (G.cut w n).L) (g := g) (off := 0) (size := 1) (cap := cap0) (es := rs.map fun r => [AV.sl r .none]) (zs := xs) (by simp) (by simpa using hne) (by simpa using h4) ?_ (by rw [hfl rs]; exact hd) ?_
    ·simpa using this
    ·have : (G.cut w n).L g = cur.size := by
      simp only [Gh.cut]
      rw [if_pos (cut_dropped.2 ⟨id, _, hid, hμ, rfl⟩), h3]
     rw [this, h6]
     simpa using h4
    ·intro j u hj
     rw [Nat.zero_add, hcell j (by rw [← hl]; exact (List.getElem?_eq_some_iff.1 hj).1)]
     exact hj
inductive OutT2 (H : zaa) (n : Nat) : AV → AV → Prop
 | one {a b : AV} (h : OutW H n a b) : OutT2 H n a b
 | tup {asx bs : List AV} (h : All2 (OutW H n) asx bs) : OutT2 H n (.tup asx) (.tup bs)
def zvM (n : Nat) (K : AV → zaa → Prop) (r : AV) (H' : zaa) : Prop := ∃ r2 H2 J, H' = H2 ++ J ∧ n ≤ H2.length ∧ HSc H2 ∧ OutT2 H' H2.length r r2 ∧ K r2 H2
theorem Out.two {n : Nat} {K : AV → zaa → Prop} {r : AV} (h : Out n K r H) : zvM n K r H := by
 obtain ⟨r2, H2, J, hJ, hn, hsc, ho, hk⟩ := h
 refine ⟨r2, H2, J, hJ, hn, hsc, ?_, hk⟩
 cases ho with
 | one h => exact .one (.one h)
 | tup h => exact .tup (All2.of_get h.length fun i x y hx hy => by
   obtain ⟨y', hy', hay⟩ := All2.get' h hx
   rw [hy] at hy'
   cases hy'
   exact .one hay)
end Go.Abs
namespace Go.Abs
open Go Go.RowKit
variable {P : Program} {B : Nat} {w : World} {G : Gh} {H : zaa}
theorem zxF (h : HRel B w G H) (e size : Nat) : TRel w ⟨G.L, G.μ ++ [.own (.slice none 0 0) size 0]⟩ (.slice none 0 0) (.ov H.length 0) := by
 refine ⟨⟨none, 0, rfl, fun h => absurd h (by omega)⟩, .slice none 0 0, size, 0, ?_, Nat.le_refl _, fun _ => rfl⟩
 rw [← h.len]
 simp
theorem ALoop.vec {c : Code} {Q : AExit → List AV → zaa → Prop} {F : List AV} (i e size : Nat) (hi : F[i]? = some .snil)
  (h : ALoop P c Q (F.set i (.ov H.length 0)) (H ++ [.vec e size 0 []])) : ALoop P c Q F H := by
 intro B w G a hH hF hd
 obtain ⟨hE, hH'⟩ := hH.newVec e size
 have hF' : FRel w ⟨G.L, G.μ ++ [.own (.slice none 0 0) size 0]⟩ a.tmps (F.set i (.ov H.length 0)) := by
  unfold FRel
  obtain ⟨v, h1, h2⟩ := All2.get hF hi
  have h2 : v = .slice none 0 0 := h2
  subst h2
  have hset : a.tmps.toList = a.tmps.toList.set i (.slice none 0 0) := by
   apply List.ext_getElem?
   intro k
   by_cases hk : k = i
   ·subst hk; rw [List.getElem?_set_self (List.getElem?_eq_some_iff.1 h1).1]; exact h1
   ·rw [List.getElem?_set_ne (fun h => hk h.symm)]
  rw [hset]
  exact All2.set i (hF.ext hE) (zxF hH e size)
 refine wp_mono (h B w _ a hH' hF' hd) fun e a' w' hp => ?_
 obtain ⟨F'', H'', G'', e'', rfl, k1, k2, k3, k4, k5⟩ := hp
 exact ⟨F'', H'', G'', e'', rfl, hE.trans k1, k2, k3, k4, k5⟩
theorem zr1 {vs : List Value} : ∀ {cs cs' : List AV}, All2 WkA cs cs' → ∀ {vs : List Value}, All2 (ARel w G) vs cs → All2 (ARel w G) vs cs'
 | [], [], _, _, hv => hv
 | x :: cs, x' :: cs', hw, [], hv => hv.elim
 | x :: cs, x' :: cs', hw, v :: vs, hv => ⟨hw.1.arel hv.1, zr1 (vs := []) hw.2 hv.2⟩
 | [], _ :: _, hw, _, _ => hw.elim
 | _ :: _, [], hw, _, _ => hw.elim
theorem ALoop.reCell {c : Code} {Q : AExit → List AV → zaa → Prop} {F : List AV} {id : Nat} {cs : List AV} (cs' : List AV) (hid : H[id]? = some (.cells cs)) (hw : All2 WkA cs cs') (h : ALoop P c Q F (H.set id (.cells cs'))) : ALoop P c Q F H := by
 intro B w G a hH hF hd
 exact h B w G a (hH.reCell hid fun vs hv => zr1 (vs := []) hw hv) hF hd
theorem HRel.frzV (h : HRel B w G H) {id e size n : Nat} {cs : List AV} (hH : H[id]? = some (.vec e size n cs)) {es : List (List AV)} (hp : zaz cs = some es.flatten) (hlen : es.length = n) (hsz : ∀ c ∈ es, c.length = size) :
  ∃ G', Ext B w G w G' ∧ HRel B w G' (H.set id .dead) ∧ ∀ v, ARel w G v (.ov id n) → DRel w G'.L v (.sl es .none) := by
 have hlt : id < G.μ.length := by rw [h.len]; exact (List.getElem?_eq_some_iff.1 hH).1
 obtain ⟨gi, hgi⟩ : ∃ gi, G.μ[id]? = some gi := ⟨_, List.getElem?_eq_getElem hlt⟩
 have hok := h.ok id _ _ hH hgi
 cases gi with
 | gap => exact hok.elim
 | blk b => exact hok.elim
 | own v0 s0 n0 =>
  obtain ⟨rfl, rfl, ⟨xs, hown, hcs⟩, hL0⟩ := hok
  have hown2 := hown
  obtain ⟨hl, hrow⟩ := hown2
  rcases hrow with ⟨h1, h2⟩ | ⟨g, cap, cur, h1, hB, hw, hcap, hcm, hcz, htk⟩
  ·subst h1
   refine ⟨G, Ext.refl _ _ _, ⟨by simp [h.len], ?_, h.dist, h.fresh, h.lt, h.base⟩, ?_⟩
   ·intro id' ab gi k1 k2
    by_cases hid : id' = id
    ·subst hid
     rw [List.getElem?_set_self (List.getElem?_eq_some_iff.1 hH).1] at k1
     cases k1
     rw [hgi] at k2
     cases k2
     exact fun b hb => by simp [Value.ownBlock] at hb
    ·rw [List.getElem?_set_ne (fun h => hid h.symm)] at k1
     exact h.ok id' ab gi k1 k2
   ·intro v hv
    obtain ⟨⟨a, cap0, rfl, _⟩, v', s', n', hμ, _, heq⟩ := hv
    have hes : es = [] := List.eq_nil_of_length_eq_zero (by omega)
    subst hes
    subst hlen
    exact .slE _ _
  ·subst h1
   have hLg : G.L g = 0 := hL0 g rfl
   have he : Ext B w G w ⟨fun x => if x = g then cur.size else G.L x, G.μ⟩ :=
    ⟨Nat.le_refl _, Below.refl _ _, fun x => by by_cases hx : x = g <;> simp [hx, hLg], fun _ _ _ => rfl, fun _ gi h => ⟨gi, h, gi.le_refl⟩⟩
   refine ⟨_, he, ⟨by simp [h.len], ?_, h.dist, fun x hx => ?_, h.lt, h.base⟩, ?_⟩
   ·intro id' ab gi k1 k2
    by_cases hid : id' = id
    ·subst hid
     rw [List.getElem?_set_self (List.getElem?_eq_some_iff.1 hH).1] at k1
     cases k1
     have k2 : G.μ[id']? = some gi := k2
     rw [hgi] at k2
     cases k2
     intro b hb
     simp [Value.ownBlock] at hb
     subst hb
     exact ⟨cur, e, _, hw, by simp⟩
    ·rw [List.getElem?_set_ne (fun h => hid h.symm)] at k1
     refine (h.ok id' ab gi k1 k2).keep he (fun x hx => ⟨rfl, ?_⟩)
     have : ¬ x = g := fun hxb => hid (h.dist id' id gi _ g k2 hgi (by rw [hx, hxb]) rfl)
     simp [this]
   ·have := h.lt id _ g hgi rfl
    have h3 : ¬ x = g := by omega
    simp [h3, h.fresh x hx]
   ·intro v hv
    obtain ⟨⟨a, cap0, rfl, _⟩, v', s', n', hμ, _, heq⟩ := hv
    rw [hgi] at hμ
    simp only [Option.some.injEq, GI.own.injEq] at hμ
    obtain ⟨rfl, rfl, rfl⟩ := hμ
    have hvv := heq rfl
    simp only [Value.slice.injEq, true_and] at hvv
    obtain ⟨rfl, rfl⟩ := hvv
    subst hlen
    by_cases hes : es = []
    ·subst hes; exact .slE _ _
    ·obtain ⟨_, _, _, hcell⟩ := zcO hown
     refine DRel.of_flat_at (zs := xs) hsz hes hcap ?_ ((zcP hcs hp).mono fun _ _ => he.drel) ?_
     ·simp only [if_true]
      rw [hcz, Nat.zero_add]
      exact Nat.mul_le_mul_right _ hcap
     ·intro j u hj
      rw [Nat.zero_add, hcell j (by rw [← hl]; exact (List.getElem?_eq_some_iff.1 hj).1)]
      exact hj
theorem ACalls.frzV {f : FuncId} {x : AV} {K : Kt} (id e size n : Nat) (cs : List AV) (es : List (List AV)) (hH : H[id]? = some (.vec e size n cs)) (hp : zaz cs = some es.flatten) (hlen : es.length = n) (hsz : ∀ c ∈ es, c.length = size)
  (h : ACalls P f [.agg [x, .sl es .none]] (H.set id .dead) K) : ACalls P f [.agg [x, .ov id n]] H K := by
 intro B w G vs hR hv
 obtain ⟨G', hE, hR', hd⟩ := hR.frzV hH hp hlen hsz
 refine (h B w G' vs hR' ?_).mono fun e w' ⟨v, r, H', G'', k1, k2, k3, k4, k5⟩ => ⟨v, r, H', G'', k1, hE.trans k2, k3, k4, k5⟩
 generalize vs.toList = l at *
 match l, hv with
 | [v], ⟨⟨us, hu, h1⟩, _⟩ =>
  refine ⟨⟨us, hu, ?_⟩, trivial⟩
  generalize us.toList = m at *
  match m, h1 with
  | [a, b], ⟨h2, h3, _⟩ => exact ⟨hE.arel h2, hd b h3, trivial⟩
end Go.Abs
namespace Go.Proofs.YtjkkonpjecoieaaGreat
open Go Go.Abs
set_option maxRecDepth 8000
theorem zuY (n : Nat) (hn : n < 18446744073709551616) (H : zaa) (K : Kt) (hK : K (.sl (zal (lim n)) .none) H) :
  ACalls tP zfC [.int .u64 n] H K := by
 refine ACalls.out (zHf fun hs => ?_)
 unfold zuX zjp
 refine ALoop.own 3 zbr 1 rfl ?_
 show zjp (.int .u64 n) (.sl [] (.own H.length)) (H ++ [.perm zbr 1 0]) (Out H.length K)
 refine zHd (Inv := fun q t0 t3 H' => ∃ (m : Nat) (A : List Nat), m = q ∧ t0 = .int .u64 m ∧ t3 = .sl (zal A) (.own H.length) ∧ lim n = A ++ lim m ∧ m < 18446744073709551616 ∧
  H' = H ++ [.perm zbr 1 A.length]) n ?_ ?_
 ·intro _; exact ⟨n, [], rfl, rfl, rfl, by simp, hn, rfl⟩
 ·rintro q t0 t3 H' ⟨m, A, rfl, rfl, rfl, hA, hm, rfl⟩ hsc' hlen hsF Kb hKb
  by_cases h0 : m = 0
  ·subst h0
   simp [zn7]
   exact Out.one hs (.atom (.sl _ _)) rfl rfl (by simpa [hA] using hK)
  ·have hq := zql m
   have hd := zwM h0
   have hlA : A.length + 1 ≤ 1000 := by
    have h1 := congrArg List.length hA
    have h2 := zbV (n := n) (k := 3) (by omega)
    rw [zb0 h0] at h1
    simp at h1
    omega
   simp only [zn7, zo4, zo2 false hm, zvS .u64 (show m % 1000000000 < 4294967296 by omega)]
   simp [show 0 < m by omega, zaB, zbj, zaz, AV.pd, zaA, zaV, zaN]
   refine ⟨⟨by omega, by omega⟩, ?_⟩
   have e1 : ((m : Int) / 1000000000) = ((m / 1000000000 : Nat) : Int) := rfl
   have e2 : ((m : Int) % 1000000000) = ((m % 1000000000 : Nat) : Int) := rfl
   rw [e1, e2, sN]
   refine hKb _ _ ⟨m / 1000000000, hd, Back.here (by simp) (hs.append (by simp [AB.sc])) (by simp [zjo, ux, AV.sc, AV.scA, AV.scB, AV.scV]) ⟨_, _, rfl, m / 1000000000, A ++ [m % 1000000000], rfl, rfl, rfl, ?_, by omega, by simp⟩⟩
   rw [hA, zb0 h0]; simp
end Go.Proofs.YtjkkonpjecoieaaGreat
namespace Go.Proofs.YtjkkonpjecoieaaGreat
open Go Go.Abs
set_option maxRecDepth 8000
theorem zgt (A : List Nat) (x : Nat) : zao (A ++ [x]) = zao A + 1000000000 ^ A.length * x := by rw [zfn]; simp [zao]
theorem zsa (L : List Nat) (h32 : ∀ x ∈ L, x < 4294967296) (hL : L.length ≤ 100000) (H : zaa) (K : Kt) (hK : K (.sl (zal (lim (zao L))) .none) H) :
  ACalls tP zgw [.sl (zal L) .none] H K := by
 refine ACalls.out (zzp fun hs => ?_)
 unfold zr9 zhz
 refine ALoop.own 3 zbr 1 rfl ?_
 show zhz (.sl (zal L) .none) (.sl [] (.own H.length)) (.int .u64 0) (.int .i64 0) (H ++ [.perm zbr 1 0]) (Out H.length K)
 have hend : ∀ A : List Nat, (∀ x ∈ A, x < 1000000000) → zao A = zao L → A.length ≤ 200000 → zhy (.sl (zal A) (.own H.length)) (H ++ [.perm zbr 1 A.length]) (Out H.length K) := by
  intro A hA he hl
  unfold zhy
  refine ACalls.wk (args' := [.sl (zal A) .none]) (zl6 A (by omega) _ _ ?_) ⟨.atom (.sl _ _), trivial⟩
  rw [zeL A hA, he]
  exact Out.one hs (.atom (.sl _ _)) rfl rfl hK
 refine zzn (Inv := fun q t3 t4 t5 H' => ∃ (i c : Nat) (A : List Nat), i ≤ L.length ∧ L.length - i = q ∧ t5 = .int .i64 i ∧ t4 = .int .u64 c ∧ t3 = .sl (zal A) (.own H.length) ∧ A.length = i ∧ (∀ x ∈ A, x < 1000000000) ∧ c ≤ 5 ∧
  zao A + 1000000000 ^ i * c = zao (L.take i) ∧ H' = H ++ [.perm zbr 1 A.length]) L.length ?_ ?_
 ·intro _; exact ⟨0, 0, [], by omega, rfl, rfl, rfl, rfl, rfl, by simp, by omega, by simp [zao], rfl⟩
 ·rintro q t3 t4 t5 H' ⟨i, c, A, hi, rfl, rfl, rfl, rfl, hAl, hA, hc, hv, rfl⟩ hsc' hlen hsF Kb hKb
  by_cases hlt : i < L.length
  ·have hx := h32 L[i] (List.getElem_mem hlt)
   have w1 : IntKind.u64.wrap ((L[i] : Nat) : Int) = L[i] := zbh (by omega)
   obtain ⟨s, hs1⟩ : ∃ s, s = c + L[i] := ⟨_, rfl⟩
   have w2 : IntKind.u64.wrap ((c : Int) + (L[i] : Nat)) = (s : Int) := by rw [hs1, ← Int.natCast_add]; exact zbh (by omega)
   obtain ⟨x, c', hx1, hx2, hx3, e1, e2⟩ := zfe s (by omega)
   simp only [zhw]
   simp [hlt, w1, w2, e1, e2, hx3, zaB, zbj, zaz, AV.pd, zaA, zaV, zaN, wi i (by omega)]
   refine ⟨⟨by omega, by omega⟩, ?_⟩
   rw [sN]
   refine hKb _ _ ⟨L.length - (i + 1), by omega, Back.here (by simp) (hs.append (by simp [AB.sc])) (by simp [zhx, ux, AV.sc, AV.scA, AV.scB, AV.scV]) ⟨_, _, _, rfl, i + 1, c', A ++ [x], by omega, rfl, rfl, rfl, rfl, by simp [hAl], ?_, by omega, ?_, by simp⟩⟩
   ·intro y hy
    rcases List.mem_append.1 hy with hy | hy
    ·exact hA y hy
    ·simp at hy; omega
   ·rw [zgt, zgu L i hlt, ← hv, hAl, Nat.pow_succ]
    grind
  ·obtain rfl : i = L.length := by omega
   rw [List.take_length] at hv
   by_cases h0 : c = 0
   ·subst h0
    simp [zhw]
    exact hend A hA (by simpa using hv) (by omega)
   ·simp only [zhw]
    simp [show 0 < c by omega, zd6 (show c < 4294967296 by omega), zaB, zbj, zaz, AV.pd, zaA, zaV, zaN]
    refine ⟨⟨by omega, by omega⟩, ?_⟩
    rw [sN]
    have := hend (A ++ [c]) (fun y hy => by
     rcases List.mem_append.1 hy with hy | hy
     ·exact hA y hy
     ·simp at hy; omega) (by rw [zgt, hAl]; exact hv) (by simp; omega)
    simpa using this
theorem zgs {A B : List Nat} (hl : A.length = B.length) (hA : ∀ x ∈ A, x < 1000000000) (i : Nat) (hi : i < A.length) (hd : A.drop (i + 1) = B.drop (i + 1)) (hlt : A[i] < B[i]'(by omega)) : zao A < zao B := by
 have e1 : ∀ (l : List Nat) (h : i < l.length), zao l = zao (l.take i) + 1000000000 ^ i * (l[i] + 1000000000 * zao (l.drop (i + 1))) := by
  intro l h
  conv => lhs; rw [← List.take_append_drop i l, zfn, List.drop_eq_getElem_cons h, zao]
  rw [List.length_take, Nat.min_eq_left (by omega)]
 rw [e1 A hi, e1 B (by omega), hd]
 have h1 := zdV (A.take i) (fun x hx => hA x (List.mem_of_mem_take hx))
 rw [List.length_take, Nat.min_eq_left (by omega)] at h1
 generalize hZ : zao (B.drop (i + 1)) = Z
 generalize A[i] = a at hlt ⊢
 generalize B[i] = b at hlt ⊢
 have h2 : 1000000000 ^ i * (a + 1000000000 * Z + 1) ≤ 1000000000 ^ i * (b + 1000000000 * Z) := Nat.mul_le_mul_left _ (by omega)
 rw [Nat.mul_succ] at h2
 omega
def zbU (a b : Nat) : Int := if a < b then -1 else if b < a then 1 else 0
theorem zHn (a b : Nat) (ha : (lim a).length ≤ 1000) (hb : (lim b).length ≤ 1000) (H : zaa) (K : Kt) (hK : K (.int .i64 (zbU a b)) H) :
  ACalls tP zlq [.sl (zal (lim a)) .none, .sl (zal (lim b)) .none] H K := by
 refine ACalls.out (zHl fun hs => ?_)
 have hO : ∀ r, r = zbU a b → Out H.length K (.int .i64 r) H := fun r hr => Out.int (J := []) (by simp) (Nat.le_refl _) hs (by rw [hr]; exact hK)
 have lA := zcu a
 have lB := zcu b
 have vA := zb1 a
 have vB := zb1 b
 by_cases hne : (lim a).length = (lim b).length
 ·simp [zjq, hne]
  generalize hLA : lim a = A at *
  generalize hLB : lim b = B at *
  have hstart : IntKind.i64.wrap ((B.length : Int) - 1) = (B.length : Int) - 1 := zaq (by omega) (by omega)
  rw [hstart]
  refine zHj (Inv := fun q t5 H' => ∃ i : Nat, i ≤ B.length ∧ i = q ∧ t5 = .int .i64 ((i : Int) - 1) ∧ H' = H ∧ A.drop i = B.drop i) B.length ?_ ?_
  ·intro _; exact ⟨B.length, by omega, rfl, rfl, rfl, by rw [List.drop_of_length_le (by omega), List.drop_of_length_le (by omega)]⟩
  ·rintro q t5 H' ⟨i, hi, rfl, rfl, rfl, hd⟩ hsc' hlen hsF Kb hKb
   by_cases h0 : i = 0
   ·subst h0
    simp [zf1]
    refine hO _ ?_
    simp at hd
    rw [← vA, ← vB, hd]
    simp [zbU]
   ·obtain ⟨j, rfl⟩ : ∃ j, i = j + 1 := ⟨i - 1, by omega⟩
    have hja : j < A.length := by omega
    have hjb : j < B.length := by omega
    have ej : ((j + 1 : Nat) : Int) - 1 = (j : Int) := by omega
    have hstep : IntKind.i64.wrap ((j : Int) - 1) = (j : Int) - 1 := zaq (by omega) (by omega)
    rw [ej]
    rcases Nat.lt_trichotomy A[j] B[j] with h | h | h
    ·have := zgs hne lA j hja hd h
     simp [zf1, hja, hjb, h]
     exact hO _ (by rw [← vA, ← vB]; simp [zbU, this])
    ·simp [zf1, hja, hjb, h, hstep]
     refine hKb _ _ ⟨j, by omega, Back.here (by simp) hs (by simp [zjs, ux, AV.sc, AV.scA, AV.scB, AV.scV]) ⟨_, rfl, j, by omega, rfl, rfl, rfl, ?_⟩⟩
     rw [List.drop_eq_getElem_cons hja, List.drop_eq_getElem_cons hjb, hd, h]
    ·have := zgs hne.symm lB j hjb hd.symm h
     simp [zf1, hja, hjb, h, Nat.le_of_lt h, Nat.not_lt.2 (Nat.le_of_lt h)]
     exact hO _ (by rw [← vA, ← vB]; simp [zbU, this, Nat.not_lt.2 (Nat.le_of_lt this)])
 ·have hnb : (((lim a).length : Int) != ((lim b).length : Int)) = true := by simp; omega
  by_cases hlt : (lim a).length < (lim b).length
  ·have := zgr hlt
   simp [zjq, hnb, hlt]
   exact hO (-1) (by simp [zbU, this])
  ·have := zgr (show (lim b).length < (lim a).length by omega)
   simp [zjq, hnb, hlt]
   exact hO 1 (by simp [zbU, this, Nat.not_lt.2 (Nat.le_of_lt this)])
def us (l : List Nat) : List AV := l.map fun (n : Nat) => AV.int .u32 (n : Int)
@[simp] theorem zNe (l : List Nat) : (us l).length = l.length := by simp [us]
theorem zlU (l : List Nat) : (zal l).flatten = us l := by induction l with
 | nil => rfl
 | cons x l ih => simp only [zal, us, List.map_cons, List.flatten_cons] at ih ⊢; rw [ih]; rfl
theorem zhr : ∀ (l : List Nat), zaz (us l) = some (us l)
 | [] => rfl
 | x :: l => by simp only [us, List.map_cons, zaz, AV.pd]; rw [show zaz (List.map (fun n : Nat => AV.int .u32 (n : Int)) l) = some (us l) from zhr l]; rfl
theorem zy3 (l : List Nat) (i : Nat) (h : i < l.length) : (us l)[i]? = some (.int .u32 ((l[i] : Nat) : Int)) := by simp [us, h]
theorem zrX (l : List Nat) (i x : Nat) (h : i < l.length) : (us l).take i ++ [AV.int .u32 (x : Int)] ++ (us l).drop (i + 1) = us (l.set i x) := by
 simp only [us, ← List.map_take, ← List.map_drop]
 rw [List.set_eq_take_append_cons_drop, if_pos h]
 simp
theorem zlV (n : Nat) : List.replicate n (AV.int .u32 0) = us (List.replicate n 0) := by simp [us]
theorem zvR {k : AV → Prop} (l : List Nat) (i : Nat) (h : i < l.length) : zaY false 1 i (us l) k = k (.int .u32 ((l[i] : Nat) : Int)) := by
 simp [zaY, zy3 l i h]
theorem zwH (L : List Nat) (hL : ∀ x ∈ L, x < 1000000000) (hl : L.length ≤ 100000) {id : Nat} {H : zaa} {K : Kt} (hid : H[id]? = some (.cells (us L))) (hK : K (.sl (zal (lim (zao L))) .none) (H.set id .dead)) :
  ACalls tP zeu [.ms id 0 L.length L.length] H K := by
 refine ACalls.frz id 0 L.length L.length 1 (us L) (zal L) hid (by simp) ?_ (by simp) (zdf L) (Nat.le_refl _) (args' := [.sl (zal L) .none]) ⟨.one .ms, trivial⟩ ?_
 ·rw [List.drop_zero, List.take_of_length_le (by simp), zlU, zhr]
 ·refine zl6 L (by omega) _ _ ?_
  rw [zeL L hL]; exact hK
theorem zqp (L : List Nat) (hL : L.length ≤ 1000000) (H : zaa) (K : Kt) (hK : K (.sl (zal (zbv L)) .none) H) :
  ACalls tP zdX [.sl (zal L) .none] H K := by
 refine ACalls.out (zBv fun hs => ?_)
 simp [zsM]
 refine zBt (Inv := fun q t3 H' => ∃ n : Nat, n ≤ L.length ∧ n = q ∧ t3 = .int .i64 n ∧ H' = H ∧ zbv L = zbv (L.take n)) L.length ?_ ?_
 ·intro _; exact ⟨L.length, by omega, rfl, by simp, rfl, by simp⟩
 ·rintro q t3 H' ⟨n, hn, rfl, rfl, rfl, hst⟩ hsc' hlen hsF Kb hKb
  have hone : ∀ (l : List Nat), l = zbv L → Out (List.length H') K (AV.sl (zal l) .none) H' := fun l hl => Out.one0 hs (.atom (.sl _ _)) rfl rfl (by rw [hl]; exact hK)
  by_cases h0 : n = 0
  ·subst h0
   simp [zh9]
   exact ⟨zdf L, hone [] (by simpa [zbv] using hst.symm)⟩
  ·have hw : IntKind.i64.wrap ((n : Int) - 1) = ((n - 1 : Nat) : Int) := by rw [zaq (by omega) (by omega)]; omega
   have hlt : n - 1 < L.length := by omega
   by_cases hz : L[n - 1] = 0
   ·simp [zh9, show 0 < n by omega, hw, hlt, hz]
    exact hKb _ _ ⟨n - 1, by omega, Back.here (by simp) hs (by simp [zia, AV.sc, AV.scA, AV.scB, AV.scV]) ⟨_, rfl, n - 1, by omega, rfl, rfl, rfl, by rw [hst, zrq (by omega) hn hz]⟩⟩
   ·have hzb : (((L[n - 1] : Nat) : Int) == 0) = false := by simp; omega
    simp [zh9, show 0 < n by omega, hw, hlt, hzb]
    refine ⟨⟨hn, zdf L⟩, ?_⟩
    rw [zrT]
    exact hone _ (by rw [hst, zrp (by omega) hn hz])
theorem zku (n : Nat) (hn : n < 18446744073709551616) (H : zaa) (K : Kt) (hK : K (.sl (zal (lim n)) .none) H) :
  ACalls tP zey [.int .u64 n] H K := by
 refine ACalls.out (zBh fun hs => ?_)
 unfold zsI zh2
 refine ALoop.own 3 zbr 1 rfl ?_
 show zh2 (.int .u64 n) (.sl [] (.own H.length)) (H ++ [.perm zbr 1 0]) (Out H.length K)
 refine zBf (Inv := fun q t0 t3 H' => ∃ (m : Nat) (A : List Nat), m = q ∧ t0 = .int .u64 m ∧ t3 = .sl (zal A) (.own H.length) ∧ lim n = A ++ lim m ∧ m < 18446744073709551616 ∧
  H' = H ++ [.perm zbr 1 A.length]) n ?_ ?_
 ·intro _; exact ⟨n, [], rfl, rfl, rfl, by simp, hn, rfl⟩
 ·rintro q t0 t3 H' ⟨m, A, rfl, rfl, rfl, hA, hm, rfl⟩ hsc' hlen hsF Kb hKb
  by_cases h0 : m = 0
  ·subst h0
   simp [zmu]
   exact Out.one hs (.atom (.sl _ _)) rfl rfl (by simpa [hA] using hK)
  ·have hlA : A.length + 1 ≤ 1000 := by
    have h1 := congrArg List.length hA
    have h2 := zbV (n := n) (k := 3) (by omega)
    rw [zb0 h0] at h1
    simp at h1
    omega
   obtain ⟨x, c, hx1, hx2, hx3, e1, e2⟩ := zfe m hm
   simp only [zmu]
   simp [show 0 < m by omega, e1, e2, hx3, zaB, zbj, zaz, AV.pd, zaA, zaV, zaN]
   refine ⟨⟨by omega, by omega⟩, ?_⟩
   rw [sN]
   refine hKb _ _ ⟨c, by omega, Back.here (by simp) (hs.append (by simp [AB.sc])) (by simp [zh1, ux, AV.sc, AV.scA, AV.scB, AV.scV]) ⟨_, _, rfl, c, A ++ [x], rfl, rfl, rfl, ?_, by omega, by simp⟩⟩
   rw [hA, zb0 h0, show m % 1000000000 = x by omega, show m / 1000000000 = c by omega]; simp
theorem _root_.Go.Abs.ACalls.frzV1 {P : Program} {H : zaa} {f : FuncId} {K : Kt} (id e size n : Nat) (cs : List AV) (es : List (List AV)) (hH : H[id]? = some (.vec e size n cs)) (hp : zaz cs = some es.flatten) (hlen : es.length = n) (hsz : ∀ c ∈ es, c.length = size)
  (h : ACalls P f [.sl es .none] (H.set id .dead) K) : ACalls P f [.ov id n] H K := by
 intro B w G vs hR hv
 obtain ⟨G', hE, hR', hd⟩ := hR.frzV hH hp hlen hsz
 refine (h B w G' vs hR' ?_).mono fun e w' ⟨v, r, H', G'', k1, k2, k3, k4, k5⟩ => ⟨v, r, H', G'', k1, hE.trans k2, k3, k4, k5⟩
 generalize vs.toList = l at *
 match l, hv with
 | [v], ⟨h1, _⟩ => exact ⟨hd v h1, trivial⟩
theorem zyZ (L : List Nat) (hL : ∀ x ∈ L, x < 1000000000) (hl : L.length ≤ 100000) {id : Nat} {H : zaa} {K : Kt} (hid : H[id]? = some (.vec zbr 1 L.length (us L))) (hK : K (.sl (zal (lim (zao L))) .none) (H.set id .dead)) :
  ACalls tP zdX [.ov id L.length] H K := by
 refine ACalls.frzV1 id zbr 1 L.length (us L) (zal L) hid (by rw [zlU, zhr]) (by simp) (zdf L) ?_
 refine zqp L (by omega) _ _ ?_
 rw [zeL L hL]; exact hK
theorem zrF (L : List Nat) (hL : ∀ x ∈ L, x < 1000000000) (hl : L.length ≤ 100000) {id : Nat} {H : zaa} {K : Kt} (hid : H[id]? = some (.cells (us L))) (hK : K (.sl (zal (lim (zao L))) .none) (H.set id .dead)) :
  ACalls tP zdX [.ms id 0 L.length L.length] H K := by
 refine ACalls.frz id 0 L.length L.length 1 (us L) (zal L) hid (by simp) ?_ (by simp) (zdf L) (Nat.le_refl _) (args' := [.sl (zal L) .none]) ⟨.one .ms, trivial⟩ ?_
 ·rw [List.drop_zero, List.take_of_length_le (by simp), zlU, zhr]
 ·refine zqp L (by omega) _ _ ?_
  rw [zeL L hL]; exact hK
theorem zqu (L : List Nat) (h32 : ∀ x ∈ L, x < 4294967296) (hL : L.length ≤ 50000) (H : zaa) (K : Kt) (hK : K (.sl (zal (lim (zao L))) .none) H) :
  ACalls tP zgF [.sl (zal L) .none] H K := by
 refine ACalls.out (zBp fun hs => ?_)
 have hsc : ∀ A : List Nat, HSc (H ++ [.vec zbr 1 A.length (us A)]) := fun A => hs.append (by simp [AB.sc, us, AV.scA, AV.scB])
 simp [zsK, wi L.length (by omega)]
 refine ⟨⟨by omega, by omega, by omega⟩, ?_⟩
 have hend : ∀ A : List Nat, (∀ x ∈ A, x < 1000000000) → zao A = zao L → A.length ≤ 100000 → zh7 (.ov H.length A.length) (H ++ [.vec zbr 1 A.length (us A)]) (Out H.length K) := by
  intro A hA he hl
  unfold zh7
  refine zyZ A hA hl (by simp) ?_
  rw [he]
  simp
  exact Out.one hs (.atom (.sl _ _)) rfl rfl hK
 refine zBn (Inv := fun q t3 t4 t13 H' => ∃ (i c : Nat) (A : List Nat), i ≤ L.length ∧ L.length - i = q ∧ t13 = .int .i64 i ∧ t4 = .int .u64 c ∧ t3 = .ov H.length A.length ∧ A.length = i ∧ (∀ x ∈ A, x < 1000000000) ∧ c ≤ 5 ∧
  zao A + 1000000000 ^ i * c = zao (L.take i) ∧ H' = H ++ [.vec zbr 1 A.length (us A)]) L.length ?_ ?_
 ·intro _; exact ⟨0, 0, [], by omega, rfl, rfl, rfl, rfl, rfl, by simp, by omega, by simp [zao], rfl⟩
 ·rintro q t3 t4 t13 H' ⟨i, c, A, hi, rfl, rfl, rfl, rfl, hAl, hA, hc, hv, rfl⟩ hsc' hlen hsF Kb hKb
  by_cases hlt : i < L.length
  ·have hx := h32 L[i] (List.getElem_mem hlt)
   have w1 : IntKind.u64.wrap ((L[i] : Nat) : Int) = L[i] := zbh (by omega)
   obtain ⟨s, hs1⟩ : ∃ s, s = L[i] + c := ⟨_, rfl⟩
   have w2 : IntKind.u64.wrap (((L[i] : Nat) : Int) + (c : Int)) = (s : Int) := by rw [hs1, ← Int.natCast_add]; exact zbh (by omega)
   obtain ⟨x, c', hx1, hx2, hx3, e1, e2⟩ := zfe s (by omega)
   simp only [zh5]
   simp [hlt, w1, w2, e1, e2, hx3, zaB, zbj, zaz, AV.pd, zaA, zaV, zaN, wi i (by omega)]
   refine ⟨⟨by omega, by omega⟩, ?_⟩
   have e3 : us A ++ [AV.int .u32 (x : Int)] = us (A ++ [x]) := by simp [us]
   rw [e3]
   refine hKb _ _ ⟨L.length - (i + 1), by omega, Back.here (by simp) (by simpa using hsc (A ++ [x])) (by simp [zh6, ux, AV.sc, AV.scA, AV.scB, AV.scV]) ⟨_, _, _, rfl, i + 1, c', A ++ [x], by omega, rfl, rfl, rfl, by simp, by simp [hAl], ?_, by omega, ?_, by simp⟩⟩
   ·intro y hy
    rcases List.mem_append.1 hy with hy | hy
    ·exact hA y hy
    ·simp at hy; omega
   ·rw [zgt, zgu L i hlt, ← hv, hAl, Nat.pow_succ]
    grind
  ·obtain rfl : i = L.length := by omega
   rw [List.take_length] at hv
   by_cases h0 : c = 0
   ·subst h0
    simp [zh5]
    exact hend A hA (by simpa using hv) (by omega)
   ·simp only [zh5]
    simp [show 0 < c by omega, zd6 (show c < 4294967296 by omega), zaB, zbj, zaz, AV.pd, zaA, zaV, zaN]
    refine ⟨⟨by omega, by omega⟩, ?_⟩
    have e3 : us A ++ [AV.int .u32 (c : Int)] = us (A ++ [c]) := by simp [us]
    rw [e3]
    have := hend (A ++ [c]) (fun y hy => by
     rcases List.mem_append.1 hy with hy | hy
     ·exact hA y hy
     ·simp at hy; omega) (by rw [zgt, hAl]; exact hv) (by simp; omega)
    simpa using this
theorem zrZ (O : List Nat) (i x : Nat) (h : i < O.length) : List.take i (us O) ++ AV.int .u32 (x : Int) :: List.drop (i + 1) (us O) = us (O.set i x) := by rw [← zrX O i x h]; simp
theorem zrg {O : List Nat} (hO : ∀ x ∈ O, x < 1000000000) {i x : Nat} (hx : x < 1000000000) : ∀ y ∈ O.set i x, y < 1000000000 := by
 intro y hy
 rcases List.mem_or_eq_of_mem_set hy with hy | rfl
 ·exact hO y hy
 ·exact hx
theorem zxf {O : List Nat} {j : Nat} (h : zao O < 1000000000 ^ j) : O.getD j 0 = 0 := by
 by_cases hj : j < O.length
 ·have e : zao O = zao (O.take j) + 1000000000 ^ j * (O[j] + 1000000000 * zao (O.drop (j + 1))) := by
   conv => lhs; rw [← List.take_append_drop j O, zfn, List.drop_eq_getElem_cons hj, zao]
   rw [List.length_take, Nat.min_eq_left (by omega)]
  rw [List.getD_eq_getElem?_getD, List.getElem?_eq_getElem hj, Option.getD_some]
  refine Nat.eq_zero_of_not_pos fun hp => ?_
  have h2 : 1000000000 ^ j * 1 ≤ 1000000000 ^ j * (O[j] + 1000000000 * zao (O.drop (j + 1))) := Nat.mul_le_mul_left _ (by omega)
  omega
 ·simp [List.getD_eq_getElem?_getD, show O.length ≤ j by omega]
theorem zxj (A B : List Nat) (lA : ∀ x ∈ A, x < 1000000000) (lB : ∀ x ∈ B, x < 1000000000) (ha : A.length ≤ 1000) (hb : B.length ≤ 1000) (H : zaa) (K : Kt)
  (hK : K (.sl (zal (lim (zao A * zao B))) .none) H) :
  ACalls tP zew [.sl (zal A) .none, .sl (zal B) .none] H K := by
 refine ACalls.out (zzX fun hs => ?_)
 by_cases hA0 : A = []
 ·subst hA0
  simp [zhF, zao] at hK ⊢
  exact Out.one0 hs (.atom .snil) rfl rfl (by simpa [zal] using hK)
 by_cases hB0 : B = []
 ·subst hB0
  have hAb : ((A.length : Int) == 0) = false := by
   have : A.length ≠ 0 := fun h => hA0 (List.eq_nil_of_length_eq_zero h)
   generalize A.length = q at this
   simp; omega
  simp [zhF, zao, hAb, hA0] at hK ⊢
  exact Out.one0 hs (.atom .snil) rfl rfl (by simpa [zal] using hK)
 have hAl0 : A.length ≠ 0 := fun h => hA0 (List.eq_nil_of_length_eq_zero h)
 have hBl0 : B.length ≠ 0 := fun h => hB0 (List.eq_nil_of_length_eq_zero h)
 have hAb : ((A.length : Int) == 0) = false := by
  generalize A.length = q at hAl0
  simp; omega
 have hBb : ((B.length : Int) == 0) = false := by
  generalize B.length = q at hBl0
  simp; omega
 have hw : IntKind.i64.wrap ((A.length : Int) + B.length) = ((A.length + B.length : Nat) : Int) := by rw [zaq (by omega) (by omega)]; omega
 simp [zhF, hAb, hBb, hA0, hB0, hw, zba]
 have hN : ((A.length : Int) + B.length).toNat = A.length + B.length := by omega
 rw [hN, zlV]
 refine ⟨⟨by omega, by omega, by omega⟩, ?_⟩
 have hsc : ∀ O : List Nat, HSc (H ++ [.cells (us O)]) := fun O => hs.append (by simp [AB.sc, us, AV.scA, AV.scB])
 have hBlt := zdV B lB
 refine zzU (Inv := fun q t26 H' => ∃ (i : Nat) (O : List Nat), i ≤ A.length ∧ A.length - i = q ∧ t26 = .int .i64 i ∧ O.length = A.length + B.length ∧ (∀ x ∈ O, x < 1000000000) ∧ zao O = zao (A.take i) * zao B ∧ H' = H ++ [.cells (us O)]) A.length ?_ ?_
 ·intro _; exact ⟨0, _, by omega, rfl, rfl, by simp, by simp, by rw [zxg]; simp [zao], rfl⟩
 ·rintro q t26 H' ⟨i, O, hi, rfl, rfl, hOl, hO, hv, rfl⟩ hsc' hlen hsF Kb hKb
  by_cases hlt : i < A.length
  ·have hxa := lA A[i] (List.getElem_mem hlt)
   have hAl := zdV (A.take i) (fun y hy => lA y (List.mem_of_mem_take hy))
   rw [List.length_take, Nat.min_eq_left (by omega)] at hAl
   have hO0 : O.getD (i + B.length) 0 = 0 := by
    refine zxf ?_
    rw [hv, Nat.pow_add]
    exact Nat.mul_lt_mul'' hAl hBlt
   simp [zl8, hlt]
   refine zzV (Inv := fun q t7 t31 H' => ∃ (k c : Nat) (R : List Nat), k ≤ B.length ∧ B.length - k = q ∧ t31 = .int .i64 k ∧ t7 = .int .u64 c ∧ R.length = A.length + B.length ∧ (∀ x ∈ R, x < 1000000000) ∧ c < 1000000000 ∧ R.getD (i + B.length) 0 = 0 ∧
    zao R + c * 1000000000 ^ (i + k) = zao O + A[i] * zao (B.take k) * 1000000000 ^ i ∧ H' = H ++ [.cells (us R)]) B.length ?_ ?_
   ·intro _; exact ⟨0, 0, O, by omega, rfl, rfl, rfl, hOl, hO, by omega, hO0, by simp [zao], rfl⟩
   ·rintro q t7 t31 H' ⟨k, c, R, hk, rfl, rfl, rfl, hRl, hR, hc, hR0, hr, rfl⟩ hsc'' hlen' hsF' Kb2 hKb2
    by_cases hkb : k < B.length
    ·have hik : IntKind.i64.wrap ((i : Int) + k) = ((i + k : Nat) : Int) := by rw [zaq (by omega) (by omega)]; omega
     have hR2 : i + k < R.length := by omega
     have hxb := lB B[k] (List.getElem_mem hkb)
     have hxr := hR R[i + k] (List.getElem_mem hR2)
     have eT : ((i : Int) + k).toNat = i + k := by omega
     have w1 : IntKind.u64.wrap ((R[i + k] : Nat) : Int) = R[i + k] := zbh (by omega)
     have w2 : IntKind.u64.wrap ((A[i] : Nat) : Int) = A[i] := zbh (by omega)
     have w3 : IntKind.u64.wrap ((B[k] : Nat) : Int) = B[k] := zbh (by omega)
     have hmul : A[i] * B[k] ≤ 999999999 * 999999999 := Nat.mul_le_mul (by omega) (by omega)
     obtain ⟨m, hm⟩ : ∃ m, m = A[i] * B[k] := ⟨_, rfl⟩
     have w4 : IntKind.u64.wrap (((A[i] : Nat) : Int) * (B[k] : Nat)) = (m : Int) := by rw [hm, ← Int.natCast_mul]; exact zbh (by omega)
     obtain ⟨s1, hs1⟩ : ∃ s, s = m + R[i + k] := ⟨_, rfl⟩
     have w5 : IntKind.u64.wrap ((m : Int) + (R[i + k] : Nat)) = (s1 : Int) := by rw [hs1, ← Int.natCast_add]; exact zbh (by omega)
     obtain ⟨s, hs2⟩ : ∃ s, s = s1 + c := ⟨_, rfl⟩
     have w6 : IntKind.u64.wrap ((s1 : Int) + (c : Int)) = (s : Int) := by rw [hs2, ← Int.natCast_add]; exact zbh (by omega)
     obtain ⟨x, c', hx1, hx2, hx3, e1, e2⟩ := zfe s (by omega)
     have hnext : Kb2 (zfR (.sl (zal A) .none) (.sl (zal B) .none) (.ms H.length 0 (A.length + B.length) (A.length + B.length)) (.int .i64 i) (.int .u64 c') (.int .i64 A.length) (.int .i64 i) (.int .i64 B.length) (.int .i64 ((k : Int) + 1))) (H ++ [.cells (us (R.set (i + k) x))]) := by
      have hls := zkG R (i + k) x hR2
      have hb1 := zgu B k hkb
      refine hKb2 _ _ ⟨B.length - (k + 1), by omega, Back.here (by simp) (hsc _) (by simp [zfR, ux, AV.sc, AV.scA, AV.scB, AV.scV]) ⟨_, _, rfl, k + 1, c', R.set (i + k) x, by omega, rfl, by simp, rfl, by simp [hRl], zrg hR hx1, ?_, ?_, ?_, rfl⟩⟩
      ·refine Nat.lt_of_not_le fun h => ?_
       have := Nat.mul_le_mul_left 1000000000 h
       omega
      ·rw [List.getD_eq_getElem?_getD, List.getElem?_set_ne (by omega), ← List.getD_eq_getElem?_getD]; exact hR0
      ·rw [hb1, show i + (k + 1) = i + k + 1 by omega, Nat.pow_succ]
       rw [Nat.pow_add] at hr hls ⊢
       rw [hs2, hs1, hm] at hx2
       clear e1 e2 hx3 hKb hKb2 hsc' hsc'' hsF hsF' hBlt hK hs hR0 hO0 w1 w2 w3 w4 w5 w6
       generalize zao (R.set (i + k) x) = vS at *
       generalize R[i + k] = r at *
       generalize A[i] = a at *
       generalize B[k] = b at *
       generalize zao (List.take k B) = T at *
       generalize 1000000000 ^ i = P at *
       generalize 1000000000 ^ k = Q at *
       generalize zao R = vR at *
       generalize zao O = vO at *
       grind
     simp only [zl9]
     simp [hkb, hlt, hik, eT, w1, w2, w3, w4]
     refine ⟨⟨by omega, by omega⟩, ?_⟩
     rw [zvR R _ hR2]
     simp [w1, w5, w6, e1, e2, hx3, hik, eT, wi k (by omega), zrZ R (i + k) x hR2]
     exact ⟨⟨by omega, by omega⟩, by omega, hnext⟩
    ·obtain rfl : k = B.length := by omega
     have hib : IntKind.i64.wrap ((i : Int) + B.length) = ((i + B.length : Nat) : Int) := by rw [zaq (by omega) (by omega)]; omega
     have eT : ((i : Int) + B.length).toNat = i + B.length := by omega
     have hR2 : i + B.length < R.length := by omega
     have hls := zkG R (i + B.length) c hR2
     rw [List.getD_eq_getElem?_getD, List.getElem?_eq_getElem hR2, Option.getD_some] at hR0
     rw [hR0] at hls
     simp only [zl9]
     simp [hib, eT, zd6 (show c < 4294967296 by omega), wi i (by omega), zrZ R (i + B.length) c hR2]
     refine ⟨⟨by omega, hlt⟩, by omega, ?_⟩
     refine hKb _ _ ⟨A.length - (i + 1), by omega, Back.here (by simp) (hsc _) (by simp [zhG, ux, AV.sc, AV.scA, AV.scB, AV.scV]) ⟨_, rfl, i + 1, R.set (i + B.length) c, by omega, rfl, rfl, by simp [hRl], zrg hR hc, ?_, rfl⟩⟩
     rw [List.take_of_length_le (Nat.le_refl _)] at hr
     rw [zgu A i hlt]
     rw [hv] at hr
     clear hKb hKb2 hsc' hsc'' hsF hsF' hBlt hK hs hO0 hsc
     grind
  ·obtain rfl : i = A.length := by omega
   rw [List.take_length] at hv
   simp [zl8]
   rw [← hOl]
   refine zrF O hO (by omega) (by simp) ?_
   rw [hv]
   simp
   exact Out.one hs (.atom (.sl _ _)) rfl rfl hK
end Go.Proofs.YtjkkonpjecoieaaGreat
