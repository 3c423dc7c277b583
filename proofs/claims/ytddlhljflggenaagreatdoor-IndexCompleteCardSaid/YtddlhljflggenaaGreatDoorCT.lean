import Derived.Test.YtddlhljflggenaaGreatDoorKNum
import Derived.Test.YtddlhljflggenaaGreatDoorProg
import Derived.KernelRfl
import Derived.Test.YtddlhljflggenaaGreatDoorAbsZ
set_option linter.unusedSimpArgs false
set_option linter.unusedVariables false
namespace Go.Proofs.YtddlhljflggenaaGreatDoor
open Go Go.Abs
set_option maxRecDepth 100000
def zdh : Nat → List Bool
 | 7 => rl false [0,1,1,1,1,1,3,2,52]
 | 15 => rl false [11,1,28,3,19]
 | 19 => rl false [11,1,28,3,5,3,11]
 | _ => []
noncomputable def zhb : Code := Tryz.f7.body.getD .skip
noncomputable def zxn : List ResultVar := Tryz.f7.results.toList
def zkx (t0 t2 t4 t8 t9 : AV) : List AV := t0 :: ux 1 (t2 :: ux 1 (t4 :: ux 3 (t8 :: t9 :: ux 52 [])))
def zJC : List Bool := zdh 7
noncomputable def zJx : Code := zao [1, 1, 1, 1, 0, 1, 0, 0] zhb
def zJv (K : Kt) : AExit → List AV → zaa → Prop := zap tP zdh [1, 1, 1, 1, 0, 1, 0] zhb (zaA tP zxn K)
def zpY (t0 t2 t4 t8 t9 : AV) (H : zaa) (K : Kt) : Prop := ALoop tP zJx (zJv K) (zkx t0 t2 t4 t8 t9) H
def zhc (t11 t40 t41 t42 : AV) : List AV := ux 11 (t11 :: ux 28 (t40 :: t41 :: t42 :: ux 19 []))
def zxm : List Bool := zdh 15
noncomputable def zpX : Code := zao [1, 1, 1, 1, 1, 1, 0, 1, 0, 0] zhb
def zxl (K : Kt) : AExit → List AV → zaa → Prop := zap tP zdh [1, 1, 1, 1, 1, 1, 0, 1, 0] zhb (zaA tP zxn K)
def zhd (t11 t40 t41 t42 : AV) (H : zaa) (K : Kt) : Prop := ALoop tP zpX (zxl K) (zhc t11 t40 t41 t42) H
def zkw (t11 t40 t41 t42 t48 t49 t50 : AV) : List AV := ux 11 (t11 :: ux 28 (t40 :: t41 :: t42 :: ux 5 (t48 :: t49 :: t50 :: ux 11 [])))
def zJB : List Bool := zdh 19
noncomputable def zJw : Code := zao [1, 1, 0, 0, 1, 1, 1, 0, 0] zpX
def zJu (K : Kt) (Kb15 : Lt) : AExit → List AV → zaa → Prop := zap tP zdh [1, 1, 0, 0, 1, 1, 1, 0] zpX (zaU zxm Kb15 (zxl K))
def zky (t11 t40 t41 t42 t48 t49 t50 : AV) (H : zaa) (K : Kt) (Kb15 : Lt) : Prop := ALoop tP zJw (zJu K Kb15) (zkw t11 t40 t41 t42 t48 t49 t50) H
def zpV (t11 t40 t41 t42 t48 t49 t50 : AV) (H : zaa) (K : Kt) (Kb15 : Lt) (Kb19 : Lt) : Prop :=
 zac .lss false t50 t49 fun t51 =>
 zaf t51
 (zaj 2 t48 t50 fun t52 =>
 zad true 2 t52 H fun t53 =>
 zaz [(.int .i64 0), .snil] H fun t15 H =>
 zal 2 t15 t53 H fun H =>
 zad true 2 t15 H fun t55 =>
 ACalls tP zh0 [t55] H fun t56 H =>
 zay 2 [(.int .i64 0), .snil] 1 [(0, t56)] fun t57 =>
 zat zak 2 32 t11 t57 H fun t58 H =>
 zac .add false t50 (.int .i64 1) fun t59 =>
 Kb19 (zkw t58 t40 t41 t42 t48 t49 t59) H)
 (zac .add false t42 (.int .i64 1) fun t60 =>
 Kb15 (zhc t11 t40 t41 t60) H)
def zpU (t11 t40 t41 t42 : AV) (H : zaa) (K : Kt) (Kb15 : Lt) : Prop :=
 zac .lss false t42 t41 fun t43 =>
 zaf t43
 (zaj 1 t40 t42 fun t44 =>
 zad false 1 t44 H fun t45 =>
 ACalls tP zmh [t45, (.fn zdT [])] H fun t47 H =>
 zah 1 t45 fun t49 =>
 zky t11 t40 t41 t42 t45 t49 (.int .i64 0) H K Kb15)
 (zaw [t11, (.int .i64 0)] (K · H))
def zpW (t0 t2 t4 t8 t9 : AV) (H : zaa) (K : Kt) (Kb7 : Lt) : Prop :=
 zac .leq false t9 t2 fun t28 =>
 zaf t28
 (zad true 3 t4 H fun t33 =>
 ACalls tP zgf [t0, t33, t9] H fun t35 H =>
 zav t35 0 fun t36 =>
 zav t35 1 fun t37 =>
 aUn .not t37 fun t39 =>
 zaf t39
 (zaw [.snil, (.int .i64 9)] (K · H))
 (zac .add false t9 (.int .i64 1) fun t30 =>
 Kb7 (zkx t0 t2 t4 t36 t30) H))
 (zah 1 t8 fun t41 =>
 zhd .snil t8 t41 (.int .i64 0) H K)
def zq5 (t0 t1 t2 : AV) (H : zaa) (K : Kt) : Prop :=
 zax t1 H fun t4 H =>
 zad true 3 t4 H fun t17 =>
 ACalls tP zeZ [t0, t17] H fun t18 H =>
 aUn .not t18 fun t19 =>
 zaf t19
 (zaw [.snil, (.int .i64 1)] (K · H))
 (zac .lss false t2 (.int .i64 0) fun t21 =>
 zab t21 false H (fun K' => K' t2 H) fun t23 H =>
 zab t21 false H (fun K' => zac .gtr false t23 (.int .i64 6) (K' · H)) fun t24 H =>
 zai t21 (.bool true) t24 fun t25 =>
 zaf t25
 (zaw [.snil, (.int .i64 8)] (K · H))
 (zpY t0 t2 t4 .snil (.int .i64 0) H K))
theorem zJz {t11 t40 t41 t42 t48 t49 t50 : AV} {H : zaa} {K : Kt} {Kb15 : Lt} (Inv : Nat → AV → AV → zaa → Prop) (n : Nat) (h0 : HSc H → Inv n t11 t50 H)
  (round : Rd2 (fun t11 => fun t50 => zkw t11 t40 t41 t42 t48 t49 t50) (fun t11 => fun t50 => fun H Kb19 => zpV t11 t40 t41 t42 t48 t49 t50 H K Kb15 Kb19) H Inv) : zky t11 t40 t41 t42 t48 t49 t50 H K Kb15 :=
 lp2 (M := zdh) zJB t11 t50 (by kernel_rfl) Inv n h0 round
theorem zJy {t11 t40 t41 t42 : AV} {H : zaa} {K : Kt} (Inv : Nat → AV → AV → zaa → Prop) (n : Nat) (h0 : HSc H → Inv n t11 t42 H)
  (round : Rd2 (fun t11 => fun t42 => zhc t11 t40 t41 t42) (fun t11 => fun t42 => fun H Kb15 => zpU t11 t40 t41 t42 H K Kb15) H Inv) : zhd t11 t40 t41 t42 H K :=
 lp2 (M := zdh) zxm t11 t42 (by kernel_rfl) Inv n h0 round
theorem zJA {t0 t2 t4 t8 t9 : AV} {H : zaa} {K : Kt} (Inv : Nat → AV → AV → zaa → Prop) (n : Nat) (h0 : HSc H → Inv n t8 t9 H)
  (round : Rd2 (fun t8 => fun t9 => zkx t0 t2 t4 t8 t9) (fun t8 => fun t9 => fun H Kb7 => zpW t0 t2 t4 t8 t9 H K Kb7) H Inv) : zpY t0 t2 t4 t8 t9 H K :=
 lp2 (M := zdh) zJC t8 t9 (by kernel_rfl) Inv n h0 round
theorem zJD {t0 t1 t2 : AV} {H : zaa} {K : Kt} (h : HSc H → zq5 t0 t1 t2 H K) : ACalls tP ze2 [t0, t1, t2] H K :=
 zar (M := zdh) Tryz.func7 (c := zhb) (by kernel_rfl) (fun hs => Eq.mpr (by kernel_rfl) (h hs))
def zde : Nat → List Bool
 | 6 => rl false [8,1,1,1,20,3,53]
 | 9 => rl false [8,1,1,2,19,3,4,3,46]
 | 200011 => rl false [0,8]
 | 17 => rl false [8,1,53,2,23]
 | 300019 => rl false [0,1]
 | 300024 => rl false [0,1]
 | _ => []
noncomputable def zgO : Code := Tryz.f21.body.getD .skip
noncomputable def zvo : List ResultVar := Tryz.f21.results.toList
def zgP (t8 t10 t31 t32 t33 : AV) : List AV := ux 8 (t8 :: ux 1 (t10 :: ux 20 (t31 :: t32 :: t33 :: ux 53 [])))
def zvn : List Bool := zde 6
noncomputable def zoc : Code := zao [1, 1, 0, 1, 0, 1, 0, 1, 0, 1, 0, 0] zgO
def zvk (K : Kt) : AExit → List AV → zaa → Prop := zap tP zde [1, 1, 0, 1, 0, 1, 0, 1, 0, 1, 0] zgO (zaA tP zvo K)
def zjv (t8 t10 t31 t32 t33 : AV) (H : zaa) (K : Kt) : Prop := ALoop tP zoc (zvk K) (zgP t8 t10 t31 t32 t33) H
def zju (t8 t10 t11 t31 t32 t33 t38 t39 t40 : AV) : List AV := ux 8 (t8 :: ux 1 (t10 :: t11 :: ux 19 (t31 :: t32 :: t33 :: ux 4 (t38 :: t39 :: t40 :: ux 46 []))))
def zFD : List Bool := zde 9
noncomputable def zFz : Code := zao [1, 1, 0, 0, 1, 1, 0, 0] zoc
def zFx (K : Kt) (Kb6 : Lt) : AExit → List AV → zaa → Prop := zap tP zde [1, 1, 0, 0, 1, 1, 0] zoc (zaU zvn Kb6 (zvk K))
def zoe (t8 t10 t11 t31 t32 t33 t38 t39 t40 : AV) (H : zaa) (K : Kt) (Kb6 : Lt) : Prop := ALoop tP zFz (zFx K Kb6) (zju t8 t10 t11 t31 t32 t33 t38 t39 t40) H
def zvl (t8 t10 t11 t31 t32 t33 t38 t39 t40 : AV) (H : zaa) (K : Kt) (Kb6 : Lt) (Kb9 : Lt) : Prop :=
 zac .add false t40 (.int .i64 1) fun t55 =>
 Kb9 (zju t8 t10 t11 t31 t32 t33 t38 t39 t55) H
def zd6 (t8 t10 t11 t31 t32 t33 t38 t39 t40 : AV) (H : zaa) (K : Kt) (Kb6 : Lt) (Kb9 : Lt) : Prop :=
 zvl t8 t10 t11 t31 t32 t33 t38 t39 t40 H K Kb6 Kb9
def zob (t8 t10 t11 t31 t32 t33 t38 t39 t40 : AV) (H : zaa) (K : Kt) (Kb6 : Lt) (Kb9 : Lt) : Prop :=
 zac .lss false t40 t39 fun t41 =>
 zaf t41
 (zaj 1 t38 t40 fun t42 =>
 zad false 1 t42 H fun t43 =>
 zae H (fun K' => K' t8 H) fun t44 =>
 zae H (fun K' => K' t11 H) fun t45 =>
 zae H (fun K' => zaj 1 t44 t45 (K' · H)) fun t46 =>
 zae H (fun K' => zas false 1 t46 H (K' · H)) fun t47 =>
 zae H (fun K' => K' t43 H) fun t48 =>
 zae H (fun K' => zau [(.int .i64 0), .snil] [(0, 1), (1, 1)] [(1, t48)] (K' · H)) fun t49 =>
 zae H (fun K' => zah 1 t47 (K' · H)) fun t50 =>
 zae H (fun K' => zay 2 [(.int .i64 0), .snil] 1 [(0, (.agg [(.int .i64 0), .snil]))] (K' · H)) fun t51 =>
 zat zak 2 32 t47 t51 H fun t52 H =>
 (zaj 2 t52 t50 fun t53 =>
 (zal 2 t53 t49 H fun H =>
 zaj 1 t44 t45 fun t54 =>
 zal 1 t54 t52 H fun H =>
 zd6 t8 t10 t11 t31 t32 t33 t38 t39 t40 H K Kb6 Kb9) ∧ (zaj 1 t44 t45 fun t54 =>
 (zal 2 t53 t49 H fun H =>
 zal 1 t54 t52 H fun H =>
 zd6 t8 t10 t11 t31 t32 t33 t38 t39 t40 H K Kb6 Kb9) ∧ (zal 1 t54 t52 H fun H =>
 zal 2 t53 t49 H fun H =>
 zd6 t8 t10 t11 t31 t32 t33 t38 t39 t40 H K Kb6 Kb9))) ∧ (zaj 1 t44 t45 fun t54 =>
 (zaj 2 t52 t50 fun t53 =>
 (zal 2 t53 t49 H fun H =>
 zal 1 t54 t52 H fun H =>
 zd6 t8 t10 t11 t31 t32 t33 t38 t39 t40 H K Kb6 Kb9) ∧ (zal 1 t54 t52 H fun H =>
 zal 2 t53 t49 H fun H =>
 zd6 t8 t10 t11 t31 t32 t33 t38 t39 t40 H K Kb6 Kb9)) ∧ (zal 1 t54 t52 H fun H =>
 zaj 2 t52 t50 fun t53 =>
 zal 2 t53 t49 H fun H =>
 zd6 t8 t10 t11 t31 t32 t33 t38 t39 t40 H K Kb6 Kb9)))
 (zac .add false t33 (.int .i64 1) fun t56 =>
 Kb6 (zgP t8 t10 t31 t32 t56) H)
def zjs (t8 t10 t31 t32 t33 : AV) (H : zaa) (K : Kt) (Kb6 : Lt) : Prop :=
 zac .lss false t33 t32 fun t34 =>
 zaf t34
 (zaj 1 t31 t33 fun t36 =>
 zad false 1 t36 H fun t37 =>
 zah 1 t37 fun t39 =>
 zoe t8 t10 t33 t31 t32 t33 t37 t39 (.int .i64 0) H K Kb6)
 (zaw [t8, t10] (K · H))
def zjt (t8 t62 t63 : AV) : List AV := ux 8 (t8 :: ux 53 (t62 :: t63 :: ux 23 []))
def zFC : List Bool := zde 17
noncomputable def zFy : Code := zao [1, 1, 0, 1, 0, 1, 1, 1, 0, 0, 1, 0, 0] zgO
def zFw (K : Kt) : AExit → List AV → zaa → Prop := zap tP zde [1, 1, 0, 1, 0, 1, 1, 1, 0, 0, 1, 0] zgO (zaA tP zvo K)
def zod (t8 t62 t63 : AV) (H : zaa) (K : Kt) : Prop := ALoop tP zFy (zFw K) (zjt t8 t62 t63) H
def zoa (t8 t62 t63 : AV) (H : zaa) (K : Kt) (Kb17 : Lt) : Prop :=
 zac .lss false t63 t62 fun t64 =>
 zaf t64
 (zau [(.int .i64 0), .snil] [(0, 1), (1, 1)] [(0, t63)] fun t69 =>
 zcO zak 2 1 [(0, t69)] H fun t70 H =>
 zaj 1 t8 t63 fun t71 =>
 zal 1 t71 t70 H fun H =>
 zac .add false t63 (.int .i64 1) fun t72 =>
 Kb17 (zjt t8 t62 t72) H)
 (zaw [t8, (.bool true)] (K · H))
def zvj (t0 t1 t2 : AV) (H : zaa) (K : Kt) : Prop :=
 zax t1 H fun t4 H =>
 zac .add false t2 (.int .i64 1) fun t17 =>
 za4 24 [.snil] t17 t17 H fun t18 H =>
 zag 0 t4 fun t19 =>
 zad false 1 t19 H fun t20 =>
 zac .eql false t20 (.int .i64 6) fun t22 =>
 zaf t22
 (zag 2 t4 fun t25 =>
 zad false 1 t25 H fun t26 =>
 ACalls tP zh6 [t0, t26, t2] H fun t28 H =>
 zav t28 0 fun t29 =>
 zav t28 1 fun t30 =>
 zah 1 t29 fun t32 =>
 zjv t18 t30 t29 t32 (.int .i64 0) H K)
 (zac .eql false t20 (.int .i64 7) fun t60 =>
 zaf t60
 (zah 1 t18 fun t62 =>
 zod t18 t62 (.int .i64 0) H K)
 (zac .eql false t20 (.int .i64 5) fun t75 =>
 zaf t75
 (zad true 3 t4 H fun t77 =>
 ACalls tP zmo [t0, t77, t2] H fun t79 H =>
 zav t79 0 fun t80 =>
 zav t79 1 fun t81 =>
 zaw [t80, t81] (K · H))
 (zau [(.int .i64 0), .snil] [(0, 1), (1, 1)] [] fun t83 =>
 zcO zak 2 1 [(0, t83)] H fun t84 H =>
 zaj 1 t18 (.int .i64 0) fun t85 =>
 zal 1 t85 t84 H fun H =>
 zaw [t18, (.bool true)] (K · H))))
theorem zFB {t8 t10 t11 t31 t32 t33 t38 t39 t40 : AV} {H : zaa} {K : Kt} {Kb6 : Lt} (Inv : Nat → AV → zaa → Prop) (n : Nat) (h0 : HSc H → Inv n t40 H)
  (round : Rd1 (fun t40 => zju t8 t10 t11 t31 t32 t33 t38 t39 t40) (fun t40 => fun H Kb9 => zob t8 t10 t11 t31 t32 t33 t38 t39 t40 H K Kb6 Kb9) H Inv) : zoe t8 t10 t11 t31 t32 t33 t38 t39 t40 H K Kb6 :=
 lp1 (M := zde) zFD t40 (by kernel_rfl) Inv n h0 round
theorem zvm {t8 t10 t31 t32 t33 : AV} {H : zaa} {K : Kt} (Inv : Nat → AV → zaa → Prop) (n : Nat) (h0 : HSc H → Inv n t33 H)
  (round : Rd1 (fun t33 => zgP t8 t10 t31 t32 t33) (fun t33 => fun H Kb6 => zjs t8 t10 t31 t32 t33 H K Kb6) H Inv) : zjv t8 t10 t31 t32 t33 H K :=
 lp1 (M := zde) zvn t33 (by kernel_rfl) Inv n h0 round
theorem zFA {t8 t62 t63 : AV} {H : zaa} {K : Kt} (Inv : Nat → AV → zaa → Prop) (n : Nat) (h0 : HSc H → Inv n t63 H)
  (round : Rd1 (fun t63 => zjt t8 t62 t63) (fun t63 => fun H Kb17 => zoa t8 t62 t63 H K Kb17) H Inv) : zod t8 t62 t63 H K :=
 lp1 (M := zde) zFC t63 (by kernel_rfl) Inv n h0 round
theorem zFE {t0 t1 t2 : AV} {H : zaa} {K : Kt} (h : HSc H → zvj t0 t1 t2 H K) : ACalls tP zgf [t0, t1, t2] H K :=
 zar (M := zde) Tryz.func21 (c := zgO) (by kernel_rfl) (fun hs => Eq.mpr (by kernel_rfl) (h hs))
def zbW : Nat → List Bool
 | 300002 => rl false [0,1]
 | 4 => rl false [0,1,1,1,5,1,19,3,72]
 | 12 => rl false [0,1,1,1,8,1,1,2,13,3,15,3,54]
 | 15 => rl false [0,1,1,1,8,1,1,3,12,3,15,3,4,3,47]
 | 18 => rl false [0,1,1,1,8,1,1,3,2,2,8,3,15,3,4,3,47]
 | 21 => rl false [0,1,1,1,8,1,1,3,2,2,8,3,15,3,4,3,13,3,31]
 | 200023 => rl false [0,2]
 | _ => []
noncomputable def zoR : Code := Tryz.f40.body.getD .skip
noncomputable def zHv : List ResultVar := Tryz.f40.results.toList
def zg0 (t0 t2 t8 t28 t29 t30 : AV) : List AV := t0 :: ux 1 (t2 :: ux 5 (t8 :: ux 19 (t28 :: t29 :: t30 :: ux 72 [])))
def zwb : List Bool := zbW 4
noncomputable def zoV : Code := zao [1, 1, 1, 0, 1, 0, 0] zoR
def zv6 (K : Kt) : AExit → List AV → zaa → Prop := zap tP zbW [1, 1, 1, 0, 1, 0] zoR (zaA tP zHv K)
def zv7 (t0 t2 t8 t28 t29 t30 : AV) (H : zaa) (K : Kt) : Prop := ALoop tP zoV (zv6 K) (zg0 t0 t2 t8 t28 t29 t30) H
def zgX (t0 t2 t11 t13 t14 t28 t29 t30 t46 t47 t48 : AV) : List AV := t0 :: ux 1 (t2 :: ux 8 (t11 :: ux 1 (t13 :: t14 :: ux 13 (t28 :: t29 :: t30 :: ux 15 (t46 :: t47 :: t48 :: ux 54 [])))))
def zv8 : List Bool := zbW 12
noncomputable def zoS : Code := zao [1, 1, 0, 0, 1, 1, 1, 1, 1, 0, 1, 0, 0] zoV
def zv3 (K : Kt) (Kb4 : Lt) : AExit → List AV → zaa → Prop := zap tP zbW [1, 1, 0, 0, 1, 1, 1, 1, 1, 0, 1, 0] zoV (zaU zwb Kb4 (zv6 K))
def zjZ (t0 t2 t11 t13 t14 t28 t29 t30 t46 t47 t48 : AV) (H : zaa) (K : Kt) (Kb4 : Lt) : Prop := ALoop tP zoS (zv3 K Kb4) (zgX t0 t2 t11 t13 t14 t28 t29 t30 t46 t47 t48) H
def zgY (t0 t2 t11 t13 t14 t15 t28 t29 t30 t46 t47 t48 t53 t54 t55 : AV) : List AV := t0 :: ux 1 (t2 :: ux 8 (t11 :: ux 1 (t13 :: t14 :: t15 :: ux 12 (t28 :: t29 :: t30 :: ux 15 (t46 :: t47 :: t48 :: ux 4 (t53 :: t54 :: t55 :: ux 47 []))))))
def zv9 : List Bool := zbW 15
noncomputable def zoT : Code := zao [1, 1, 0, 0, 1, 1, 0, 0] zoS
def zv4 (K : Kt) (Kb4 : Lt) (Kb12 : Lt) : AExit → List AV → zaa → Prop := zap tP zbW [1, 1, 0, 0, 1, 1, 0] zoS (zaU zv8 Kb12 (zv3 K Kb4))
def zoW (t0 t2 t11 t13 t14 t15 t28 t29 t30 t46 t47 t48 t53 t54 t55 : AV) (H : zaa) (K : Kt) (Kb4 : Lt) (Kb12 : Lt) : Prop := ALoop tP zoT (zv4 K Kb4 Kb12) (zgY t0 t2 t11 t13 t14 t15 t28 t29 t30 t46 t47 t48 t53 t54 t55) H
def zgZ (t0 t2 t11 t13 t14 t15 t18 t19 t28 t29 t30 t46 t47 t48 t53 t54 t55 : AV) : List AV := t0 :: ux 1 (t2 :: ux 8 (t11 :: ux 1 (t13 :: t14 :: t15 :: ux 2 (t18 :: t19 :: ux 8 (t28 :: t29 :: t30 :: ux 15 (t46 :: t47 :: t48 :: ux 4 (t53 :: t54 :: t55 :: ux 47 [])))))))
def zwa : List Bool := zbW 18
noncomputable def zoU : Code := zao [1, 1, 0, 0, 1, 0, 1, 0, 0] zoT
def zv5 (K : Kt) (Kb4 : Lt) (Kb12 : Lt) (Kb15 : Lt) : AExit → List AV → zaa → Prop := zap tP zbW [1, 1, 0, 0, 1, 0, 1, 0] zoT (zaU zv9 Kb15 (zv4 K Kb4 Kb12))
def zoX (t0 t2 t11 t13 t14 t15 t18 t19 t28 t29 t30 t46 t47 t48 t53 t54 t55 : AV) (H : zaa) (K : Kt) (Kb4 : Lt) (Kb12 : Lt) (Kb15 : Lt) : Prop := ALoop tP zoU (zv5 K Kb4 Kb12 Kb15) (zgZ t0 t2 t11 t13 t14 t15 t18 t19 t28 t29 t30 t46 t47 t48 t53 t54 t55) H
def zjY (t0 t2 t11 t13 t14 t15 t18 t19 t28 t29 t30 t46 t47 t48 t53 t54 t55 t69 t70 t71 : AV) : List AV := t0 :: ux 1 (t2 :: ux 8 (t11 :: ux 1 (t13 :: t14 :: t15 :: ux 2 (t18 :: t19 :: ux 8 (t28 :: t29 :: t30 :: ux 15 (t46 :: t47 :: t48 :: ux 4 (t53 :: t54 :: t55 :: ux 13 (t69 :: t70 :: t71 :: ux 31 []))))))))
def zHt : List Bool := zbW 21
noncomputable def zHn : Code := zao [1, 0, 0, 1, 0, 0] zoU
def zHm (K : Kt) (Kb4 : Lt) (Kb12 : Lt) (Kb15 : Lt) (Kb18 : Lt) : AExit → List AV → zaa → Prop := zap tP zbW [1, 0, 0, 1, 0] zoU (zaU zwa Kb18 (zv5 K Kb4 Kb12 Kb15))
def zoY (t0 t2 t11 t13 t14 t15 t18 t19 t28 t29 t30 t46 t47 t48 t53 t54 t55 t69 t70 t71 : AV) (H : zaa) (K : Kt) (Kb4 : Lt) (Kb12 : Lt) (Kb15 : Lt) (Kb18 : Lt) : Prop := ALoop tP zHn (zHm K Kb4 Kb12 Kb15 Kb18) (zjY t0 t2 t11 t13 t14 t15 t18 t19 t28 t29 t30 t46 t47 t48 t53 t54 t55 t69 t70 t71) H
def zoP (t0 t2 t11 t13 t14 t15 t18 t19 t28 t29 t30 t46 t47 t48 t53 t54 t55 t69 t70 t71 : AV) (H : zaa) (K : Kt) (Kb4 : Lt) (Kb12 : Lt) (Kb15 : Lt) (Kb18 : Lt) (Kb21 : Lt) : Prop :=
 zac .lss false t71 t70 fun t72 =>
 zaf t72
 (zaj 2 t69 t71 fun t73 =>
 zad true 2 t73 H fun t74 =>
 zaz [(.int .i64 0), .snil] H fun t21 H =>
 zal 2 t21 t74 H fun H =>
 zae H (fun K' => K' t13 H) fun t75 =>
 zae H (fun K' => K' t15 H) fun t76 =>
 zae H (fun K' => K' t19 H) fun t77 =>
 zae H (fun K' => zac .add false t76 t77 (K' · H)) fun t78 =>
 zae H (fun K' => K' t13 H) fun t79 =>
 zae H (fun K' => K' t15 H) fun t80 =>
 zae H (fun K' => K' t19 H) fun t81 =>
 zae H (fun K' => zac .add false t80 t81 (K' · H)) fun t82 =>
 zae H (fun K' => zaj 1 t79 t82 (K' · H)) fun t83 =>
 zae H (fun K' => zas false 1 t83 H (K' · H)) fun t84 =>
 zae H (fun K' => K' t18 H) fun t85 =>
 zdE .g true H (fun K' => ACalls tP zgn [t85] H K') fun t86 H =>
 zae H (fun K' => zas true 2 t21 H (K' · H)) fun t87 =>
 zae H (fun K' => zay 2 [(.int .i64 0), .snil] 1 [(0, t87)] (K' · H)) fun t88 =>
 zdE .g false H (fun K' => zat zak 2 32 t86 t88 H K') fun t89 H =>
 zae H (fun K' => zay 1 [.snil] 1 [(0, t89)] (K' · H)) fun t90 =>
 zdE .g false H (fun K' => zat za1 1 24 t84 t90 H K') fun t91 H =>
 zae H (fun K' => zaj 1 t75 t78 (K' · H)) fun t92 =>
 zdE .g false H (fun K' => zal 1 t92 t91 H (K' (.tup []))) fun _ H =>
 zac .add false t14 (.int .i64 1) fun t94 =>
 zac .add false t71 (.int .i64 1) fun t95 =>
 Kb21 (zjY t0 t2 t11 t13 t94 t15 t18 t19 t28 t29 t30 t46 t47 t48 t53 t54 t55 t69 t70 t95) H)
 (zac .add false t19 (.int .i64 1) fun t65 =>
 Kb18 (zgZ t0 t2 t11 t13 t14 t15 t18 t65 t28 t29 t30 t46 t47 t48 t53 t54 t55) H)
def zoO (t0 t2 t11 t13 t14 t15 t18 t19 t28 t29 t30 t46 t47 t48 t53 t54 t55 : AV) (H : zaa) (K : Kt) (Kb4 : Lt) (Kb12 : Lt) (Kb15 : Lt) (Kb18 : Lt) : Prop :=
 zac .add false t15 t19 fun t61 =>
 zac .leq false t61 t2 fun t63 =>
 zaf t63
 (zaj 1 t11 t19 fun t68 =>
 zad false 1 t68 H fun t69 =>
 zah 1 t69 fun t70 =>
 zoY t0 t2 t11 t13 t14 t15 t18 t19 t28 t29 t30 t46 t47 t48 t53 t54 t55 t69 t70 (.int .i64 0) H K Kb4 Kb12 Kb15 Kb18)
 (zac .gtr false t14 (.int .i64 500) fun t97 =>
 zaf t97
 (zaw [.snil, (.bool false)] (K · H))
 (zac .add false t55 (.int .i64 1) fun t98 =>
 Kb15 (zgY t0 t2 t11 t13 t14 t15 t28 t29 t30 t46 t47 t48 t53 t54 t98) H))
def zoN (t0 t2 t11 t13 t14 t15 t28 t29 t30 t46 t47 t48 t53 t54 t55 : AV) (H : zaa) (K : Kt) (Kb4 : Lt) (Kb12 : Lt) (Kb15 : Lt) : Prop :=
 zac .lss false t55 t54 fun t56 =>
 zaf t56
 (zaj 1 t53 t55 fun t57 =>
 zad false 1 t57 H fun t58 =>
 zoX t0 t2 t11 t13 t14 t15 t58 (.int .i64 0) t28 t29 t30 t46 t47 t48 t53 t54 t55 H K Kb4 Kb12 Kb15)
 (zac .add false t48 (.int .i64 1) fun t99 =>
 Kb12 (zgX t0 t2 t11 t13 t14 t28 t29 t30 t46 t47 t99) H)
def zoM (t0 t2 t11 t13 t14 t28 t29 t30 t46 t47 t48 : AV) (H : zaa) (K : Kt) (Kb4 : Lt) (Kb12 : Lt) : Prop :=
 zac .lss false t48 t47 fun t49 =>
 zaf t49
 (zaj 1 t46 t48 fun t51 =>
 zad false 1 t51 H fun t52 =>
 zah 1 t52 fun t54 =>
 zoW t0 t2 t11 t13 t14 t48 t28 t29 t30 t46 t47 t48 t52 t54 (.int .i64 0) H K Kb4 Kb12)
 (zac .add false t30 (.int .i64 1) fun t101 =>
 Kb4 (zg0 t0 t2 t13 t28 t29 t101) H)
def zoQ (t0 t2 t8 t28 t29 t30 : AV) (H : zaa) (K : Kt) (Kb4 : Lt) : Prop :=
 zac .lss false t30 t29 fun t31 =>
 zaf t31
 (zaj 3 t28 t30 fun t32 =>
 zad true 3 t32 H fun t33 =>
 zaz [(.int .i64 0), (.int .i64 0), .snil] H fun t10 H =>
 zal 3 t10 t33 H fun H =>
 zad true 3 t10 H fun t36 =>
 ACalls tP zgf [t0, t36, t2] H fun t38 H =>
 zav t38 0 fun t39 =>
 zav t38 1 fun t40 =>
 aUn .not t40 fun t42 =>
 zaf t42
 (zaw [.snil, (.bool false)] (K · H))
 (zac .add false t2 (.int .i64 1) fun t44 =>
 za4 24 [.snil] t44 t44 H fun t45 H =>
 zah 1 t8 fun t47 =>
 zjZ t0 t2 t39 t45 (.int .i64 0) t28 t29 t30 t8 t47 (.int .i64 0) H K Kb4))
 (zaw [t8, (.bool true)] (K · H))
def zv2 (t0 t1 t2 : AV) (H : zaa) (K : Kt) : Prop :=
 zac .add false t2 (.int .i64 1) fun t23 =>
 za4 24 [.snil] t23 t23 H fun t24 H =>
 zcO za1 1 1 [(0, .snil)] H fun t26 H =>
 zaj 1 t24 (.int .i64 0) fun t27 =>
 zal 1 t27 t26 H fun H =>
 zah 1 t1 fun t29 =>
 zv7 t0 t2 t24 t1 t29 (.int .i64 0) H K
theorem zHr {t0 t2 t11 t13 t14 t15 t18 t19 t28 t29 t30 t46 t47 t48 t53 t54 t55 t69 t70 t71 : AV} {H : zaa} {K : Kt} {Kb4 : Lt} {Kb12 : Lt} {Kb15 : Lt} {Kb18 : Lt} (Inv : Nat → AV → AV → zaa → Prop) (n : Nat) (h0 : HSc H → Inv n t14 t71 H)
  (round : Rd2 (fun t14 => fun t71 => zjY t0 t2 t11 t13 t14 t15 t18 t19 t28 t29 t30 t46 t47 t48 t53 t54 t55 t69 t70 t71) (fun t14 => fun t71 => fun H Kb21 => zoP t0 t2 t11 t13 t14 t15 t18 t19 t28 t29 t30 t46 t47 t48 t53 t54 t55 t69 t70 t71 H K Kb4 Kb12 Kb15 Kb18 Kb21) H Inv) : zoY t0 t2 t11 t13 t14 t15 t18 t19 t28 t29 t30 t46 t47 t48 t53 t54 t55 t69 t70 t71 H K Kb4 Kb12 Kb15 Kb18 :=
 lp2 (M := zbW) zHt t14 t71 (by kernel_rfl) Inv n h0 round
theorem zHq {t0 t2 t11 t13 t14 t15 t18 t19 t28 t29 t30 t46 t47 t48 t53 t54 t55 : AV} {H : zaa} {K : Kt} {Kb4 : Lt} {Kb12 : Lt} {Kb15 : Lt} (Inv : Nat → AV → AV → zaa → Prop) (n : Nat) (h0 : HSc H → Inv n t14 t19 H)
  (round : Rd2 (fun t14 => fun t19 => zgZ t0 t2 t11 t13 t14 t15 t18 t19 t28 t29 t30 t46 t47 t48 t53 t54 t55) (fun t14 => fun t19 => fun H Kb18 => zoO t0 t2 t11 t13 t14 t15 t18 t19 t28 t29 t30 t46 t47 t48 t53 t54 t55 H K Kb4 Kb12 Kb15 Kb18) H Inv) : zoX t0 t2 t11 t13 t14 t15 t18 t19 t28 t29 t30 t46 t47 t48 t53 t54 t55 H K Kb4 Kb12 Kb15 :=
 lp2 (M := zbW) zwa t14 t19 (by kernel_rfl) Inv n h0 round
theorem zHp {t0 t2 t11 t13 t14 t15 t28 t29 t30 t46 t47 t48 t53 t54 t55 : AV} {H : zaa} {K : Kt} {Kb4 : Lt} {Kb12 : Lt} (Inv : Nat → AV → AV → zaa → Prop) (n : Nat) (h0 : HSc H → Inv n t14 t55 H)
  (round : Rd2 (fun t14 => fun t55 => zgY t0 t2 t11 t13 t14 t15 t28 t29 t30 t46 t47 t48 t53 t54 t55) (fun t14 => fun t55 => fun H Kb15 => zoN t0 t2 t11 t13 t14 t15 t28 t29 t30 t46 t47 t48 t53 t54 t55 H K Kb4 Kb12 Kb15) H Inv) : zoW t0 t2 t11 t13 t14 t15 t28 t29 t30 t46 t47 t48 t53 t54 t55 H K Kb4 Kb12 :=
 lp2 (M := zbW) zv9 t14 t55 (by kernel_rfl) Inv n h0 round
theorem zHo {t0 t2 t11 t13 t14 t28 t29 t30 t46 t47 t48 : AV} {H : zaa} {K : Kt} {Kb4 : Lt} (Inv : Nat → AV → AV → zaa → Prop) (n : Nat) (h0 : HSc H → Inv n t14 t48 H)
  (round : Rd2 (fun t14 => fun t48 => zgX t0 t2 t11 t13 t14 t28 t29 t30 t46 t47 t48) (fun t14 => fun t48 => fun H Kb12 => zoM t0 t2 t11 t13 t14 t28 t29 t30 t46 t47 t48 H K Kb4 Kb12) H Inv) : zjZ t0 t2 t11 t13 t14 t28 t29 t30 t46 t47 t48 H K Kb4 :=
 lp2 (M := zbW) zv8 t14 t48 (by kernel_rfl) Inv n h0 round
theorem zHs {t0 t2 t8 t28 t29 t30 : AV} {H : zaa} {K : Kt} (Inv : Nat → AV → AV → zaa → Prop) (n : Nat) (h0 : HSc H → Inv n t8 t30 H)
  (round : Rd2 (fun t8 => fun t30 => zg0 t0 t2 t8 t28 t29 t30) (fun t8 => fun t30 => fun H Kb4 => zoQ t0 t2 t8 t28 t29 t30 H K Kb4) H Inv) : zv7 t0 t2 t8 t28 t29 t30 H K :=
 lp2 (M := zbW) zwb t8 t30 (by kernel_rfl) Inv n h0 round
theorem zHu {t0 t1 t2 : AV} {H : zaa} {K : Kt} (h : HSc H → zv2 t0 t1 t2 H K) : ACalls tP zh6 [t0, t1, t2] H K :=
 zar (M := zbW) Tryz.func40 (c := zoR) (by kernel_rfl) (fun hs => Eq.mpr (by kernel_rfl) (h hs))
def zbv : Nat → List Bool
 | 3 => rl false [0,1,1,1,1,1,3,1,25,2,133]
 | 11 => rl false [0,1,1,1,1,1,3,2,24,2,25,3,105]
 | 14 => rl false [0,1,1,1,1,1,3,2,3,1,20,2,25,3,4,3,98]
 | 200016 => rl false [0,7]
 | 300024 => rl false [0,1]
 | 27 => rl false [2,1,5,1,8,3,149]
 | 30 => rl false [2,1,5,1,8,4,148]
 | 33 => rl false [2,1,5,1,8,4,108,3,37]
 | 36 => rl false [2,1,5,1,8,4,1,1,106,3,8,3,26]
 | 200038 => rl false [0,8]
 | _ => []
noncomputable def zg1 : Code := Tryz.f41.body.getD .skip
noncomputable def zwp : List ResultVar := Tryz.f41.results.toList
def zfv (t0 t2 t4 t8 t34 t35 : AV) : List AV := t0 :: ux 1 (t2 :: ux 1 (t4 :: ux 3 (t8 :: ux 25 (t34 :: t35 :: ux 133 []))))
def zwm : List Bool := zbv 3
noncomputable def zo8 : Code := zao [1, 1, 0, 1, 0, 0] zg1
def zwg (K : Kt) : AExit → List AV → zaa → Prop := zap tP zbv [1, 1, 0, 1, 0] zg1 (zaA tP zwp K)
def zj5 (t0 t2 t4 t8 t34 t35 : AV) (H : zaa) (K : Kt) : Prop := ALoop tP zo8 (zwg K) (zfv t0 t2 t4 t8 t34 t35) H
def zpb (t0 t2 t4 t8 t34 t35 : AV) (H : zaa) (K : Kt) (Kb3 : Lt) : Prop :=
 zac .add false t35 (.int .i64 1) fun t108 =>
 Kb3 (zfv t0 t2 t4 t8 t34 t108) H
def zg6 (t0 t2 t4 t8 t34 t35 : AV) (H : zaa) (K : Kt) (Kb3 : Lt) : Prop :=
 zpb t0 t2 t4 t8 t34 t35 H K Kb3
def zg2 (t0 t2 t4 t8 t9 t34 t35 t61 t62 t63 : AV) : List AV := t0 :: ux 1 (t2 :: ux 1 (t4 :: ux 3 (t8 :: t9 :: ux 24 (t34 :: t35 :: ux 25 (t61 :: t62 :: t63 :: ux 105 [])))))
def zwk : List Bool := zbv 11
noncomputable def zo6 : Code := zao [1, 1, 0, 0, 1, 1, 1, 1, 1, 1, 0, 0] zo8
def zwe (K : Kt) (Kb3 : Lt) : AExit → List AV → zaa → Prop := zap tP zbv [1, 1, 0, 0, 1, 1, 1, 1, 1, 1, 0] zo8 (zaU zwm Kb3 (zwg K))
def zpc (t0 t2 t4 t8 t9 t34 t35 t61 t62 t63 : AV) (H : zaa) (K : Kt) (Kb3 : Lt) : Prop := ALoop tP zo6 (zwe K Kb3) (zg2 t0 t2 t4 t8 t9 t34 t35 t61 t62 t63) H
def zj0 (t0 t2 t4 t8 t9 t13 t34 t35 t61 t62 t63 t68 t69 t70 : AV) : List AV := t0 :: ux 1 (t2 :: ux 1 (t4 :: ux 3 (t8 :: t9 :: ux 3 (t13 :: ux 20 (t34 :: t35 :: ux 25 (t61 :: t62 :: t63 :: ux 4 (t68 :: t69 :: t70 :: ux 98 [])))))))
def zHH : List Bool := zbv 14
noncomputable def zHy : Code := zao [1, 1, 0, 0, 1, 1, 0, 0] zo6
def zHw (K : Kt) (Kb3 : Lt) (Kb11 : Lt) : AExit → List AV → zaa → Prop := zap tP zbv [1, 1, 0, 0, 1, 1, 0] zo6 (zaU zwk Kb11 (zwe K Kb3))
def zpd (t0 t2 t4 t8 t9 t13 t34 t35 t61 t62 t63 t68 t69 t70 : AV) (H : zaa) (K : Kt) (Kb3 : Lt) (Kb11 : Lt) : Prop := ALoop tP zHy (zHw K Kb3 Kb11) (zj0 t0 t2 t4 t8 t9 t13 t34 t35 t61 t62 t63 t68 t69 t70) H
def zwj (t0 t2 t4 t8 t9 t13 t34 t35 t61 t62 t63 t68 t69 t70 : AV) (H : zaa) (K : Kt) (Kb3 : Lt) (Kb11 : Lt) (Kb14 : Lt) : Prop :=
 zac .add false t70 (.int .i64 1) fun t106 =>
 Kb14 (zj0 t0 t2 t4 t8 t9 t13 t34 t35 t61 t62 t63 t68 t69 t106) H
def zj3 (t0 t2 t4 t8 t9 t13 t34 t35 t61 t62 t63 t68 t69 t70 : AV) (H : zaa) (K : Kt) (Kb3 : Lt) (Kb11 : Lt) (Kb14 : Lt) : Prop :=
 zwj t0 t2 t4 t8 t9 t13 t34 t35 t61 t62 t63 t68 t69 t70 H K Kb3 Kb11 Kb14
def zj2 (t0 t2 t4 t8 t9 t13 t16 t34 t35 t61 t62 t63 t68 t69 t70 t75 : AV) (H : zaa) (K : Kt) (Kb3 : Lt) (Kb11 : Lt) (Kb14 : Lt) : Prop :=
 zaf t75
 (zac .add false t13 (.int .i64 1) fun t78 =>
 zac .add false t13 (.int .i64 1) fun t81 =>
 zaj 1 t8 t81 fun t82 =>
 zad false 1 t82 H fun t83 =>
 zau [(.int .i64 0), .snil] [(0, 1), (1, 1)] [(0, t9), (1, t16)] fun t86 =>
 zah 1 t83 fun t87 =>
 zay 2 [(.int .i64 0), .snil] 1 [(0, (.agg [(.int .i64 0), .snil]))] fun t88 =>
 zat zak 2 32 t83 t88 H fun t89 H =>
 zaj 1 t8 t78 fun t90 =>
 zal 1 t90 t89 H fun H =>
 zaj 2 t89 t87 fun t91 =>
 zal 2 t91 t86 H fun H =>
 zj3 t0 t2 t4 t8 t9 t13 t34 t35 t61 t62 t63 t68 t69 t70 H K Kb3 Kb11 Kb14)
 (zac .add false t13 (.int .i64 1) fun t94 =>
 zac .add false t13 (.int .i64 1) fun t97 =>
 zaj 1 t8 t97 fun t98 =>
 zad false 1 t98 H fun t99 =>
 zau [(.int .i64 0), .snil] [(0, 1), (1, 1)] [(0, t9), (1, t16)] fun t102 =>
 zay 2 [(.int .i64 0), .snil] 1 [(0, t102)] fun t103 =>
 zat zak 2 32 t99 t103 H fun t104 H =>
 zaj 1 t8 t94 fun t105 =>
 zal 1 t105 t104 H fun H =>
 zj3 t0 t2 t4 t8 t9 t13 t34 t35 t61 t62 t63 t68 t69 t70 H K Kb3 Kb11 Kb14)
def zo0 (t0 t2 t4 t8 t9 t13 t34 t35 t61 t62 t63 t68 t69 t70 : AV) (H : zaa) (K : Kt) (Kb3 : Lt) (Kb11 : Lt) (Kb14 : Lt) : Prop :=
 zac .lss false t70 t69 fun t71 =>
 zaf t71
 (zaj 1 t68 t70 fun t72 =>
 zad false 1 t72 H fun t73 =>
 zaz [(.bool false)] H fun t74 H =>
 (zal 1 t74 (.bool true) H fun H =>
 zal 1 t74 (.bool false) H fun H =>
 zad false 1 t74 H fun t75 =>
 zj2 t0 t2 t4 t8 t9 t13 t73 t34 t35 t61 t62 t63 t68 t69 t70 t75 H K Kb3 Kb11 Kb14) ∧ (zal 1 t74 (.bool false) H fun H =>
 zal 1 t74 (.bool true) H fun H =>
 zad false 1 t74 H fun t75 =>
 zj2 t0 t2 t4 t8 t9 t13 t73 t34 t35 t61 t62 t63 t68 t69 t70 t75 H K Kb3 Kb11 Kb14))
 (zac .add false t63 (.int .i64 1) fun t107 =>
 Kb11 (zg2 t0 t2 t4 t8 t9 t34 t35 t61 t62 t107) H)
def zoZ (t0 t2 t4 t8 t9 t34 t35 t61 t62 t63 : AV) (H : zaa) (K : Kt) (Kb3 : Lt) (Kb11 : Lt) : Prop :=
 zac .lss false t63 t62 fun t64 =>
 zaf t64
 (zaj 1 t61 t63 fun t66 =>
 zad false 1 t66 H fun t67 =>
 zah 1 t67 fun t69 =>
 zpd t0 t2 t4 t8 t9 t63 t34 t35 t61 t62 t63 t67 t69 (.int .i64 0) H K Kb3 Kb11)
 (zg6 t0 t2 t4 t8 t34 t35 H K Kb3)
def zg3 (t2 t8 t17 t18 t19 : AV) : List AV := ux 2 (t2 :: ux 5 (t8 :: ux 8 (t17 :: t18 :: t19 :: ux 149 [])))
def zwl : List Bool := zbv 27
noncomputable def zo7 : Code := zao [1, 1, 1, 1, 1, 1, 0, 1, 0, 0] zg1
def zwf (K : Kt) : AExit → List AV → zaa → Prop := zap tP zbv [1, 1, 1, 1, 1, 1, 0, 1, 0] zg1 (zaA tP zwp K)
def zj4 (t2 t8 t17 t18 t19 : AV) (H : zaa) (K : Kt) : Prop := ALoop tP zo7 (zwf K) (zg3 t2 t8 t17 t18 t19) H
def zg4 (t2 t8 t17 t18 t19 t20 : AV) : List AV := ux 2 (t2 :: ux 5 (t8 :: ux 8 (t17 :: t18 :: t19 :: t20 :: ux 148 [])))
def zwn : List Bool := zbv 30
noncomputable def zo9 : Code := zao [1, 0, 0, 1, 0, 0] zo7
def zwh (K : Kt) (Kb27 : Lt) : AExit → List AV → zaa → Prop := zap tP zbv [1, 0, 0, 1, 0] zo7 (zaU zwl Kb27 (zwf K))
def zpe (t2 t8 t17 t18 t19 t20 : AV) (H : zaa) (K : Kt) (Kb27 : Lt) : Prop := ALoop tP zo9 (zwh K Kb27) (zg4 t2 t8 t17 t18 t19 t20) H
def zg5 (t2 t8 t17 t18 t19 t20 t129 t130 t131 : AV) : List AV := ux 2 (t2 :: ux 5 (t8 :: ux 8 (t17 :: t18 :: t19 :: t20 :: ux 108 (t129 :: t130 :: t131 :: ux 37 []))))
def zwo : List Bool := zbv 33
noncomputable def zpa : Code := zao [1, 0, 0, 1, 0, 0] zo9
def zwi (K : Kt) (Kb27 : Lt) (Kb30 : Lt) : AExit → List AV → zaa → Prop := zap tP zbv [1, 0, 0, 1, 0] zo9 (zaU zwn Kb30 (zwh K Kb27))
def zpf (t2 t8 t17 t18 t19 t20 t129 t130 t131 : AV) (H : zaa) (K : Kt) (Kb27 : Lt) (Kb30 : Lt) : Prop := ALoop tP zpa (zwi K Kb27 Kb30) (zg5 t2 t8 t17 t18 t19 t20 t129 t130 t131) H
def zj1 (t2 t8 t17 t18 t19 t20 t22 t129 t130 t131 t140 t141 t142 : AV) : List AV := ux 2 (t2 :: ux 5 (t8 :: ux 8 (t17 :: t18 :: t19 :: t20 :: ux 1 (t22 :: ux 106 (t129 :: t130 :: t131 :: ux 8 (t140 :: t141 :: t142 :: ux 26 []))))))
def zHI : List Bool := zbv 36
noncomputable def zHz : Code := zao [1, 1, 0, 0, 1, 0, 1, 0, 0] zpa
def zHx (K : Kt) (Kb27 : Lt) (Kb30 : Lt) (Kb33 : Lt) : AExit → List AV → zaa → Prop := zap tP zbv [1, 1, 0, 0, 1, 0, 1, 0] zpa (zaU zwo Kb33 (zwi K Kb27 Kb30))
def zpg (t2 t8 t17 t18 t19 t20 t22 t129 t130 t131 t140 t141 t142 : AV) (H : zaa) (K : Kt) (Kb27 : Lt) (Kb30 : Lt) (Kb33 : Lt) : Prop := ALoop tP zHz (zHx K Kb27 Kb30 Kb33) (zj1 t2 t8 t17 t18 t19 t20 t22 t129 t130 t131 t140 t141 t142) H
def zd7 (t2 t8 t17 t18 t19 t20 t22 t129 t130 t131 t140 t141 t142 : AV) (H : zaa) (K : Kt) (Kb27 : Lt) (Kb30 : Lt) (Kb33 : Lt) (Kb36 : Lt) : Prop :=
 zac .add false t18 (.int .i64 1) fun t163 =>
 zac .add false t142 (.int .i64 1) fun t164 =>
 Kb36 (zj1 t2 t8 t17 t163 t19 t20 t22 t129 t130 t131 t140 t141 t164) H
def zo5 (t2 t8 t17 t18 t19 t20 t22 t129 t130 t131 t140 t141 t142 : AV) (H : zaa) (K : Kt) (Kb27 : Lt) (Kb30 : Lt) (Kb33 : Lt) (Kb36 : Lt) : Prop :=
 zac .lss false t142 t141 fun t143 =>
 zaf t143
 (zaj 2 t140 t142 fun t144 =>
 zad true 2 t144 H fun t145 =>
 zaz [(.int .i64 0), .snil] H fun t24 H =>
 zal 2 t24 t145 H fun H =>
 zae H (fun K' => K' t17 H) fun t146 =>
 zae H (fun K' => K' t19 H) fun t147 =>
 zae H (fun K' => zaj 1 t146 t147 (K' · H)) fun t148 =>
 zae H (fun K' => zas false 1 t148 H (K' · H)) fun t149 =>
 zae H (fun K' => zas true 2 t22 H (K' · H)) fun t150 =>
 zae H (fun K' => zay 2 [(.int .i64 0), .snil] 1 [(0, t150)] (K' · H)) fun t151 =>
 zae H (fun K' => zag 1 t24 (K' · H)) fun t152 =>
 zae H (fun K' => zas false 1 t152 H (K' · H)) fun t153 =>
 zae H (fun K' => zay 1 [.snil] 2 [(0, t151), (1, t153)] (K' · H)) fun t154 =>
 zbj H (fun H K' => ACalls tP zmz [t154] H K') fun t155 =>
 zae H (fun K' => zau [(.int .i64 0), .snil] [(0, 1), (1, 1)] [(1, t155)] (K' · H)) fun t156 =>
 zae H (fun K' => zah 1 t149 (K' · H)) fun t157 =>
 zae H (fun K' => zay 2 [(.int .i64 0), .snil] 1 [(0, (.agg [(.int .i64 0), .snil]))] (K' · H)) fun t158 =>
 zat zak 2 32 t149 t158 H fun t159 H =>
 (zaj 2 t159 t157 fun t160 =>
 (zal 2 t160 t156 H fun H =>
 zaj 1 t146 t147 fun t161 =>
 zal 1 t161 t159 H fun H =>
 zd7 t2 t8 t17 t18 t19 t20 t22 t129 t130 t131 t140 t141 t142 H K Kb27 Kb30 Kb33 Kb36) ∧ (zaj 1 t146 t147 fun t161 =>
 (zal 2 t160 t156 H fun H =>
 zal 1 t161 t159 H fun H =>
 zd7 t2 t8 t17 t18 t19 t20 t22 t129 t130 t131 t140 t141 t142 H K Kb27 Kb30 Kb33 Kb36) ∧ (zal 1 t161 t159 H fun H =>
 zal 2 t160 t156 H fun H =>
 zd7 t2 t8 t17 t18 t19 t20 t22 t129 t130 t131 t140 t141 t142 H K Kb27 Kb30 Kb33 Kb36))) ∧ (zaj 1 t146 t147 fun t161 =>
 (zaj 2 t159 t157 fun t160 =>
 (zal 2 t160 t156 H fun H =>
 zal 1 t161 t159 H fun H =>
 zd7 t2 t8 t17 t18 t19 t20 t22 t129 t130 t131 t140 t141 t142 H K Kb27 Kb30 Kb33 Kb36) ∧ (zal 1 t161 t159 H fun H =>
 zal 2 t160 t156 H fun H =>
 zd7 t2 t8 t17 t18 t19 t20 t22 t129 t130 t131 t140 t141 t142 H K Kb27 Kb30 Kb33 Kb36)) ∧ (zal 1 t161 t159 H fun H =>
 zaj 2 t159 t157 fun t160 =>
 zal 2 t160 t156 H fun H =>
 zd7 t2 t8 t17 t18 t19 t20 t22 t129 t130 t131 t140 t141 t142 H K Kb27 Kb30 Kb33 Kb36)))
 (zac .gtr false t18 (.int .i64 500) fun t166 =>
 zaf t166
 (zaw [.snil, (.bool false)] (K · H))
 (zac .add false t131 (.int .i64 1) fun t167 =>
 Kb33 (zg5 t2 t8 t17 t18 t19 t20 t129 t130 t167) H))
def zo4 (t2 t8 t17 t18 t19 t20 t129 t130 t131 : AV) (H : zaa) (K : Kt) (Kb27 : Lt) (Kb30 : Lt) (Kb33 : Lt) : Prop :=
 zac .lss false t131 t130 fun t132 =>
 zaf t132
 (zaj 2 t129 t131 fun t133 =>
 zad true 2 t133 H fun t134 =>
 zaz [(.int .i64 0), .snil] H fun t22 H =>
 zal 2 t22 t134 H fun H =>
 zac .sub false t19 t20 fun t138 =>
 zaj 1 t17 t138 fun t139 =>
 zad false 1 t139 H fun t140 =>
 zah 1 t140 fun t141 =>
 zpg t2 t8 t17 t18 t19 t20 t22 t129 t130 t131 t140 t141 (.int .i64 0) H K Kb27 Kb30 Kb33)
 (zac .add false t20 (.int .i64 1) fun t125 =>
 Kb30 (zg4 t2 t8 t17 t18 t19 t125) H)
def zo3 (t2 t8 t17 t18 t19 t20 : AV) (H : zaa) (K : Kt) (Kb27 : Lt) (Kb30 : Lt) : Prop :=
 zac .leq false t20 t19 fun t123 =>
 zaf t123
 (zaj 1 t8 t20 fun t128 =>
 zad false 1 t128 H fun t129 =>
 zah 1 t129 fun t130 =>
 zpf t2 t8 t17 t18 t19 t20 t129 t130 (.int .i64 0) H K Kb27 Kb30)
 (zac .add false t19 (.int .i64 1) fun t120 =>
 Kb27 (zg3 t2 t8 t17 t18 t120) H)
def zo1 (t2 t8 t17 t18 t19 : AV) (H : zaa) (K : Kt) (Kb27 : Lt) : Prop :=
 zac .leq false t19 t2 fun t118 =>
 zaf t118
 (zpe t2 t8 t17 t18 t19 (.int .i64 1) H K Kb27)
 (zaw [t17, (.bool true)] (K · H))
def zo2 (t0 t2 t4 t8 t34 t35 : AV) (H : zaa) (K : Kt) (Kb3 : Lt) : Prop :=
 zac .lss false t35 t34 fun t36 =>
 zaf t36
 (zad true 3 t4 H fun t40 =>
 ACalls tP zh9 [t0, t40, t35] H fun t42 H =>
 zav t42 0 fun t43 =>
 zav t42 1 fun t44 =>
 aUn .not t44 fun t46 =>
 zab t46 false H (fun K' => K' t2 H) fun t48 H =>
 zab t46 false H (fun K' => zac .eql false t48 (.int .i64 0) (K' · H)) fun t49 H =>
 zai t46 (.bool true) t49 fun t50 =>
 zaf t50
 (zg6 t0 t2 t4 t8 t34 t35 H K Kb3)
 (zac .sub false t2 (.int .i64 1) fun t55 =>
 ACalls tP zh6 [t0, t43, t55] H fun t56 H =>
 zav t56 0 fun t57 =>
 zav t56 1 fun t58 =>
 aUn .not t58 fun t60 =>
 zaf t60
 (zaw [.snil, (.bool false)] (K · H))
 (zah 1 t57 fun t62 =>
 zpc t0 t2 t4 t8 t35 t34 t35 t57 t62 (.int .i64 0) H K Kb3)))
 (zac .add false t2 (.int .i64 1) fun t110 =>
 za4 24 [.snil] t110 t110 H fun t111 H =>
 zau [(.int .i64 0), .snil] [(0, 1), (1, 1)] [] fun t113 =>
 zcO zak 2 1 [(0, t113)] H fun t114 H =>
 zaj 1 t111 (.int .i64 0) fun t115 =>
 zal 1 t115 t114 H fun H =>
 zj4 t2 t8 t111 (.int .i64 1) (.int .i64 1) H K)
def zwd (t0 t1 t2 : AV) (H : zaa) (K : Kt) : Prop :=
 zax t1 H fun t4 H =>
 zac .add false t2 (.int .i64 1) fun t26 =>
 za4 24 [.snil] t26 t26 H fun t27 H =>
 zag 1 t4 fun t29 =>
 zad false 1 t29 H fun t30 =>
 zaj 3 t0 t30 fun t31 =>
 zag 2 t31 fun t32 =>
 zad false 1 t32 H fun t33 =>
 zah 1 t33 fun t34 =>
 zj5 t0 t2 t4 t27 t34 (.int .i64 0) H K
theorem zHB {t0 t2 t4 t8 t9 t13 t34 t35 t61 t62 t63 t68 t69 t70 : AV} {H : zaa} {K : Kt} {Kb3 : Lt} {Kb11 : Lt} (Inv : Nat → AV → zaa → Prop) (n : Nat) (h0 : HSc H → Inv n t70 H)
  (round : Rd1 (fun t70 => zj0 t0 t2 t4 t8 t9 t13 t34 t35 t61 t62 t63 t68 t69 t70) (fun t70 => fun H Kb14 => zo0 t0 t2 t4 t8 t9 t13 t34 t35 t61 t62 t63 t68 t69 t70 H K Kb3 Kb11 Kb14) H Inv) : zpd t0 t2 t4 t8 t9 t13 t34 t35 t61 t62 t63 t68 t69 t70 H K Kb3 Kb11 :=
 lp1 (M := zbv) zHH t70 (by kernel_rfl) Inv n h0 round
theorem zHA {t0 t2 t4 t8 t9 t34 t35 t61 t62 t63 : AV} {H : zaa} {K : Kt} {Kb3 : Lt} (Inv : Nat → AV → zaa → Prop) (n : Nat) (h0 : HSc H → Inv n t63 H)
  (round : Rd1 (fun t63 => zg2 t0 t2 t4 t8 t9 t34 t35 t61 t62 t63) (fun t63 => fun H Kb11 => zoZ t0 t2 t4 t8 t9 t34 t35 t61 t62 t63 H K Kb3 Kb11) H Inv) : zpc t0 t2 t4 t8 t9 t34 t35 t61 t62 t63 H K Kb3 :=
 lp1 (M := zbv) zwk t63 (by kernel_rfl) Inv n h0 round
theorem zHG {t2 t8 t17 t18 t19 t20 t22 t129 t130 t131 t140 t141 t142 : AV} {H : zaa} {K : Kt} {Kb27 : Lt} {Kb30 : Lt} {Kb33 : Lt} (Inv : Nat → AV → AV → zaa → Prop) (n : Nat) (h0 : HSc H → Inv n t18 t142 H)
  (round : Rd2 (fun t18 => fun t142 => zj1 t2 t8 t17 t18 t19 t20 t22 t129 t130 t131 t140 t141 t142) (fun t18 => fun t142 => fun H Kb36 => zo5 t2 t8 t17 t18 t19 t20 t22 t129 t130 t131 t140 t141 t142 H K Kb27 Kb30 Kb33 Kb36) H Inv) : zpg t2 t8 t17 t18 t19 t20 t22 t129 t130 t131 t140 t141 t142 H K Kb27 Kb30 Kb33 :=
 lp2 (M := zbv) zHI t18 t142 (by kernel_rfl) Inv n h0 round
theorem zHF {t2 t8 t17 t18 t19 t20 t129 t130 t131 : AV} {H : zaa} {K : Kt} {Kb27 : Lt} {Kb30 : Lt} (Inv : Nat → AV → AV → zaa → Prop) (n : Nat) (h0 : HSc H → Inv n t18 t131 H)
  (round : Rd2 (fun t18 => fun t131 => zg5 t2 t8 t17 t18 t19 t20 t129 t130 t131) (fun t18 => fun t131 => fun H Kb33 => zo4 t2 t8 t17 t18 t19 t20 t129 t130 t131 H K Kb27 Kb30 Kb33) H Inv) : zpf t2 t8 t17 t18 t19 t20 t129 t130 t131 H K Kb27 Kb30 :=
 lp2 (M := zbv) zwo t18 t131 (by kernel_rfl) Inv n h0 round
theorem zHE {t2 t8 t17 t18 t19 t20 : AV} {H : zaa} {K : Kt} {Kb27 : Lt} (Inv : Nat → AV → AV → zaa → Prop) (n : Nat) (h0 : HSc H → Inv n t18 t20 H)
  (round : Rd2 (fun t18 => fun t20 => zg4 t2 t8 t17 t18 t19 t20) (fun t18 => fun t20 => fun H Kb30 => zo3 t2 t8 t17 t18 t19 t20 H K Kb27 Kb30) H Inv) : zpe t2 t8 t17 t18 t19 t20 H K Kb27 :=
 lp2 (M := zbv) zwn t18 t20 (by kernel_rfl) Inv n h0 round
theorem zHC {t2 t8 t17 t18 t19 : AV} {H : zaa} {K : Kt} (Inv : Nat → AV → AV → zaa → Prop) (n : Nat) (h0 : HSc H → Inv n t18 t19 H)
  (round : Rd2 (fun t18 => fun t19 => zg3 t2 t8 t17 t18 t19) (fun t18 => fun t19 => fun H Kb27 => zo1 t2 t8 t17 t18 t19 H K Kb27) H Inv) : zj4 t2 t8 t17 t18 t19 H K :=
 lp2 (M := zbv) zwl t18 t19 (by kernel_rfl) Inv n h0 round
theorem zHD {t0 t2 t4 t8 t34 t35 : AV} {H : zaa} {K : Kt} (Inv : Nat → AV → zaa → Prop) (n : Nat) (h0 : HSc H → Inv n t35 H)
  (round : Rd1 (fun t35 => zfv t0 t2 t4 t8 t34 t35) (fun t35 => fun H Kb3 => zo2 t0 t2 t4 t8 t34 t35 H K Kb3) H Inv) : zj5 t0 t2 t4 t8 t34 t35 H K :=
 lp1 (M := zbv) zwm t35 (by kernel_rfl) Inv n h0 round
theorem zHJ {t0 t1 t2 : AV} {H : zaa} {K : Kt} (h : HSc H → zwd t0 t1 t2 H K) : ACalls tP zmo [t0, t1, t2] H K :=
 zar (M := zbv) Tryz.func41 (c := zg1) (by kernel_rfl) (fun hs => Eq.mpr (by kernel_rfl) (h hs))
def zjw : Nat → List Bool
 | 3 => rl false [2,2,6,3,12]
 | _ => []
noncomputable def zog : Code := Tryz.f23.body.getD .skip
noncomputable def zFO : List ResultVar := Tryz.f23.results.toList
def zjx (t2 t3 t10 t11 t12 : AV) : List AV := ux 2 (t2 :: t3 :: ux 6 (t10 :: t11 :: t12 :: ux 12 []))
def zFM : List Bool := zjw 3
noncomputable def zFK : Code := zao [1, 1, 0, 1, 0, 0] zog
def zFJ (K : Kt) : AExit → List AV → zaa → Prop := zap tP zjw [1, 1, 0, 1, 0] zog (zaA tP zFO K)
def zjy (t2 t3 t10 t11 t12 : AV) (H : zaa) (K : Kt) : Prop := ALoop tP zFK (zFJ K) (zjx t2 t3 t10 t11 t12) H
def zof (t2 t3 t10 t11 t12 : AV) (H : zaa) (K : Kt) (Kb3 : Lt) : Prop :=
 zac .lss false t12 t11 fun t13 =>
 zaf t13
 (zaj 2 t10 t12 fun t14 =>
 zad true 2 t14 H fun t15 =>
 zaz [(.int .i64 0), .snil] H fun t5 H =>
 zal 2 t5 t15 H fun H =>
 zae H (fun K' => zag 1 t3 (K' · H)) fun t16 =>
 zae H (fun K' => zas false 1 t16 H (K' · H)) fun t17 =>
 zae H (fun K' => zas true 2 t5 H (K' · H)) fun t18 =>
 zbj H (fun H K' => ACalls tP zh0 [t18] H K') fun t19 =>
 zae H (fun K' => zay 2 [(.int .i64 0), .snil] 1 [(0, t19)] (K' · H)) fun t20 =>
 zat zak 2 32 t17 t20 H fun t21 H =>
 zae H (fun K' => zag 1 t3 (K' · H)) fun t22 =>
 zal 1 t22 t21 H fun H =>
 zac .add false t12 (.int .i64 1) fun t23 =>
 Kb3 (zjx t2 t3 t10 t11 t23) H)
 (zad true 2 t3 H fun t24 =>
 zal 2 t2 t24 H fun H =>
 zad true 2 t2 H fun r0 =>
 K r0 H)
def zvq (t0 : AV) (H : zaa) (K : Kt) : Prop :=
 zax t0 H fun t1 H =>
 zaz [(.int .i64 0), .snil] H fun t2 H =>
 zag 0 t1 fun t6 =>
 zad false 1 t6 H fun t7 =>
 zau [(.int .i64 0), .snil] [(0, 1), (1, 1)] [(0, t7)] fun t8 =>
 zaz [(.int .i64 0), .snil] H fun t3 H =>
 zal 2 t3 t8 H fun H =>
 zag 1 t1 fun t9 =>
 zad false 1 t9 H fun t10 =>
 zah 1 t10 fun t11 =>
 zjy t2 t3 t10 t11 (.int .i64 0) H K
theorem zFL {t2 t3 t10 t11 t12 : AV} {H : zaa} {K : Kt} (Inv : Nat → AV → zaa → Prop) (n : Nat) (h0 : HSc H → Inv n t12 H)
  (round : Rd1 (fun t12 => zjx t2 t3 t10 t11 t12) (fun t12 => fun H Kb3 => zof t2 t3 t10 t11 t12 H K Kb3) H Inv) : zjy t2 t3 t10 t11 t12 H K :=
 lp1 (M := zjw) zFM t12 (by kernel_rfl) Inv n h0 round
theorem zFN {t0 : AV} {H : zaa} {K : Kt} (h : HSc H → zvq t0 H K) : ACalls tP zh0 [t0] H K :=
 zar (M := zjw) Tryz.func23 (c := zog) (by kernel_rfl) (fun hs => Eq.mpr (by kernel_rfl) (h hs))
def zJY : Nat → List Bool
 | 300001 => rl false [0,1]
 | _ => []
noncomputable def zJZ : Code := Tryz.f64.body.getD .skip
def zp5 (t0 : AV) (H : zaa) (K : Kt) : Prop :=
 zfH true .eql t0 fun t4 =>
 zaf t4
 (K .snil H)
 (zay 2 [(.int .i64 0), .snil] 0 [] fun t5 =>
 zat zak 2 32 t5 t0 H fun t7 H =>
 K t7 H)
theorem zxy {t0 : AV} {H : zaa} {K : Kt} (h : HSc H → zp5 t0 H K) : ACalls tP zgn [t0] H K :=
 zar (M := zJY) Tryz.func64 (c := zJZ) (by kernel_rfl) (fun hs => Eq.mpr (by kernel_rfl) (h hs))
def zDN (_ : Nat) : List Bool := []
noncomputable def zDO : Code := Tryz.f13.body.getD .skip
def zuC (t0 t1 : AV) (H : zaa) (K : Kt) : Prop :=
 zax t0 H fun t2 H =>
 zax t1 H fun t3 H =>
 zae H (fun K' => zag 0 t2 (K' · H)) fun t6 =>
 zae H (fun K' => zas false 1 t6 H (K' · H)) fun t7 =>
 zae H (fun K' => zag 0 t3 (K' · H)) fun t8 =>
 zae H (fun K' => zas false 1 t8 H (K' · H)) fun t9 =>
 zbj H (fun H K' => ACalls tP zh3 [t7, t9] H K') fun t10 =>
 zae H (fun K' => zag 1 t2 (K' · H)) fun t11 =>
 zae H (fun K' => zas false 1 t11 H (K' · H)) fun t12 =>
 zae H (fun K' => zah 1 t12 (K' · H)) fun t13 =>
 zae H (fun K' => zag 1 t3 (K' · H)) fun t14 =>
 zae H (fun K' => zas false 1 t14 H (K' · H)) fun t15 =>
 zae H (fun K' => zah 1 t15 (K' · H)) fun t16 =>
 zbj H (fun H K' => ACalls tP zh3 [t13, t16] H K') fun t17 =>
 zae H (fun K' => zay 1 [(.int .i64 0)] 2 [(0, t10), (1, t17)] (K' · H)) fun t18 =>
 zbj H (fun H K' => ACalls tP zmk [t18] H K') fun t19 =>
 zae H (fun K' => K' t19 H) fun t5 =>
 zac .neq false t5 (.int .i64 0) fun t21 =>
 zaf t21
 (K t5 H)
 (zag 1 t2 fun t23 =>
 zad false 1 t23 H fun t24 =>
 zag 1 t3 fun t25 =>
 zad false 1 t25 H fun t26 =>
 ACalls tP zmm [t24, t26, (.fn zdT [])] H fun t27 H =>
 K t27 H)
theorem zDP {t0 t1 : AV} {H : zaa} {K : Kt} (h : HSc H → zuC t0 t1 H K) : ACalls tP zdT [t0, t1] H K :=
 zar (M := zDN) Tryz.func13 (c := zDO) (by kernel_rfl) (fun hs => Eq.mpr (by kernel_rfl) (h hs))
def zjN : Nat → List Bool
 | 2 => rl false [0,3,8,3,25]
 | _ => []
noncomputable def zoF : Code := Tryz.f33.body.getD .skip
noncomputable def zGR : List ResultVar := Tryz.f33.results.toList
def zjO (t0 t1 t2 t11 t12 t13 : AV) : List AV := t0 :: t1 :: t2 :: ux 8 (t11 :: t12 :: t13 :: ux 25 [])
def zGP : List Bool := zjN 2
noncomputable def zGN : Code := zao [1, 0, 1, 0, 0] zoF
def zGM (K : Kt) : AExit → List AV → zaa → Prop := zap tP zjN [1, 0, 1, 0] zoF (zaA tP zGR K)
def zvR (t0 t1 t2 t11 t12 t13 : AV) (H : zaa) (K : Kt) : Prop := ALoop tP zGN (zGM K) (zjO t0 t1 t2 t11 t12 t13) H
def zoE (t0 t1 t2 t11 t12 t13 : AV) (H : zaa) (K : Kt) (Kb2 : Lt) : Prop :=
 zac .lss false t13 t12 fun t14 =>
 zaf t14
 (zaj 2 t11 t13 fun t16 =>
 zad true 2 t16 H fun t17 =>
 zaz [(.int .i64 0), .snil] H fun t8 H =>
 zal 2 t8 t17 H fun H =>
 zah 1 t1 fun t20 =>
 zac .geq false t13 t20 fun t21 =>
 zaf t21
 (K (.int .i64 1) H)
 (zaj 2 t1 t13 fun t24 =>
 zad true 2 t24 H fun t25 =>
 zaz [(.int .i64 0), .snil] H fun t9 H =>
 zal 2 t9 t25 H fun H =>
 zad true 2 t8 H fun t27 =>
 zad true 2 t9 H fun t28 =>
 aCallV tP t2 [t27, t28] H fun t29 H =>
 zac .neq false t29 (.int .i64 0) fun t31 =>
 zaf t31
 (K t29 H)
 (zac .add false t13 (.int .i64 1) fun t33 =>
 Kb2 (zjO t0 t1 t2 t11 t12 t33) H)))
 (zah 1 t0 fun t35 =>
 zah 1 t1 fun t37 =>
 zac .lss false t35 t37 fun t38 =>
 zaf t38
 (K (.int .i64 (-1)) H)
 (K (.int .i64 0) H))
def zvQ (t0 t1 t2 : AV) (H : zaa) (K : Kt) : Prop :=
 zah 1 t0 fun t12 =>
 zvR t0 t1 t2 t0 t12 (.int .i64 0) H K
theorem zGO {t0 t1 t2 t11 t12 t13 : AV} {H : zaa} {K : Kt} (Inv : Nat → AV → zaa → Prop) (n : Nat) (h0 : HSc H → Inv n t13 H)
  (round : Rd1 (fun t13 => zjO t0 t1 t2 t11 t12 t13) (fun t13 => fun H Kb2 => zoE t0 t1 t2 t11 t12 t13 H K Kb2) H Inv) : zvR t0 t1 t2 t11 t12 t13 H K :=
 lp1 (M := zjN) zGP t13 (by kernel_rfl) Inv n h0 round
theorem zGQ {t0 t1 t2 : AV} {H : zaa} {K : Kt} (h : HSc H → zvQ t0 t1 t2 H K) : ACalls tP zmm [t0, t1, t2] H K :=
 zar (M := zjN) Tryz.func33 (c := zoF) (by kernel_rfl) (fun hs => Eq.mpr (by kernel_rfl) (h hs))
def zjG : Nat → List Bool
 | 3 => rl false [3,1,2,3,9]
 | _ => []
noncomputable def zoA : Code := Tryz.f31.body.getD .skip
noncomputable def zGC : List ResultVar := Tryz.f31.results.toList
def zjI (t3 t6 t7 t8 : AV) : List AV := ux 3 (t3 :: ux 2 (t6 :: t7 :: t8 :: ux 9 []))
def zGA : List Bool := zjG 3
noncomputable def zGy : Code := zao [1, 1, 0, 1, 0, 0] zoA
def zGx (K : Kt) : AExit → List AV → zaa → Prop := zap tP zjG [1, 1, 0, 1, 0] zoA (zaA tP zGC K)
def zvN (t3 t6 t7 t8 : AV) (H : zaa) (K : Kt) : Prop := ALoop tP zGy (zGx K) (zjI t3 t6 t7 t8) H
def zjH (t3 t6 t7 t8 : AV) (H : zaa) (K : Kt) (Kb3 : Lt) : Prop :=
 zac .lss false t8 t7 fun t9 =>
 zaf t9
 (zaj 1 t6 t8 fun t10 =>
 zad false 1 t10 H fun t11 =>
 zac .neq false t11 t3 fun t14 =>
 zaf t14
 (K t11 H)
 (zac .add false t8 (.int .i64 1) fun t16 =>
 Kb3 (zjI t3 t6 t7 t16) H))
 (K t3 H)
def zvM (t0 : AV) (H : zaa) (K : Kt) : Prop :=
 zah 1 t0 fun t7 =>
 zvN (.int .i64 0) t0 t7 (.int .i64 0) H K
theorem zGz {t3 t6 t7 t8 : AV} {H : zaa} {K : Kt} (Inv : Nat → AV → zaa → Prop) (n : Nat) (h0 : HSc H → Inv n t8 H)
  (round : Rd1 (fun t8 => zjI t3 t6 t7 t8) (fun t8 => fun H Kb3 => zjH t3 t6 t7 t8 H K Kb3) H Inv) : zvN t3 t6 t7 t8 H K :=
 lp1 (M := zjG) zGA t8 (by kernel_rfl) Inv n h0 round
theorem zGB {t0 : AV} {H : zaa} {K : Kt} (h : HSc H → zvM t0 H K) : ACalls tP zmk [t0] H K :=
 zar (M := zjG) Tryz.func31 (c := zoA) (by kernel_rfl) (fun hs => Eq.mpr (by kernel_rfl) (h hs))
def zGJ (_ : Nat) : List Bool := []
noncomputable def zGK : Code := Tryz.f32.body.getD .skip
def zvP (t0 t1 : AV) (H : zaa) (K : Kt) : Prop :=
 ACalls tP zia [t0] H fun t8 H =>
 ACalls tP zia [t1] H fun t10 H =>
 zaf t8
 (zaf t10
 (K (.int .i64 0) H)
 (K (.int .i64 (-1)) H))
 (zaf t10
 (K (.int .i64 1) H)
 (zac .lss false t0 t1 fun t16 =>
 zaf t16
 (K (.int .i64 (-1)) H)
 (zac .gtr false t0 t1 fun t19 =>
 zaf t19
 (K (.int .i64 1) H)
 (K (.int .i64 0) H))))
theorem zGL {t0 t1 : AV} {H : zaa} {K : Kt} (h : HSc H → zvP t0 t1 H K) : ACalls tP zh3 [t0, t1] H K :=
 zar (M := zGJ) Tryz.func32 (c := zGK) (by kernel_rfl) (fun hs => Eq.mpr (by kernel_rfl) (h hs))
def zIv (_ : Nat) : List Bool := []
noncomputable def zIw : Code := Tryz.f52.body.getD .skip
def zwL (t0 : AV) (H : zaa) (K : Kt) : Prop :=
 zac .neq false t0 t0 fun t5 =>
 K t5 H
theorem zIx {t0 : AV} {H : zaa} {K : Kt} (h : HSc H → zwL t0 H K) : ACalls tP zia [t0] H K :=
 zar (M := zIv) Tryz.func52 (c := zIw) (by kernel_rfl) (fun hs => Eq.mpr (by kernel_rfl) (h hs))
def zjP : Nat → List Bool
 | 4 => rl false [2,2,6,3,12]
 | _ => []
noncomputable def zoH : Code := Tryz.f34.body.getD .skip
noncomputable def zGX : List ResultVar := Tryz.f34.results.toList
def zjQ (t2 t3 t10 t11 t12 : AV) : List AV := ux 2 (t2 :: t3 :: ux 6 (t10 :: t11 :: t12 :: ux 12 []))
def zGV : List Bool := zjP 4
noncomputable def zGT : Code := zao [1, 1, 0, 1, 0, 1, 0, 0] zoH
def zGS (K : Kt) : AExit → List AV → zaa → Prop := zap tP zjP [1, 1, 0, 1, 0, 1, 0] zoH (zaA tP zGX K)
def zjS (t2 t3 t10 t11 t12 : AV) (H : zaa) (K : Kt) : Prop := ALoop tP zGT (zGS K) (zjQ t2 t3 t10 t11 t12) H
def zjR (t2 t3 : AV) (H : zaa) (K : Kt) : Prop :=
 zad true 2 t3 H fun t24 =>
 zal 2 t2 t24 H fun H =>
 zad true 2 t2 H fun r0 =>
 K r0 H
def zoG (t2 t3 t10 t11 t12 : AV) (H : zaa) (K : Kt) (Kb4 : Lt) : Prop :=
 zac .lss false t12 t11 fun t13 =>
 zaf t13
 (zaj 3 t10 t12 fun t14 =>
 zad true 3 t14 H fun t15 =>
 zaz [(.int .i64 0), (.int .i64 0), .snil] H fun t5 H =>
 zal 3 t5 t15 H fun H =>
 zae H (fun K' => zag 1 t3 (K' · H)) fun t16 =>
 zae H (fun K' => zas false 1 t16 H (K' · H)) fun t17 =>
 zae H (fun K' => zas true 3 t5 H (K' · H)) fun t18 =>
 zbj H (fun H K' => ACalls tP zh4 [t18] H K') fun t19 =>
 zae H (fun K' => zay 2 [(.int .i64 0), .snil] 1 [(0, t19)] (K' · H)) fun t20 =>
 zat zak 2 32 t17 t20 H fun t21 H =>
 zae H (fun K' => zag 1 t3 (K' · H)) fun t22 =>
 zal 1 t22 t21 H fun H =>
 zac .add false t12 (.int .i64 1) fun t23 =>
 Kb4 (zjQ t2 t3 t10 t11 t23) H)
 (zjR t2 t3 H K)
def zvS (t0 : AV) (H : zaa) (K : Kt) : Prop :=
 zax t0 H fun t1 H =>
 zaz [(.int .i64 0), .snil] H fun t2 H =>
 zaz [(.int .i64 0), .snil] H fun t3 H =>
 zag 0 t1 fun t6 =>
 zad false 1 t6 H fun t7 =>
 zac .eql false t7 (.int .i64 6) fun t8 =>
 zaf t8
 (zag 2 t1 fun t9 =>
 zad false 1 t9 H fun t10 =>
 zah 1 t10 fun t11 =>
 zjS t2 t3 t10 t11 (.int .i64 0) H K)
 (zjR t2 t3 H K)
theorem zGU {t2 t3 t10 t11 t12 : AV} {H : zaa} {K : Kt} (Inv : Nat → AV → zaa → Prop) (n : Nat) (h0 : HSc H → Inv n t12 H)
  (round : Rd1 (fun t12 => zjQ t2 t3 t10 t11 t12) (fun t12 => fun H Kb4 => zoG t2 t3 t10 t11 t12 H K Kb4) H Inv) : zjS t2 t3 t10 t11 t12 H K :=
 lp1 (M := zjP) zGV t12 (by kernel_rfl) Inv n h0 round
theorem zGW {t0 : AV} {H : zaa} {K : Kt} (h : HSc H → zvS t0 H K) : ACalls tP zh4 [t0] H K :=
 zar (M := zjP) Tryz.func34 (c := zoH) (by kernel_rfl) (fun hs => Eq.mpr (by kernel_rfl) (h hs))
def zEb (_ : Nat) : List Bool := []
noncomputable def zEc : Code := Tryz.f14.body.getD .skip
def znO (t0 t1 : AV) (H : zaa) (K : Kt) : Prop :=
 zax t0 H fun t2 H =>
 zax t1 H fun t3 H =>
 zag 0 t2 fun t5 =>
 zad false 1 t5 H fun t6 =>
 zag 0 t3 fun t7 =>
 zad false 1 t7 H fun t8 =>
 zac .eql false t6 t8 fun t9 =>
 zab t9 true H (fun K' => zag 1 t2 (K' · H)) fun t11 H =>
 zab t9 true H (fun K' => zad false 1 t11 H (K' · H)) fun t12 H =>
 zab t9 true H (fun K' => zag 1 t3 (K' · H)) fun t13 H =>
 zab t9 true H (fun K' => zad false 1 t13 H (K' · H)) fun t14 H =>
 zab t9 true H (fun K' => ACalls tP zgo [t12, t14] H K') fun t15 H =>
 zai t9 t15 (.bool false) fun t16 =>
 K t16 H
theorem zEd {t0 t1 : AV} {H : zaa} {K : Kt} (h : HSc H → znO t0 t1 H K) : ACalls tP zeW [t0, t1] H K :=
 zar (M := zEb) Tryz.func14 (c := zEc) (by kernel_rfl) (fun hs => Eq.mpr (by kernel_rfl) (h hs))
def zkP : Nat → List Bool
 | 4 => rl false [0,2,10,2,13]
 | _ => []
noncomputable def zql : Code := Tryz.f9.body.getD .skip
noncomputable def zKS : List ResultVar := Tryz.f9.results.toList
def zkQ (t0 t1 t12 t13 : AV) : List AV := t0 :: t1 :: ux 10 (t12 :: t13 :: ux 13 [])
def zKQ : List Bool := zkP 4
noncomputable def zKO : Code := zao [1, 1, 0, 1, 0, 0] zql
def zKN (K : Kt) : AExit → List AV → zaa → Prop := zap tP zkP [1, 1, 0, 1, 0] zql (zaA tP zKS K)
def zxS (t0 t1 t12 t13 : AV) (H : zaa) (K : Kt) : Prop := ALoop tP zKO (zKN K) (zkQ t0 t1 t12 t13) H
def zqk (t0 t1 t12 t13 : AV) (H : zaa) (K : Kt) (Kb4 : Lt) : Prop :=
 zac .lss false t13 t12 fun t14 =>
 zaf t14
 (zae H (fun K' => K' t0 H) fun t16 =>
 zae H (fun K' => K' t13 H) fun t17 =>
 zae H (fun K' => zaj 2 t16 t17 (K' · H)) fun t18 =>
 zae H (fun K' => zas true 2 t18 H (K' · H)) fun t19 =>
 zae H (fun K' => K' t1 H) fun t20 =>
 zae H (fun K' => K' t13 H) fun t21 =>
 zae H (fun K' => zaj 2 t20 t21 (K' · H)) fun t22 =>
 zae H (fun K' => zas true 2 t22 H (K' · H)) fun t23 =>
 zbj H (fun H K' => ACalls tP zeW [t19, t23] H K') fun t24 =>
 zae H (fun K' => aUn .not t24 (K' · H)) fun t25 =>
 zaf t25
 (K (.bool false) H)
 (zac .add false t13 (.int .i64 1) fun t26 =>
 Kb4 (zkQ t0 t1 t12 t26) H))
 (K (.bool true) H)
def zq7 (t0 t1 : AV) (H : zaa) (K : Kt) : Prop :=
 zah 1 t0 fun t7 =>
 zah 1 t1 fun t9 =>
 zac .neq false t7 t9 fun t10 =>
 zaf t10
 (K (.bool false) H)
 (zah 1 t0 fun t12 =>
 zxS t0 t1 t12 (.int .i64 0) H K)
theorem zKP {t0 t1 t12 t13 : AV} {H : zaa} {K : Kt} (Inv : Nat → AV → zaa → Prop) (n : Nat) (h0 : HSc H → Inv n t13 H)
  (round : Rd1 (fun t13 => zkQ t0 t1 t12 t13) (fun t13 => fun H Kb4 => zqk t0 t1 t12 t13 H K Kb4) H Inv) : zxS t0 t1 t12 t13 H K :=
 lp1 (M := zkP) zKQ t13 (by kernel_rfl) Inv n h0 round
theorem zKR {t0 t1 : AV} {H : zaa} {K : Kt} (h : HSc H → zq7 t0 t1 H K) : ACalls tP zgo [t0, t1] H K :=
 zar (M := zkP) Tryz.func9 (c := zql) (by kernel_rfl) (fun hs => Eq.mpr (by kernel_rfl) (h hs))
def zEw (_ : Nat) : List Bool := []
noncomputable def zEx : Code := Tryz.f15.body.getD .skip
def zuQ (t0 t1 : AV) (H : zaa) (K : Kt) : Prop :=
 zax t1 H fun t3 H =>
 zaz [(.int .i64 0), .snil] H fun t4 H =>
 zad true 3 t3 H fun t7 =>
 ACalls tP zeZ [t0, t7] H fun t8 H =>
 aUn .not t8 fun t9 =>
 zaf t9
 (zau [(.int .i64 0), .snil] [(0, 1), (1, 1)] [] fun t10 =>
 zal 2 t4 t10 H fun H =>
 zad true 2 t4 H fun r0 =>
 zaw [r0, (.bool false)] (K · H))
 (zad true 3 t3 H fun t11 =>
 ACalls tP zh4 [t11] H fun t12 H =>
 zal 2 t4 t12 H fun H =>
 zad true 2 t4 H fun r0 =>
 zaw [r0, (.bool true)] (K · H))
theorem zEy {t0 t1 : AV} {H : zaa} {K : Kt} (h : HSc H → zuQ t0 t1 H K) : ACalls tP zl6 [t0, t1] H K :=
 zar (M := zEw) Tryz.func15 (c := zEx) (by kernel_rfl) (fun hs => Eq.mpr (by kernel_rfl) (h hs))
def zE3 (_ : Nat) : List Bool := []
noncomputable def zE4 : Code := Tryz.f16.body.getD .skip
def zuV (t0 t1 : AV) (H : zaa) (K : Kt) : Prop :=
 zax t1 H fun t3 H =>
 zad true 3 t3 H fun t6 =>
 ACalls tP zeZ [t0, t6] H fun t7 H =>
 zab t7 true H (fun K' => zad true 3 t3 H (K' · H)) fun t9 H =>
 zab t7 true H (fun K' => ACalls tP zc5 [t9] H K') fun t10 H =>
 zai t7 t10 (.bool false) fun t11 =>
 K t11 H
theorem zE5 {t0 t1 : AV} {H : zaa} {K : Kt} (h : HSc H → zuV t0 t1 H K) : ACalls tP zhW [t0, t1] H K :=
 zar (M := zE3) Tryz.func16 (c := zE4) (by kernel_rfl) (fun hs => Eq.mpr (by kernel_rfl) (h hs))
def zGZ (_ : Nat) : List Bool := []
noncomputable def zG0 : Code := Tryz.f35.body.getD .skip
def zfu (t1 t4 t5 : AV) (H : zaa) (K : Kt) : Prop :=
 zaf t5
 (K (.bool true) H)
 (zac .eql false t4 (.int .i64 6) fun t9 =>
 zaf t9
 (zag 2 t1 fun t10 =>
 zad false 1 t10 H fun t11 =>
 ACalls tP zdq [t11, (.fn zc5 [])] H fun t12 H =>
 K t12 H)
 (K (.bool false) H))
def zvT (t0 : AV) (H : zaa) (K : Kt) : Prop :=
 zax t0 H fun t1 H =>
 zag 0 t1 fun t3 =>
 zad false 1 t3 H fun t4 =>
 zac .eql false t4 (.int .i64 7) fun t6 =>
 zaf t6
 (zfu t1 t4 t6 H K)
 (zac .eql false t4 (.int .i64 5) fun t7 =>
 zfu t1 t4 t7 H K)
theorem zG1 {t0 : AV} {H : zaa} {K : Kt} (h : HSc H → zvT t0 H K) : ACalls tP zc5 [t0] H K :=
 zar (M := zGZ) Tryz.func35 (c := zG0) (by kernel_rfl) (fun hs => Eq.mpr (by kernel_rfl) (h hs))
def zex : Nat → List Bool
 | 6 => rl false [0,1,16,3,28]
 | 13 => rl false [0,1,2,1,31,2,11]
 | _ => []
noncomputable def zgM : Code := Tryz.f17.body.getD .skip
noncomputable def zu9 : List ResultVar := Tryz.f17.results.toList
def zjn (t0 t17 t18 t19 : AV) : List AV := t0 :: ux 16 (t17 :: t18 :: t19 :: ux 28 [])
def zFd : List Bool := zex 6
noncomputable def zE9 : Code := zao [1, 0, 1, 0, 1, 1, 1, 0, 1, 0, 0] zgM
def zE7 (K : Kt) : AExit → List AV → zaa → Prop := zap tP zex [1, 0, 1, 0, 1, 1, 1, 0, 1, 0] zgM (zaA tP zu9 K)
def zu8 (t0 t17 t18 t19 : AV) (H : zaa) (K : Kt) : Prop := ALoop tP zE9 (zE7 K) (zjn t0 t17 t18 t19) H
def zjo (H : zaa) (K : Kt) : Prop :=
 K (.bool false) H
def zfp (H : zaa) (K : Kt) : Prop :=
 zjo H K
def zn2 (t0 t17 t18 t19 : AV) (H : zaa) (K : Kt) (Kb6 : Lt) : Prop :=
 zac .lss false t19 t18 fun t20 =>
 zaf t20
 (zaj 3 t17 t19 fun t21 =>
 zad true 3 t21 H fun t22 =>
 zaz [(.int .i64 0), (.int .i64 0), .snil] H fun t6 H =>
 zal 3 t6 t22 H fun H =>
 zad true 3 t6 H fun t24 =>
 ACalls tP zhZ [t0, t24] H fun t25 H =>
 zaf t25
 (K (.bool true) H)
 (zac .add false t19 (.int .i64 1) fun t26 =>
 Kb6 (zjn t0 t17 t18 t26) H))
 (zfp H K)
def zjm (t0 t3 t35 t36 : AV) : List AV := t0 :: ux 2 (t3 :: ux 31 (t35 :: t36 :: ux 11 []))
def zFc : List Bool := zex 13
noncomputable def zE8 : Code := zao [1, 0, 1, 0, 1, 1, 1, 1, 1, 0, 1, 0, 0] zgM
def zE6 (K : Kt) : AExit → List AV → zaa → Prop := zap tP zex [1, 0, 1, 0, 1, 1, 1, 1, 1, 0, 1, 0] zgM (zaA tP zu9 K)
def zu7 (t0 t3 t35 t36 : AV) (H : zaa) (K : Kt) : Prop := ALoop tP zE8 (zE6 K) (zjm t0 t3 t35 t36) H
def zn1 (t0 t3 t35 t36 : AV) (H : zaa) (K : Kt) (Kb13 : Lt) : Prop :=
 zac .lss false t36 t35 fun t37 =>
 zaf t37
 (zad true 3 t3 H fun t41 =>
 ACalls tP zh5 [t0, t41, t36] H fun t43 H =>
 zav t43 0 fun t44 =>
 zav t43 1 fun t45 =>
 zaf t45
 (K (.bool true) H)
 (zac .add false t36 (.int .i64 1) fun t47 =>
 Kb13 (zjm t0 t3 t35 t47) H))
 (zfp H K)
def zu6 (t0 t1 : AV) (H : zaa) (K : Kt) : Prop :=
 zax t1 H fun t3 H =>
 zag 0 t3 fun t10 =>
 zad false 1 t10 H fun t11 =>
 zac .eql false t11 (.int .i64 7) fun t13 =>
 zaf t13
 (K (.bool true) H)
 (zac .eql false t11 (.int .i64 6) fun t15 =>
 zaf t15
 (zag 2 t3 fun t16 =>
 zad false 1 t16 H fun t17 =>
 zah 1 t17 fun t18 =>
 zu8 t0 t17 t18 (.int .i64 0) H K)
 (zac .eql false t11 (.int .i64 5) fun t28 =>
 zaf t28
 (zag 1 t3 fun t30 =>
 zad false 1 t30 H fun t31 =>
 zaj 3 t0 t31 fun t32 =>
 zag 2 t32 fun t33 =>
 zad false 1 t33 H fun t34 =>
 zah 1 t34 fun t35 =>
 zu7 t0 t3 t35 (.int .i64 0) H K)
 (zfp H K)))
theorem zFb {t0 t17 t18 t19 : AV} {H : zaa} {K : Kt} (Inv : Nat → AV → zaa → Prop) (n : Nat) (h0 : HSc H → Inv n t19 H)
  (round : Rd1 (fun t19 => zjn t0 t17 t18 t19) (fun t19 => fun H Kb6 => zn2 t0 t17 t18 t19 H K Kb6) H Inv) : zu8 t0 t17 t18 t19 H K :=
 lp1 (M := zex) zFd t19 (by kernel_rfl) Inv n h0 round
theorem zFa {t0 t3 t35 t36 : AV} {H : zaa} {K : Kt} (Inv : Nat → AV → zaa → Prop) (n : Nat) (h0 : HSc H → Inv n t36 H)
  (round : Rd1 (fun t36 => zjm t0 t3 t35 t36) (fun t36 => fun H Kb13 => zn1 t0 t3 t35 t36 H K Kb13) H Inv) : zu7 t0 t3 t35 t36 H K :=
 lp1 (M := zex) zFc t36 (by kernel_rfl) Inv n h0 round
theorem zFe {t0 t1 : AV} {H : zaa} {K : Kt} (h : HSc H → zu6 t0 t1 H K) : ACalls tP zhZ [t0, t1] H K :=
 zar (M := zex) Tryz.func17 (c := zgM) (by kernel_rfl) (fun hs => Eq.mpr (by kernel_rfl) (h hs))
def zeC : Nat → List Bool
 | 3 => rl false [0,1,2,1,5,3,24]
 | 11 => rl false [6,1,18,3,8]
 | _ => []
noncomputable def zhf : Code := Tryz.f65.body.getD .skip
noncomputable def zxE : List ResultVar := Tryz.f65.results.toList
def zkE (t0 t3 t9 t10 t11 : AV) : List AV := t0 :: ux 2 (t3 :: ux 5 (t9 :: t10 :: t11 :: ux 24 []))
def zJ7 : List Bool := zeC 3
noncomputable def zJ3 : Code := zao [1, 1, 0, 1, 0, 0] zhf
def zJ1 (K : Kt) : AExit → List AV → zaa → Prop := zap tP zeC [1, 1, 0, 1, 0] zhf (zaA tP zxE K)
def zxD (t0 t3 t9 t10 t11 : AV) (H : zaa) (K : Kt) : Prop := ALoop tP zJ3 (zJ1 K) (zkE t0 t3 t9 t10 t11) H
def zxB (t0 t3 t9 t10 t11 : AV) (H : zaa) (K : Kt) (Kb3 : Lt) : Prop :=
 zac .add false t11 (.int .i64 1) fun t22 =>
 Kb3 (zkE t0 t3 t9 t10 t22) H
def zxA (t0 t3 t9 t10 t11 : AV) (H : zaa) (K : Kt) (Kb3 : Lt) : Prop :=
 zxB t0 t3 t9 t10 t11 H K Kb3
def zkD (t6 t25 t26 t27 : AV) : List AV := ux 6 (t6 :: ux 18 (t25 :: t26 :: t27 :: ux 8 []))
def zJ6 : List Bool := zeC 11
noncomputable def zJ2 : Code := zao [1, 1, 1, 1, 0, 1, 0, 0] zhf
def zJ0 (K : Kt) : AExit → List AV → zaa → Prop := zap tP zeC [1, 1, 1, 1, 0, 1, 0] zhf (zaA tP zxE K)
def zxC (t6 t25 t26 t27 : AV) (H : zaa) (K : Kt) : Prop := ALoop tP zJ2 (zJ0 K) (zkD t6 t25 t26 t27) H
def zp6 (t6 t25 t26 t27 : AV) (H : zaa) (K : Kt) (Kb11 : Lt) : Prop :=
 zac .lss false t27 t26 fun t28 =>
 zaf t28
 (zaj 1 t25 t27 fun t29 =>
 zad false 1 t29 H fun t30 =>
 zat zak 2 32 t6 t30 H fun t33 H =>
 zac .add false t27 (.int .i64 1) fun t34 =>
 Kb11 (zkD t33 t25 t26 t34) H)
 (K t6 H)
def zp7 (t0 t3 t9 t10 t11 : AV) (H : zaa) (K : Kt) (Kb3 : Lt) : Prop :=
 zac .lss false t11 t10 fun t12 =>
 zaf t12
 (zaj 1 t9 t11 fun t13 =>
 zad false 1 t13 H fun t14 =>
 zah 1 t14 fun t17 =>
 zac .add false t3 t17 fun t18 =>
 zac .lss false t18 (.int .i64 0) fun t20 =>
 zaf t20
 (False)
 (zxA t0 t18 t9 t10 t11 H K Kb3))
 (ACalls tP zsI [.snil, t3] H fun t24 H =>
 zah 1 t0 fun t26 =>
 zxC t24 t0 t26 (.int .i64 0) H K)
def zxz (t0 : AV) (H : zaa) (K : Kt) : Prop :=
 zah 1 t0 fun t10 =>
 zxD t0 (.int .i64 0) t0 t10 (.int .i64 0) H K
theorem zJ4 {t6 t25 t26 t27 : AV} {H : zaa} {K : Kt} (Inv : Nat → AV → AV → zaa → Prop) (n : Nat) (h0 : HSc H → Inv n t6 t27 H)
  (round : Rd2 (fun t6 => fun t27 => zkD t6 t25 t26 t27) (fun t6 => fun t27 => fun H Kb11 => zp6 t6 t25 t26 t27 H K Kb11) H Inv) : zxC t6 t25 t26 t27 H K :=
 lp2 (M := zeC) zJ6 t6 t27 (by kernel_rfl) Inv n h0 round
theorem zJ5 {t0 t3 t9 t10 t11 : AV} {H : zaa} {K : Kt} (Inv : Nat → AV → AV → zaa → Prop) (n : Nat) (h0 : HSc H → Inv n t3 t11 H)
  (round : Rd2 (fun t3 => fun t11 => zkE t0 t3 t9 t10 t11) (fun t3 => fun t11 => fun H Kb3 => zp7 t0 t3 t9 t10 t11 H K Kb3) H Inv) : zxD t0 t3 t9 t10 t11 H K :=
 lp2 (M := zeC) zJ7 t3 t11 (by kernel_rfl) Inv n h0 round
theorem zJ8 {t0 : AV} {H : zaa} {K : Kt} (h : HSc H → zxz t0 H K) : ACalls tP zmz [t0] H K :=
 zar (M := zeC) Tryz.func65 (c := zhf) (by kernel_rfl) (fun hs => Eq.mpr (by kernel_rfl) (h hs))
end Go.Proofs.YtddlhljflggenaaGreatDoor
namespace Go.Abs
open Go

inductive VT where
 | mk (kind num : Int) (kids : List VT)

mutual
def VT.cs : VT → List AV
 | .mk k n ks => [.int .i64 k, .int .i64 n, .sl (VT.css ks) .none]
def VT.css : List VT → List (List AV)
 | [] => []
 | v :: vs => VT.cs v :: VT.css vs
end
mutual
def VT.nodes : VT → Nat
 | .mk _ _ ks => VT.nodesL ks + 1
def VT.nodesL : List VT → Nat
 | [] => 0
 | v :: vs => VT.nodes v + VT.nodesL vs
end
theorem VT.css_map : ∀ ks : List VT, VT.css ks = ks.map VT.cs
 | [] => rfl
 | v :: vs => by simp [VT.css, VT.css_map vs]
theorem VT.nodes_pos : ∀ v : VT, 0 < v.nodes
 | .mk _ _ _ => by simp [VT.nodes]
theorem VT.nodesL_app : ∀ (a b : List VT), VT.nodesL (a ++ b) = VT.nodesL a + VT.nodesL b
 | [], b => by simp [VT.nodesL]
 | v :: a, b => by simp [VT.nodesL, VT.nodesL_app a b]; omega
@[simp] theorem VT.cs_len (v : VT) : v.cs.length = 3 := by cases v; simp [VT.cs]
@[simp] theorem VT.css_len (ks : List VT) : (VT.css ks).length = ks.length := by simp [VT.css_map]
@[simp] theorem VT.cs_take (v : VT) : v.cs.take 3 = v.cs := by cases v; simp [VT.cs]
@[simp] theorem VT.cs_known (v : VT) : v.cs.all AV.known = true := by cases v; simp [VT.cs, AV.known]
@[simp] theorem VT.cs_scA (v : VT) (n : Nat) : v.cs.all (AV.scA n) = true := by cases v; simp [VT.cs, AV.scA, AV.scB]
@[simp] theorem VT.css_at {ks : List VT} {i : Nat} (h : i < ks.length) : (VT.css ks)[i]?.getD [] = (ks[i]).cs := by simp [VT.css_map, h]
@[simp] theorem VT.css_get {ks : List VT} {i : Nat} (h : i < (VT.css ks).length) : (VT.css ks)[i] = (ks[i]'(by simpa using h)).cs := by simp [VT.css_map]
theorem VT.css_getD {ks : List VT} {i : Nat} (h : i < ks.length) : (VT.css ks).getD i [] = (ks[i]).cs := by simp [VT.css_map, List.getD_eq_getElem?_getD, h]
theorem VT.kid_lt {k n : Int} {ks : List VT} {i : Nat} (h : i < ks.length) : (ks[i]).nodes < (VT.mk k n ks).nodes := by
 have h1 : VT.nodesL ks = VT.nodesL (ks.take i) + ((ks[i]).nodes + VT.nodesL (ks.drop (i + 1))) := by
  conv => lhs; rw [← List.take_append_drop i ks, VT.nodesL_app, List.drop_eq_getElem_cons h]
  rw [VT.nodesL]
 simp only [VT.nodes]
 omega
theorem VT.len_le : ∀ ks : List VT, ks.length ≤ VT.nodesL ks
 | [] => by simp
 | v :: vs => by have := VT.len_le vs; have := v.nodes_pos; simp [VT.nodesL]; omega
theorem VT.nodesL_take {ks : List VT} {i : Nat} (h : i < ks.length) : VT.nodesL (ks.take (i + 1)) = VT.nodesL (ks.take i) + (ks[i]).nodes := by
 rw [List.take_succ_eq_append_getElem h, VT.nodesL_app]; simp [VT.nodesL]
theorem VT.nodesL_take_le (ks : List VT) (i : Nat) : VT.nodesL (ks.take i) ≤ VT.nodesL ks := by
 conv => rhs; rw [← List.take_append_drop i ks, VT.nodesL_app]
 omega
def VT.leaf (k : Int) : Bool := k == 6 || k == 7 || k == 8
mutual
def VT.size : VT → Nat
 | .mk k _ ks => if VT.leaf k = true then 1 else VT.sizeL ks + 1
def VT.sizeL : List VT → Nat
 | [] => 0
 | v :: vs => VT.size v + VT.sizeL vs
end
mutual
theorem VT.size_le : ∀ v : VT, v.size ≤ v.nodes
 | .mk k n ks => by
  have := VT.sizeL_le ks
  simp only [VT.size, VT.nodes]
  split <;> omega
theorem VT.sizeL_le : ∀ ks : List VT, VT.sizeL ks ≤ VT.nodesL ks
 | [] => by simp [VT.sizeL, VT.nodesL]
 | v :: vs => by have := VT.size_le v; have := VT.sizeL_le vs; simp only [VT.sizeL, VT.nodesL]; omega
end
/- The guard on a value's nodes: what is left of a number behind it, and whether it was enough. -/
mutual
def VT.val : VT → Int → Bool × Int
 | .mk _ _ ks, n => if n - 1 < 0 then (false, n - 1) else VT.valL ks (n - 1)
def VT.valL : List VT → Int → Bool × Int
 | [], n => (true, n)
 | v :: vs, n => match VT.val v n with
  | (true, m) => VT.valL vs m
  | (false, m) => (false, m)
end
mutual
theorem VT.val_spec : ∀ (v : VT) (n : Int), 0 ≤ n → ((VT.val v n).1 = true → (VT.val v n).2 = n - v.nodes ∧ 0 ≤ (VT.val v n).2) ∧ -1 ≤ (VT.val v n).2 ∧ (VT.val v n).2 ≤ n
 | .mk k m ks, n, h => by
  simp only [VT.val, VT.nodes]
  split
  ·simp; omega
  ·have := VT.valL_spec ks (n - 1) (by omega)
   refine ⟨fun ht => ?_, by omega, by omega⟩
   have := this.1 ht
   omega
theorem VT.valL_spec : ∀ (ks : List VT) (n : Int), 0 ≤ n → ((VT.valL ks n).1 = true → (VT.valL ks n).2 = n - VT.nodesL ks ∧ 0 ≤ (VT.valL ks n).2) ∧ -1 ≤ (VT.valL ks n).2 ∧ (VT.valL ks n).2 ≤ n
 | [], n, h => by simp [VT.valL, VT.nodesL]; omega
 | v :: vs, n, h => by
  have h1 := VT.val_spec v n h
  simp only [VT.valL, VT.nodesL]
  split
  ·rename_i m hm
   rw [hm] at h1
   have h2 := h1.1 rfl
   simp only at h2
   have h3 := VT.valL_spec vs m h2.2
   refine ⟨fun ht => ?_, by omega, by omega⟩
   have := h3.1 ht
   omega
  ·rename_i m hm
   rw [hm] at h1
   simp only at h1
   exact ⟨by simp, by omega, by omega⟩
end
theorem VT.valL_drop {ks : List VT} {i : Nat} (h : i < ks.length) (n : Int) : VT.valL (ks.drop i) n = match VT.val ks[i] n with
  | (true, m) => VT.valL (ks.drop (i + 1)) m
  | (false, m) => (false, m) := by rw [List.drop_eq_getElem_cons h, VT.valL]
end Go.Abs
namespace Go.Abs
open Go
def icmp (a b : Int) : Int := if a < b then -1 else if b < a then 1 else 0
def cor (a b : Int) : Int := if a = 0 then b else a
theorem zf2 (a b : Int) : icmp a b = - icmp b a := by unfold icmp; split <;> split <;> first | omega | (split <;> omega)
theorem zhF (a b : Int) : icmp a b = 0 ↔ a = b := by unfold icmp; split <;> first | omega | (split <;> omega)
theorem zf3 (a b : Int) : icmp a b = -1 ∨ icmp a b = 0 ∨ icmp a b = 1 := by unfold icmp; split <;> first | omega | (split <;> omega)
theorem zsh (a : Int) : icmp a a = 0 := (zhF a a).mpr rfl
theorem zsf {a b : Int} (h : a ≠ b) : icmp a b = if a < b then -1 else 1 := by unfold icmp; split <;> first | omega | (split <;> omega)
theorem zei {a a' b b' : Int} (h : a = - b) (h' : a' = - b') : cor a a' = - cor b b' := by unfold cor; split <;> split <;> omega
theorem zfQ (a b : Int) : cor a b = 0 ↔ a = 0 ∧ b = 0 := by unfold cor; split <;> omega
theorem zej {a b : Int} (h : a = -1 ∨ a = 0 ∨ a = 1) (h' : b = -1 ∨ b = 0 ∨ b = 1) : cor a b = -1 ∨ cor a b = 0 ∨ cor a b = 1 := by unfold cor; split <;> omega
theorem zhA {a b : Int} (h : a ≠ 0) : cor a b = a := by simp [cor, h]
theorem zlx {a b : Int} (h : a = 0) : cor a b = b := by simp [cor, h]
def Tri (a b c : Int) : Prop := a ≤ 0 → b ≤ 0 → c ≤ 0 ∧ (c = 0 → a = 0 ∧ b = 0)
theorem Tri.icmp (x y z : Int) : Tri (icmp x y) (icmp y z) (icmp x z) := by
 unfold Tri Go.Abs.icmp
 intro h1 h2
 split at h1 <;> split at h2 <;> (try split at h1) <;> (try split at h2) <;> split <;> (try split) <;> omega
theorem Tri.cor {a b c a' b' c' : Int} (h : Tri a b c) (h' : Tri a' b' c') : Tri (cor a a') (cor b b') (cor c c') := by
 unfold Tri Go.Abs.cor at *
 intro h1 h2
 by_cases ha : a = 0 <;> by_cases hb : b = 0 <;> by_cases hc : c = 0 <;> simp only [ha, hb, hc, if_true, if_false] at * <;> first | omega | (simp_all; done) | (have := h' h1 h2; simp_all; omega)
mutual
def VT.cmp : VT → VT → Int
 | .mk k n ks, .mk k' n' ks' => cor (icmp k k') (cor (icmp n n') (cor (icmp ks.length ks'.length) (VT.cmpL ks ks')))
def VT.cmpL : List VT → List VT → Int
 | v :: vs, w :: ws => cor (VT.cmp v w) (VT.cmpL vs ws)
 | [], [] => 0
 | [], _ :: _ => -1
 | _ :: _, [] => 1
end
mutual
def VT.same : VT → VT → Bool
 | .mk k n ks, .mk k' n' ks' => k == k' && n == n' && VT.sameL ks ks'
def VT.sameL : List VT → List VT → Bool
 | v :: vs, w :: ws => VT.same v w && VT.sameL vs ws
 | [], [] => true
 | [], _ :: _ => false
 | _ :: _, [] => false
end
mutual
theorem VT.cmp_anti : ∀ v w : VT, VT.cmp v w = - VT.cmp w v
 | .mk k n ks, .mk k' n' ks' => by
  simp only [VT.cmp]
  exact zei (zf2 _ _) (zei (zf2 _ _) (zei (zf2 _ _) (VT.cmpL_anti ks ks')))
theorem VT.cmpL_anti : ∀ v w : List VT, VT.cmpL v w = - VT.cmpL w v
 | v :: vs, w :: ws => by simp only [VT.cmpL]; exact zei (VT.cmp_anti v w) (VT.cmpL_anti vs ws)
 | [], [] => by simp [VT.cmpL]
 | [], _ :: _ => by simp [VT.cmpL]
 | _ :: _, [] => by simp [VT.cmpL]
end
mutual
theorem VT.cmp_rng : ∀ v w : VT, VT.cmp v w = -1 ∨ VT.cmp v w = 0 ∨ VT.cmp v w = 1
 | .mk k n ks, .mk k' n' ks' => by
  simp only [VT.cmp]
  exact zej (zf3 _ _) (zej (zf3 _ _) (zej (zf3 _ _) (VT.cmpL_rng ks ks')))
theorem VT.cmpL_rng : ∀ v w : List VT, VT.cmpL v w = -1 ∨ VT.cmpL v w = 0 ∨ VT.cmpL v w = 1
 | v :: vs, w :: ws => by simp only [VT.cmpL]; exact zej (VT.cmp_rng v w) (VT.cmpL_rng vs ws)
 | [], [] => by simp [VT.cmpL]
 | [], _ :: _ => by simp [VT.cmpL]
 | _ :: _, [] => by simp [VT.cmpL]
end
theorem VT.sameL_len : ∀ v w : List VT, VT.sameL v w = true → v.length = w.length
 | v :: vs, w :: ws => by simp only [VT.sameL, Bool.and_eq_true, List.length_cons]; intro h; have := VT.sameL_len vs ws h.2; omega
 | [], [] => by simp
 | [], _ :: _ => by simp [VT.sameL]
 | _ :: _, [] => by simp [VT.sameL]
mutual
theorem VT.cmp_zero : ∀ v w : VT, VT.cmp v w = 0 ↔ VT.same v w = true
 | .mk k n ks, .mk k' n' ks' => by
  have h := VT.cmpL_zero ks ks'
  simp only [VT.cmp, VT.same, zfQ, zhF, Bool.and_eq_true, beq_iff_eq, and_assoc, h]
  constructor
  ·rintro ⟨a, b, _, c⟩; exact ⟨a, b, c⟩
  ·rintro ⟨a, b, c⟩; exact ⟨a, b, by have := VT.sameL_len _ _ c; omega, c⟩
theorem VT.cmpL_zero : ∀ v w : List VT, VT.cmpL v w = 0 ↔ VT.sameL v w = true
 | v :: vs, w :: ws => by simp only [VT.cmpL, VT.sameL, zfQ, Bool.and_eq_true, VT.cmp_zero v w, VT.cmpL_zero vs ws]
 | [], [] => by simp [VT.cmpL, VT.sameL]
 | [], _ :: _ => by simp [VT.cmpL, VT.sameL]
 | _ :: _, [] => by simp [VT.cmpL, VT.sameL]
end
mutual
theorem VT.cmp_tri : ∀ v w x : VT, Tri (VT.cmp v w) (VT.cmp w x) (VT.cmp v x)
 | .mk k n ks, .mk k' n' ks', .mk k'' n'' ks'' => by
  simp only [VT.cmp]
  exact (Tri.icmp _ _ _).cor ((Tri.icmp _ _ _).cor ((Tri.icmp _ _ _).cor (VT.cmpL_tri ks ks' ks'')))
theorem VT.cmpL_tri : ∀ v w x : List VT, Tri (VT.cmpL v w) (VT.cmpL w x) (VT.cmpL v x)
 | v :: vs, w :: ws, x :: xs => by simp only [VT.cmpL]; exact (VT.cmp_tri v w x).cor (VT.cmpL_tri vs ws xs)
 | [], [], [] => by simp [VT.cmpL, Tri]
 | [], [], _ :: _ => by simp [VT.cmpL, Tri]
 | [], _ :: _, [] => by simp [VT.cmpL, Tri]
 | [], _ :: _, _ :: _ => by simp [VT.cmpL, Tri]
 | _ :: _, [], [] => by simp [VT.cmpL, Tri]
 | _ :: _, [], _ :: _ => by simp [VT.cmpL, Tri]
 | _ :: _, _ :: _, [] => by simp [VT.cmpL, Tri]
end
theorem VT.cmpL_drop {a b : List VT} {i : Nat} (ha : i < a.length) (hb : i < b.length) : VT.cmpL (a.drop i) (b.drop i) = cor (VT.cmp a[i] b[i]) (VT.cmpL (a.drop (i + 1)) (b.drop (i + 1))) := by
 rw [List.drop_eq_getElem_cons ha, List.drop_eq_getElem_cons hb, VT.cmpL]
theorem VT.sameL_drop {a b : List VT} {i : Nat} (ha : i < a.length) (hb : i < b.length) : VT.sameL (a.drop i) (b.drop i) = (VT.same a[i] b[i] && VT.sameL (a.drop (i + 1)) (b.drop (i + 1))) := by
 rw [List.drop_eq_getElem_cons ha, List.drop_eq_getElem_cons hb, VT.sameL]
end Go.Abs
namespace Go.Abs
open Go
structure Con where
 name : List UInt8
 args : List VT
structure Dat where
 name : List UInt8
 vars : Int
 cons : List Con
structure Cod where
 name : List UInt8
 params : List Int
 capt : List Int
 res : VT
 body : Int
structure CEx where
 op : Int
 num : Int
 vars : List Int
 binds : List (List Int)
 kids : List Int
 ty : VT
structure Cor where
 data : List Dat
 codes : List Cod
 vars : List VT
 exprs : List CEx
def ints (l : List Int) : List (List AV) := l.map fun n => [.int .i64 n]
def rows (l : List (List Int)) : List (List AV) := l.map fun r => [.sl (ints r) .none]
def Con.cs (c : Con) : List AV := [.str c.name, .sl (VT.css c.args) .none]
def Dat.cs (d : Dat) : List AV := [.str d.name, .int .i64 d.vars, .sl (d.cons.map Con.cs) .none]
def Cod.cs (c : Cod) : List AV := .str c.name :: .sl (ints c.params) .none :: .sl (ints c.capt) .none :: (c.res.cs ++ [.int .i64 c.body])
def CEx.cs (e : CEx) : List AV := .int .i64 e.op :: .int .i64 e.num :: .sl (ints e.vars) .none :: .sl (rows e.binds) .none :: .sl (ints e.kids) .none :: e.ty.cs
def Cor.cs (c : Cor) : List AV := [.sl (c.data.map Dat.cs) .none, .sl (c.codes.map Cod.cs) .none, .sl (VT.css c.vars) .none, .sl (c.exprs.map CEx.cs) .none]
@[simp] theorem zOS (l : List Int) : (ints l).length = l.length := by simp [ints]
@[simp] theorem zO5 (l : List (List Int)) : (rows l).length = l.length := by simp [rows]
def VT.kind : VT → Int | .mk k _ _ => k
def VT.num : VT → Int | .mk _ n _ => n
def VT.kids : VT → List VT | .mk _ _ ks => ks
def zaV (data : List Dat) (vars k n : Int) (len : Nat) : Bool :=
 if k == 1 || k == 2 || k == 3 then n == 0 && len == 0
 else if k == 4 then decide (0 ≤ n) && decide (n < vars) && len == 0
 else if k == 5 then decide (0 ≤ n) && (match data[n.toNat]? with | some d => (len : Int) == d.vars | none => false)
 else if k == 6 then n == 0 && decide (2 ≤ len) && decide (len ≤ 6)
 else if k == 7 || k == 8 then n == 0 && len == 1
 else if k == 9 then n == 0 && decide (1 ≤ len) && decide (len ≤ 7)
 else false
mutual
def zaN (data : List Dat) (vars : Int) : VT → Bool
 | .mk k n asx => zaV data vars k n asx.length && zaS data vars asx
def zaS (data : List Dat) (vars : Int) : List VT → Bool
 | [] => true
 | t :: ts => zaN data vars t && zaS data vars ts
end
def zaT (data : List Dat) (vars : Int) (t : VT) : Bool := decide (t.nodes ≤ 200) && zaN data vars t
mutual
def subst (args : List VT) : VT → VT
 | .mk k n ks => if k = 4 ∧ 0 ≤ n ∧ n < args.length then (args[n.toNat]?).getD (.mk 0 0 []) else .mk k n (zaG args ks)
def zaG (args : List VT) : List VT → List VT
 | [] => []
 | t :: ts => subst args t :: zaG args ts
end
def za7 (data : List Dat) (t : VT) (c : Int) : Option (List VT) :=
 if t.kind = 5 ∧ 0 ≤ t.num ∧ 0 ≤ c then
  match data[t.num.toNat]? with
  | some d => if (t.kids.length : Int) = d.vars then
    match d.cons[c.toNat]? with
    | some k => let l := k.args.map (subst t.kids)
     if l.all (fun x => decide (x.nodes ≤ 200)) = true then some l else none
    | none => none
   else none
  | none => none
 else none
end Go.Abs
