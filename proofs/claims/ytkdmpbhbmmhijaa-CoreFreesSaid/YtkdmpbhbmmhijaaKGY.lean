import Derived.Test.YtkdmpbhbmmhijaaKNum
import Derived.Test.YtkdmpbhbmmhijaaProg
import Derived.KernelRfl
set_option linter.unusedVariables false
namespace Go.Proofs.Ytkdmpbhbmmhijaa
open Go Go.Abs
set_option maxRecDepth 100000
def zkt : Nat → List Bool
 | 5 => rl false [1,2,2,1,24]
 | _ => []
noncomputable def zpg : Code := Try.f65.body.getD .skip
noncomputable def zHu : List ResultVar := Try.f65.results.toList
def zku (t1 t2 t5 : AV) : List AV := ux 1 (t1 :: t2 :: ux 2 (t5 :: ux 24 []))
def zHs : List Bool := zkt 5
noncomputable def zHq : Code := zao [1, 1, 1, 0, 1, 0, 0] zpg
def zHp (K : Kt) : AExit → List AV → zaa → Prop := zap tP zkt [1, 1, 1, 0, 1, 0] zpg (zat tP zHu K)
def zvh (t1 t2 t5 : AV) (H : zaa) (K : Kt) : Prop := ALoop tP zHq (zHp K) (zku t1 t2 t5) H
def zpf (t1 t2 t5 : AV) (H : zaa) (K : Kt) (Kb5 : Lt) : Prop :=
 zaf 2 t2 fun t16 =>
 zae false 1 t16 H fun t17 =>
 zak 1 t17 fun t18 =>
 zad .lss false t5 t18 fun t19 =>
 zag t19
 (zaf 2 t2 fun t22 =>
 zae false 1 t22 H fun t23 =>
 zaj 3 t23 t5 fun t25 =>
 zae true 3 t25 H fun t26 =>
 ACalls tP zgA [t26, t1] H fun t28 H =>
 aUn .not t28 fun t29 =>
 zag t29
 (K (.bool false) H)
 (zad .add false t5 (.int .i64 1) fun t21 =>
 Kb5 (zku t1 t2 t21) H))
 (K (.bool true) H)
def zvg (t0 t1 : AV) (H : zaa) (K : Kt) : Prop :=
 zaF t0 H fun t2 H =>
 za0 t1 fun t7 =>
 zae false 1 t7 H fun t8 =>
 zad .sub false t8 (.int .i64 1) fun t9 =>
 za0 t1 fun t10 =>
 zar 1 t10 t9 H fun H =>
 za0 t1 fun t12 =>
 zae false 1 t12 H fun t13 =>
 zad .lss false t13 (.int .i64 0) fun t14 =>
 zag t14
 (K (.bool false) H)
 (zvh t1 t2 (.int .i64 0) H K)
theorem zHr {t1 t2 t5 : AV} {H : zaa} {K : Kt} (Inv : Nat → AV → zaa → Prop) (n : Nat) (h0 : HSc H → Inv n t5 H)
  (round : Rd1 (fun t5 => zku t1 t2 t5) (fun t5 => fun H Kb5 => zpf t1 t2 t5 H K Kb5) H Inv) : zvh t1 t2 t5 H K :=
 lp1 (M := zkt) zHs t5 (by kernel_rfl) Inv n h0 round
theorem zHt {t0 t1 : AV} {H : zaa} {K : Kt} (h : HSc H → zvg t0 t1 H K) : ACalls tP zgA [t0, t1] H K :=
 zau (M := zkt) Try.func65 (c := zpg) (by kernel_rfl) (fun hs => Eq.mpr (by kernel_rfl) (h hs))
def zEt (_ : Nat) : List Bool := []
noncomputable def zEu : Code := Try.f40.body.getD .skip
def zt9 (t0 : AV) (H : zaa) (K : Kt) : Prop :=
 zaF t0 H fun t1 H =>
 zaA [(.int .i64 0)] H fun t3 H =>
 zar 1 t3 (.int .i64 250) H fun H =>
 zae true 3 t1 H fun t4 =>
 ACalls tP zgA [t4, t3] H fun t5 H =>
 K t5 H
theorem zEv {t0 : AV} {H : zaa} {K : Kt} (h : HSc H → zt9 t0 H K) : ACalls tP zgy [t0] H K :=
 zau (M := zEt) Try.func40 (c := zEu) (by kernel_rfl) (fun hs => Eq.mpr (by kernel_rfl) (h hs))
def zjA : Nat → List Bool
 | 2 => rl false [0,2,3,1,21]
 | _ => []
noncomputable def zos : Code := Try.f39.body.getD .skip
noncomputable def zEr : List ResultVar := Try.f39.results.toList
def zjC (t0 t1 t5 : AV) : List AV := t0 :: t1 :: ux 3 (t5 :: ux 21 [])
def zEp : List Bool := zjA 2
noncomputable def zEn : Code := zao [1, 0, 1, 0, 0] zos
def zEm (K : Kt) : AExit → List AV → zaa → Prop := zap tP zjA [1, 0, 1, 0] zos (zat tP zEr K)
def zt8 (t0 t1 t5 : AV) (H : zaa) (K : Kt) : Prop := ALoop tP zEn (zEm K) (zjC t0 t1 t5) H
def zjB (t0 t1 t5 : AV) (H : zaa) (K : Kt) (Kb2 : Lt) : Prop :=
 zak 1 t0 fun t8 =>
 zad .lss false t5 t8 fun t9 =>
 zab t9 true H (fun K' => K' t5 H) fun t11 H =>
 zab t9 true H (fun K' => K' t1 H) fun t12 H =>
 zab t9 true H (fun K' => zad .leq false t11 t12 (K' · H)) fun t13 H =>
 zah t9 t13 (.bool false) fun t14 =>
 zag t14
 (zaj 3 t0 t5 fun t19 =>
 zae true 3 t19 H fun t20 =>
 ACalls tP zgy [t20] H fun t21 H =>
 aUn .not t21 fun t22 =>
 zag t22
 (K (.bool false) H)
 (zad .add false t5 (.int .i64 1) fun t16 =>
 Kb2 (zjC t0 t1 t16) H))
 (zak 1 t0 fun t24 =>
 zad .leq false t24 t1 fun t26 =>
 K t26 H)
def zt7 (t0 t1 : AV) (H : zaa) (K : Kt) : Prop :=
 zt8 t0 t1 (.int .i64 0) H K
theorem zEo {t0 t1 t5 : AV} {H : zaa} {K : Kt} (Inv : Nat → AV → zaa → Prop) (n : Nat) (h0 : HSc H → Inv n t5 H)
  (round : Rd1 (fun t5 => zjC t0 t1 t5) (fun t5 => fun H Kb2 => zjB t0 t1 t5 H K Kb2) H Inv) : zt8 t0 t1 t5 H K :=
 lp1 (M := zjA) zEp t5 (by kernel_rfl) Inv n h0 round
theorem zEq {t0 t1 : AV} {H : zaa} {K : Kt} (h : HSc H → zt7 t0 t1 H K) : ACalls tP zmi [t0, t1] H K :=
 zau (M := zjA) Try.func39 (c := zos) (by kernel_rfl) (fun hs => Eq.mpr (by kernel_rfl) (h hs))
def zdJ : Nat → List Bool
 | 4 => rl false [13,3,43]
 | 9 => rl false [13,3,14,3,26]
 | 15 => rl false [7,1,5,3,14,3,14,3,9]
 | _ => []
noncomputable def zop : Code := Try.f38.body.getD .skip
noncomputable def zEk : List ResultVar := Try.f38.results.toList
def zgQ (t13 t14 t15 : AV) : List AV := ux 13 (t13 :: t14 :: t15 :: ux 43 [])
def zt5 : List Bool := zdJ 4
noncomputable def zoq : Code := zao [1, 1, 0, 1, 0, 0] zop
def zt0 (K : Kt) : AExit → List AV → zaa → Prop := zap tP zdJ [1, 1, 0, 1, 0] zop (zat tP zEk K)
def zt3 (t13 t14 t15 : AV) (H : zaa) (K : Kt) : Prop := ALoop tP zoq (zt0 K) (zgQ t13 t14 t15) H
def zjz (t13 t14 t15 t30 t31 t32 : AV) : List AV := ux 13 (t13 :: t14 :: t15 :: ux 14 (t30 :: t31 :: t32 :: ux 26 []))
def zt6 : List Bool := zdJ 9
noncomputable def zor : Code := zao [1, 1, 0, 0, 1, 1, 1, 0, 0] zoq
def zt1 (K : Kt) (Kb4 : Lt) : AExit → List AV → zaa → Prop := zap tP zdJ [1, 1, 0, 0, 1, 1, 1, 0] zoq (zbJ zt5 Kb4 (zt0 K))
def zt4 (t13 t14 t15 t30 t31 t32 : AV) (H : zaa) (K : Kt) (Kb4 : Lt) : Prop := ALoop tP zor (zt1 K Kb4) (zjz t13 t14 t15 t30 t31 t32) H
def zjy (t7 t13 t14 t15 t30 t31 t32 t47 t48 t49 : AV) : List AV := ux 7 (t7 :: ux 5 (t13 :: t14 :: t15 :: ux 14 (t30 :: t31 :: t32 :: ux 14 (t47 :: t48 :: t49 :: ux 9 []))))
def zEi : List Bool := zdJ 15
noncomputable def zEe : Code := zao [1, 1, 0, 0, 1, 1, 1, 1, 0, 0] zor
def zEd (K : Kt) (Kb4 : Lt) (Kb9 : Lt) : AExit → List AV → zaa → Prop := zap tP zdJ [1, 1, 0, 0, 1, 1, 1, 1, 0] zor (zbJ zt6 Kb9 (zt1 K Kb4))
def zt2 (t7 t13 t14 t15 t30 t31 t32 t47 t48 t49 : AV) (H : zaa) (K : Kt) (Kb4 : Lt) (Kb9 : Lt) : Prop := ALoop tP zEe (zEd K Kb4 Kb9) (zjy t7 t13 t14 t15 t30 t31 t32 t47 t48 t49) H
def zom (t7 t13 t14 t15 t30 t31 t32 t47 t48 t49 : AV) (H : zaa) (K : Kt) (Kb4 : Lt) (Kb9 : Lt) (Kb15 : Lt) : Prop :=
 zad .lss false t49 t48 fun t50 =>
 zag t50
 (zaj 3 t47 t49 fun t51 =>
 zae true 3 t51 H fun t52 =>
 zaA [(.int .i64 0), (.int .i64 0), .snil] H fun t9 H =>
 zar 3 t9 t52 H fun H =>
 zae true 3 t9 H fun t53 =>
 ACalls tP zgA [t53, t7] H fun t54 H =>
 aUn .not t54 fun t55 =>
 zag t55
 (K (.bool false) H)
 (zad .add false t49 (.int .i64 1) fun t56 =>
 Kb15 (zjy t7 t13 t14 t15 t30 t31 t32 t47 t48 t56) H))
 (zad .add false t32 (.int .i64 1) fun t57 =>
 Kb9 (zjz t13 t14 t15 t30 t31 t57) H)
def zoo (t13 t14 t15 t30 t31 t32 : AV) (H : zaa) (K : Kt) (Kb4 : Lt) (Kb9 : Lt) : Prop :=
 zad .lss false t32 t31 fun t33 =>
 zag t33
 (zaj 2 t30 t32 fun t34 =>
 zae true 2 t34 H fun t35 =>
 zaA [(.str []), .snil] H fun t6 H =>
 zar 2 t6 t35 H fun H =>
 zaf 0 t6 fun t36 =>
 zae false 1 t36 H fun t37 =>
 zak 0 t37 fun t38 =>
 zad .gtr false t38 (.int .i64 40) fun t39 =>
 zab t39 false H (fun K' => zaf 1 t6 (K' · H)) fun t41 H =>
 zab t39 false H (fun K' => zae false 1 t41 H (K' · H)) fun t42 H =>
 zab t39 false H (fun K' => zak 1 t42 (K' · H)) fun t43 H =>
 zab t39 false H (fun K' => zad .gtr false t43 (.int .i64 8) (K' · H)) fun t44 H =>
 zah t39 (.bool true) t44 fun t45 =>
 zag t45
 (K (.bool false) H)
 (zaA [(.int .i64 0)] H fun t7 H =>
 zar 1 t7 (.int .i64 20) H fun H =>
 zaf 1 t6 fun t46 =>
 zae false 1 t46 H fun t47 =>
 zak 1 t47 fun t48 =>
 zt2 t7 t13 t14 t15 t30 t31 t32 t47 t48 (.int .i64 0) H K Kb4 Kb9))
 (zad .add false t15 (.int .i64 1) fun t58 =>
 Kb4 (zgQ t13 t14 t58) H)
def zon (t13 t14 t15 : AV) (H : zaa) (K : Kt) (Kb4 : Lt) : Prop :=
 zad .lss false t15 t14 fun t16 =>
 zag t16
 (zaj 3 t13 t15 fun t17 =>
 zae true 3 t17 H fun t18 =>
 zaA [(.str []), (.int .i64 0), .snil] H fun t4 H =>
 zar 3 t4 t18 H fun H =>
 zaf 0 t4 fun t19 =>
 zae false 1 t19 H fun t20 =>
 zak 0 t20 fun t21 =>
 zad .gtr false t21 (.int .i64 40) fun t22 =>
 zab t22 false H (fun K' => zaf 2 t4 (K' · H)) fun t24 H =>
 zab t22 false H (fun K' => zae false 1 t24 H (K' · H)) fun t25 H =>
 zab t22 false H (fun K' => zak 1 t25 (K' · H)) fun t26 H =>
 zab t22 false H (fun K' => zad .gtr false t26 (.int .i64 10) (K' · H)) fun t27 H =>
 zah t22 (.bool true) t27 fun t28 =>
 zag t28
 (K (.bool false) H)
 (zaf 2 t4 fun t29 =>
 zae false 1 t29 H fun t30 =>
 zak 1 t30 fun t31 =>
 zt4 t13 t14 t15 t30 t31 (.int .i64 0) H K Kb4))
 (K (.bool true) H)
def zol (t0 : AV) (H : zaa) (K : Kt) : Prop :=
 zak 1 t0 fun t11 =>
 zad .gtr false t11 (.int .i64 14) fun t12 =>
 zag t12
 (K (.bool false) H)
 (zak 1 t0 fun t14 =>
 zt3 t0 t14 (.int .i64 0) H K)
theorem zEf {t7 t13 t14 t15 t30 t31 t32 t47 t48 t49 : AV} {H : zaa} {K : Kt} {Kb4 : Lt} {Kb9 : Lt} (Inv : Nat → AV → zaa → Prop) (n : Nat) (h0 : HSc H → Inv n t49 H)
  (round : Rd1 (fun t49 => zjy t7 t13 t14 t15 t30 t31 t32 t47 t48 t49) (fun t49 => fun H Kb15 => zom t7 t13 t14 t15 t30 t31 t32 t47 t48 t49 H K Kb4 Kb9 Kb15) H Inv) : zt2 t7 t13 t14 t15 t30 t31 t32 t47 t48 t49 H K Kb4 Kb9 :=
 lp1 (M := zdJ) zEi t49 (by kernel_rfl) Inv n h0 round
theorem zEh {t13 t14 t15 t30 t31 t32 : AV} {H : zaa} {K : Kt} {Kb4 : Lt} (Inv : Nat → AV → zaa → Prop) (n : Nat) (h0 : HSc H → Inv n t32 H)
  (round : Rd1 (fun t32 => zjz t13 t14 t15 t30 t31 t32) (fun t32 => fun H Kb9 => zoo t13 t14 t15 t30 t31 t32 H K Kb4 Kb9) H Inv) : zt4 t13 t14 t15 t30 t31 t32 H K Kb4 :=
 lp1 (M := zdJ) zt6 t32 (by kernel_rfl) Inv n h0 round
theorem zEg {t13 t14 t15 : AV} {H : zaa} {K : Kt} (Inv : Nat → AV → zaa → Prop) (n : Nat) (h0 : HSc H → Inv n t15 H)
  (round : Rd1 (fun t15 => zgQ t13 t14 t15) (fun t15 => fun H Kb4 => zon t13 t14 t15 H K Kb4) H Inv) : zt3 t13 t14 t15 H K :=
 lp1 (M := zdJ) zt5 t15 (by kernel_rfl) Inv n h0 round
theorem zEj {t0 : AV} {H : zaa} {K : Kt} (h : HSc H → zol t0 H K) : ACalls tP zmh [t0] H K :=
 zau (M := zdJ) Try.func38 (c := zop) (by kernel_rfl) (fun hs => Eq.mpr (by kernel_rfl) (h hs))
def zHL (_ : Nat) : List Bool := []
noncomputable def zHM : Code := Try.f70.body.getD .skip
def zvp (t0 t1 t2 : AV) (H : zaa) (K : Kt) : Prop :=
 zaF t1 H fun t4 H =>
 zaI [.snil, (.int .i64 0), (.int .i64 0)] [(0, 1), (1, 1), (2, 1)] [(0, t0), (1, t2), (2, (.int .i64 200))] fun t10 =>
 zaF t10 H fun t11 H =>
 zae true 3 t4 H fun t13 =>
 ACalls tP zhY [t11, t13] H fun t14 H =>
 K t14 H
theorem zHN {t0 t1 t2 : AV} {H : zaa} {K : Kt} (h : HSc H → zvp t0 t1 t2 H K) : ACalls tP zfD [t0, t1, t2] H K :=
 zau (M := zHL) Try.func70 (c := zHM) (by kernel_rfl) (fun hs => Eq.mpr (by kernel_rfl) (h hs))
def zd4 : Nat → List Bool
 | 171022 => rl false [2,2,16,1,53,1,34]
 | 150010 => rl false [2,2,1,2,13,2,87]
 | 100007 => rl false [2,2,1,2,13,1,88]
 | 100002 => rl false [2,2,105]
 | _ => []
noncomputable def zd5 : Code := Try.f88.body.getD .skip
noncomputable def zk4 : List ResultVar := Try.f88.results.toList
def zf6 (t2 t3 t5 t6 : AV) (H : zaa) (K : Kt) : Prop :=
 zaf 0 t3 fun t79 =>
 zae false 1 t79 H fun t80 =>
 zad .neq false t80 (.int .i64 4) fun t81 =>
 zab t81 true H (fun K' => zaf 0 t3 (K' · H)) fun t83 H =>
 zab t81 true H (fun K' => zae false 1 t83 H (K' · H)) fun t84 H =>
 zab t81 true H (fun K' => zad .neq false t84 (.int .i64 5) (K' · H)) fun t85 H =>
 zah t81 t85 (.bool false) fun t86 =>
 zab t86 true H (fun K' => zaf 1 t3 (K' · H)) fun t88 H =>
 zab t86 true H (fun K' => zae false 1 t88 H (K' · H)) fun t89 H =>
 zab t86 true H (fun K' => zad .neq false t89 (.int .i64 0) (K' · H)) fun t90 H =>
 zah t86 t90 (.bool false) fun t91 =>
 zag t91
 (K (.bool false) H)
 (zaf 2 t3 fun t92 =>
 zae false 1 t92 H fun t93 =>
 zak 1 t93 fun t94 =>
 zad .lss false t94 t5 fun t96 =>
 zab t96 false H (fun K' => zaf 2 t3 (K' · H)) fun t98 H =>
 zab t96 false H (fun K' => zae false 1 t98 H (K' · H)) fun t99 H =>
 zab t96 false H (fun K' => zak 1 t99 (K' · H)) fun t100 H =>
 zab t96 false H (fun K' => K' t6 H) fun t101 H =>
 zab t96 false H (fun K' => zad .gtr false t100 t101 (K' · H)) fun t102 H =>
 zah t96 (.bool true) t102 fun t103 =>
 zag t103
 (K (.bool false) H)
 (zaf 2 t3 fun t104 =>
 zae false 1 t104 H fun t105 =>
 zcx zhF [t2] fun t106 =>
 ACalls tP zeS [t105, t106] H fun t107 H =>
 aUn .not t107 fun t108 =>
 K t108 H))
def zc9 (t2 t3 t5 t6 : AV) (H : zaa) (K : Kt) : Prop :=
 zf6 t2 t3 t5 t6 H K
noncomputable def zJO : Code := zao [1, 1, 1, 1, 0, 1, 0, 1, 1, 1, 1, 1, 1, 1, 1, 1] zd5
def zJN (K : Kt) : AExit → List AV → zaa → Prop := zap tP zd4 [1, 1, 1, 1, 0, 1, 0, 1, 1, 1, 1, 1, 1, 1, 1, 1] zd5 (zat tP zk4 K)
def zpV (t2 t3 t20 t74 : AV) (H : zaa) (K : Kt) : Prop := AWp tP zJO (zJN K) (ux 2 (t2 :: t3 :: ux 16 (t20 :: ux 53 (t74 :: ux 34 [])))) H
def zk3 (t2 t3 t20 t74 : AV) (H : zaa) (K : Kt) : Prop :=
 zag t74
 (zc9 t2 t3 (.int .i64 1) (.int .i64 1) H K)
 (zad .eql false t20 (.int .i64 9) fun t78 =>
 zag t78
 (zc9 t2 t3 (.int .i64 1) (.int .i64 7) H K)
 (K (.bool false) H))
noncomputable def zJM : Code := zao [1, 1, 1, 1, 0, 1, 0, 1] zd5
def zJL (K : Kt) : AExit → List AV → zaa → Prop := zap tP zd4 [1, 1, 1, 1, 0, 1, 0, 1] zd5 (zat tP zk4 K)
def zk2 (t2 t3 t5 t6 t20 t21 : AV) (H : zaa) (K : Kt) : Prop := AWp tP zJM (zJL K) (ux 2 (t2 :: t3 :: ux 1 (t5 :: t6 :: ux 13 (t20 :: t21 :: ux 87 [])))) H
def zdl (t2 t3 t5 t6 t20 t21 : AV) (H : zaa) (K : Kt) : Prop :=
 zag t21
 (zc9 t2 t3 t5 t6 H K)
 (zad .eql false t20 (.int .i64 4) fun t26 =>
 zag t26
 (zac H (fun K' => zaf 1 t3 (K' · H)) fun t27 =>
 zac H (fun K' => zai false 1 t27 H (K' · H)) fun t28 =>
 zac H (fun K' => zad .lss false t28 (.int .i64 0) (K' · H)) fun t29 =>
 zac H (fun K' => K' t29 H) fun t30 =>
 zab t30 false H (fun K' => zac H (fun K'' => zaf 1 t3 (K'' · H)) (K' · H)) fun t31 H =>
 zab t30 false H (fun K' => zac H (fun K'' => zai false 1 t31 H (K'' · H)) (K' · H)) fun t32 H =>
 zab t30 false H (fun K' => zac H (fun K'' => zai false 1 t2 H (K'' · H)) (K' · H)) fun t33 H =>
 zab t30 false H (fun K' => zac H (fun K'' => za0 t33 (K'' · H)) (K' · H)) fun t34 H =>
 zab t30 false H (fun K' => zac H (fun K'' => zaf 1 t34 (K'' · H)) (K' · H)) fun t35 H =>
 zab t30 false H (fun K' => zac H (fun K'' => zai false 1 t35 H (K'' · H)) (K' · H)) fun t36 H =>
 zab t30 false H (fun K' => zac H (fun K'' => zad .geq false t32 t36 (K'' · H)) (K' · H)) fun t37 H =>
 zac H (fun K' => zah t30 (.bool true) t37 (K' · H)) fun t38 =>
 zag t38
 (K (.bool false) H)
 (zc9 t2 t3 t5 t6 H K))
 (zad .eql false t20 (.int .i64 5) fun t40 =>
 zag t40
 (zac H (fun K' => zaf 1 t3 (K' · H)) fun t41 =>
 zac H (fun K' => zai false 1 t41 H (K' · H)) fun t42 =>
 zac H (fun K' => zad .lss false t42 (.int .i64 0) (K' · H)) fun t43 =>
 zac H (fun K' => K' t43 H) fun t44 =>
 zab t44 false H (fun K' => zac H (fun K'' => zaf 1 t3 (K'' · H)) (K' · H)) fun t45 H =>
 zab t44 false H (fun K' => zac H (fun K'' => zai false 1 t45 H (K'' · H)) (K' · H)) fun t46 H =>
 zab t44 false H (fun K' => zac H (fun K'' => zai false 1 t2 H (K'' · H)) (K' · H)) fun t47 H =>
 zab t44 false H (fun K' => zac H (fun K'' => za0 t47 (K'' · H)) (K' · H)) fun t48 H =>
 zab t44 false H (fun K' => zac H (fun K'' => zaf 0 t48 (K'' · H)) (K' · H)) fun t49 H =>
 zab t44 false H (fun K' => zac H (fun K'' => zai false 1 t49 H (K'' · H)) (K' · H)) fun t50 H =>
 zab t44 false H (fun K' => zac H (fun K'' => zak 1 t50 (K'' · H)) (K' · H)) fun t51 H =>
 zab t44 false H (fun K' => zac H (fun K'' => zad .geq false t46 t51 (K'' · H)) (K' · H)) fun t52 H =>
 zac H (fun K' => zah t44 (.bool true) t52 (K' · H)) fun t53 =>
 zag t53
 (K (.bool false) H)
 (zac H (fun K' => zai false 1 t2 H (K' · H)) fun t54 =>
 zac H (fun K' => za0 t54 (K' · H)) fun t55 =>
 zac H (fun K' => zaf 0 t55 (K' · H)) fun t56 =>
 zac H (fun K' => zai false 1 t56 H (K' · H)) fun t57 =>
 zac H (fun K' => zaf 1 t3 (K' · H)) fun t58 =>
 zac H (fun K' => zai false 1 t58 H (K' · H)) fun t59 =>
 zac H (fun K' => zaj 3 t57 t59 (K' · H)) fun t60 =>
 zac H (fun K' => zaf 1 t60 (K' · H)) fun t61 =>
 zac H (fun K' => zai false 1 t61 H (K' · H)) fun t62 =>
 zac H (fun K' => zai false 1 t2 H (K' · H)) fun t63 =>
 zac H (fun K' => za0 t63 (K' · H)) fun t64 =>
 zac H (fun K' => zaf 0 t64 (K' · H)) fun t65 =>
 zac H (fun K' => zai false 1 t65 H (K' · H)) fun t66 =>
 zac H (fun K' => zaf 1 t3 (K' · H)) fun t67 =>
 zac H (fun K' => zai false 1 t67 H (K' · H)) fun t68 =>
 zac H (fun K' => zaj 3 t66 t68 (K' · H)) fun t69 =>
 zac H (fun K' => zaf 1 t69 (K' · H)) fun t70 =>
 zac H (fun K' => zai false 1 t70 H (K' · H)) fun t71 =>
 zac H (fun K' => K' t62 H) fun t5 =>
 zac H (fun K' => K' t71 H) fun t6 =>
 zc9 t2 t3 t5 t6 H K))
 (zad .eql false t20 (.int .i64 6) fun t73 =>
 zag t73
 (zc9 t2 t3 (.int .i64 2) (.int .i64 6) H K)
 (zad .eql false t20 (.int .i64 7) fun t75 =>
 zag t75
 (zpV t2 t3 t20 t75 H K)
 (zad .eql false t20 (.int .i64 8) fun t76 =>
 zpV t2 t3 t20 t76 H K)))))
noncomputable def zJJ : Code := zao [1, 1, 1, 1, 0, 1] zd5
def zJI (K : Kt) : AExit → List AV → zaa → Prop := zap tP zd4 [1, 1, 1, 1, 0, 1] zd5 (zat tP zk4 K)
def zv6 (t2 t3 t5 t6 t20 : AV) (H : zaa) (K : Kt) : Prop := AWp tP zJJ (zJI K) (ux 2 (t2 :: t3 :: ux 1 (t5 :: t6 :: ux 13 (t20 :: ux 88 [])))) H
def zpU (t2 t3 t5 t6 t20 : AV) (H : zaa) (K : Kt) : Prop :=
 zad .eql false t20 (.int .i64 1) fun t22 =>
 zag t22
 (zk2 t2 t3 t5 t6 t20 t22 H K)
 (zad .eql false t20 (.int .i64 2) fun t23 =>
 zag t23
 (zk2 t2 t3 t5 t6 t20 t23 H K)
 (zad .eql false t20 (.int .i64 3) fun t24 =>
 zk2 t2 t3 t5 t6 t20 t24 H K))
noncomputable def zJG : Code := zao [1, 1] zd5
def zJF (K : Kt) : AExit → List AV → zaa → Prop := zap tP zd4 [1, 1] zd5 (zat tP zk4 K)
def zpS (t2 t3 : AV) (H : zaa) (K : Kt) : Prop := AWp tP zJG (zJF K) (ux 2 (t2 :: t3 :: ux 105 [])) H
def zpT (t2 t3 : AV) (H : zaa) (K : Kt) : Prop :=
 zae false 1 t2 H fun t14 =>
 za0 t14 fun t15 =>
 zaf 2 t15 fun t16 =>
 zae false 1 t16 H fun t17 =>
 zad .lss false t17 (.int .i64 0) fun t18 =>
 zag t18
 (K (.bool false) H)
 (zaf 0 t3 fun t19 =>
 zae false 1 t19 H fun t20 =>
 zv6 t2 t3 (.int .i64 0) (.int .i64 0) t20 H K)
def zv5 (t0 t1 : AV) (H : zaa) (K : Kt) : Prop :=
 zaF t0 H fun t2 H =>
 zaF t1 H fun t3 H =>
 zae false 1 t2 H fun t7 =>
 za0 t7 fun t8 =>
 zaf 2 t8 fun t9 =>
 zae false 1 t9 H fun t10 =>
 zad .sub false t10 (.int .i64 1) fun t11 =>
 za0 t7 fun t12 =>
 zaf 2 t12 fun t13 =>
 zar 1 t13 t11 H fun H =>
 zpS t2 t3 H K
theorem zv8 {t2 t3 t20 t74 : AV} {H : zaa} {K : Kt} (h : HSc H → zk3 t2 t3 t20 t74 H K) : zpV t2 t3 t20 t74 H K :=
 fun B w G a hH hF hd => zbz (M := zd4) _ _ _ _ (Eq.mpr (by kernel_rfl) (h hH.sc)) B w G a hH hF hd
theorem zv7 {t2 t3 t5 t6 t20 t21 : AV} {H : zaa} {K : Kt} (h : HSc H → zdl t2 t3 t5 t6 t20 t21 H K) : zk2 t2 t3 t5 t6 t20 t21 H K :=
 fun B w G a hH hF hd => zbz (M := zd4) _ _ _ _ (Eq.mpr (by kernel_rfl) (h hH.sc)) B w G a hH hF hd
theorem zJK {t2 t3 t5 t6 t20 : AV} {H : zaa} {K : Kt} (h : HSc H → zpU t2 t3 t5 t6 t20 H K) : zv6 t2 t3 t5 t6 t20 H K :=
 fun B w G a hH hF hd => zbz (M := zd4) _ _ _ _ (Eq.mpr (by kernel_rfl) (h hH.sc)) B w G a hH hF hd
theorem zJH {t2 t3 : AV} {H : zaa} {K : Kt} (h : HSc H → zpT t2 t3 H K) : zpS t2 t3 H K :=
 fun B w G a hH hF hd => zbz (M := zd4) _ _ _ _ (Eq.mpr (by kernel_rfl) (h hH.sc)) B w G a hH hF hd
theorem zJP {t0 t1 : AV} {H : zaa} {K : Kt} (h : HSc H → zv5 t0 t1 H K) : ACalls tP zhY [t0, t1] H K :=
 zau (M := zd4) Try.func88 (c := zd5) (by kernel_rfl) (fun hs => Eq.mpr (by kernel_rfl) (h hs))
def zAI (_ : Nat) : List Bool := []
noncomputable def zAJ : Code := Try.f104.body.getD .skip
def zsY (t0 t1 : AV) (H : zaa) (K : Kt) : Prop :=
 zaF t0 H fun t2 H =>
 zae false 1 t1 H fun t4 =>
 zae true 3 t2 H fun t5 =>
 ACalls tP zhY [t4, t5] H fun t6 H =>
 aUn .not t6 fun t7 =>
 K t7 H
theorem zAK {t0 t1 : AV} {H : zaa} {K : Kt} (h : HSc H → zsY t0 t1 H K) : ACalls tP zhF [t0, t1] H K :=
 zau (M := zAI) Try.func104 (c := zAJ) (by kernel_rfl) (fun hs => Eq.mpr (by kernel_rfl) (h hs))
def zHO (_ : Nat) : List Bool := []
noncomputable def zHP : Code := Try.f71.body.getD .skip
def zvq (t0 t1 : AV) (H : zaa) (K : Kt) : Prop :=
 zaF t0 H fun t2 H =>
 zaF t1 H fun t3 H =>
 zaf 0 t2 fun t5 =>
 zae false 1 t5 H fun t6 =>
 zaf 0 t3 fun t7 =>
 zae false 1 t7 H fun t8 =>
 zad .eql false t6 t8 fun t9 =>
 zab t9 true H (fun K' => zaf 1 t2 (K' · H)) fun t11 H =>
 zab t9 true H (fun K' => zae false 1 t11 H (K' · H)) fun t12 H =>
 zab t9 true H (fun K' => zaf 1 t3 (K' · H)) fun t13 H =>
 zab t9 true H (fun K' => zae false 1 t13 H (K' · H)) fun t14 H =>
 zab t9 true H (fun K' => zad .eql false t12 t14 (K' · H)) fun t15 H =>
 zah t9 t15 (.bool false) fun t16 =>
 zab t16 true H (fun K' => zaf 2 t2 (K' · H)) fun t18 H =>
 zab t16 true H (fun K' => zae false 1 t18 H (K' · H)) fun t19 H =>
 zab t16 true H (fun K' => zaf 2 t3 (K' · H)) fun t20 H =>
 zab t16 true H (fun K' => zae false 1 t20 H (K' · H)) fun t21 H =>
 zab t16 true H (fun K' => ACalls tP zhZ [t19, t21, (.fn zbF [])] H K') fun t22 H =>
 zah t16 t22 (.bool false) fun t23 =>
 K t23 H
theorem zHQ {t0 t1 : AV} {H : zaa} {K : Kt} (h : HSc H → zvq t0 t1 H K) : ACalls tP zbF [t0, t1] H K :=
 zau (M := zHO) Try.func71 (c := zHP) (by kernel_rfl) (fun hs => Eq.mpr (by kernel_rfl) (h hs))
def zk5 : Nat → List Bool
 | 4 => rl false [1,2,12,3,14]
 | _ => []
noncomputable def zpY : Code := Try.f89.body.getD .skip
noncomputable def zJV : List ResultVar := Try.f89.results.toList
def zk6 (t1 t2 t15 t16 t17 : AV) : List AV := ux 1 (t1 :: t2 :: ux 12 (t15 :: t16 :: t17 :: ux 14 []))
def zJT : List Bool := zk5 4
noncomputable def zJR : Code := zao [1, 1, 0, 1, 0, 0] zpY
def zJQ (K : Kt) : AExit → List AV → zaa → Prop := zap tP zk5 [1, 1, 0, 1, 0] zpY (zat tP zJV K)
def zv9 (t1 t2 t15 t16 t17 : AV) (H : zaa) (K : Kt) : Prop := ALoop tP zJR (zJQ K) (zk6 t1 t2 t15 t16 t17) H
def zpX (t1 t2 t15 t16 t17 : AV) (H : zaa) (K : Kt) (Kb4 : Lt) : Prop :=
 zad .lss false t17 t16 fun t18 =>
 zag t18
 (zaj 3 t15 t17 fun t20 =>
 zae true 3 t20 H fun t21 =>
 zaA [(.int .i64 0), (.int .i64 0), .snil] H fun t8 H =>
 zar 3 t8 t21 H fun H =>
 zaj 3 t1 t17 fun t24 =>
 zae true 3 t24 H fun t25 =>
 zaA [(.int .i64 0), (.int .i64 0), .snil] H fun t9 H =>
 zar 3 t9 t25 H fun H =>
 zae true 3 t8 H fun t27 =>
 zae true 3 t9 H fun t28 =>
 aCallV tP t2 [t27, t28] H fun t29 H =>
 aUn .not t29 fun t30 =>
 zag t30
 (K (.bool false) H)
 (zad .add false t17 (.int .i64 1) fun t31 =>
 Kb4 (zk6 t1 t2 t15 t16 t31) H))
 (K (.bool true) H)
def zpW (t0 t1 t2 : AV) (H : zaa) (K : Kt) : Prop :=
 zak 1 t0 fun t11 =>
 zak 1 t1 fun t13 =>
 zad .neq false t11 t13 fun t14 =>
 zag t14
 (K (.bool false) H)
 (zak 1 t0 fun t16 =>
 zv9 t1 t2 t0 t16 (.int .i64 0) H K)
theorem zJS {t1 t2 t15 t16 t17 : AV} {H : zaa} {K : Kt} (Inv : Nat → AV → zaa → Prop) (n : Nat) (h0 : HSc H → Inv n t17 H)
  (round : Rd1 (fun t17 => zk6 t1 t2 t15 t16 t17) (fun t17 => fun H Kb4 => zpX t1 t2 t15 t16 t17 H K Kb4) H Inv) : zv9 t1 t2 t15 t16 t17 H K :=
 lp1 (M := zk5) zJT t17 (by kernel_rfl) Inv n h0 round
theorem zJU {t0 t1 t2 : AV} {H : zaa} {K : Kt} (h : HSc H → zpW t0 t1 t2 H K) : ACalls tP zhZ [t0, t1, t2] H K :=
 zau (M := zk5) Try.func89 (c := zpY) (by kernel_rfl) (fun hs => Eq.mpr (by kernel_rfl) (h hs))
def zHF (_ : Nat) : List Bool := []
noncomputable def zHG : Code := Try.f68.body.getD .skip
def zvn (t0 t1 : AV) (H : zaa) (K : Kt) : Prop :=
 ACalls tP zmA [t0, t1] H fun t7 H =>
 zad .geq false t7 (.int .i64 0) fun t8 =>
 K t8 H
theorem zHH {t0 t1 : AV} {H : zaa} {K : Kt} (h : HSc H → zvn t0 t1 H K) : ACalls tP zeS [t0, t1] H K :=
 zau (M := zHF) Try.func68 (c := zHG) (by kernel_rfl) (fun hs => Eq.mpr (by kernel_rfl) (h hs))
def zk0 : Nat → List Bool
 | 2 => rl false [0,2,5,2,10]
 | _ => []
noncomputable def zpR : Code := Try.f87.body.getD .skip
noncomputable def zJE : List ResultVar := Try.f87.results.toList
def zk1 (t0 t1 t7 t8 : AV) : List AV := t0 :: t1 :: ux 5 (t7 :: t8 :: ux 10 [])
def zJC : List Bool := zk0 2
noncomputable def zJA : Code := zao [1, 0, 1, 0, 0] zpR
def zJz (K : Kt) : AExit → List AV → zaa → Prop := zap tP zk0 [1, 0, 1, 0] zpR (zat tP zJE K)
def zv4 (t0 t1 t7 t8 : AV) (H : zaa) (K : Kt) : Prop := ALoop tP zJA (zJz K) (zk1 t0 t1 t7 t8) H
def zpQ (t0 t1 t7 t8 : AV) (H : zaa) (K : Kt) (Kb2 : Lt) : Prop :=
 zad .lss false t8 t7 fun t9 =>
 zag t9
 (zaj 3 t0 t8 fun t14 =>
 zae true 3 t14 H fun t15 =>
 aCallV tP t1 [t15] H fun t16 H =>
 zag t16
 (K t8 H)
 (zad .add false t8 (.int .i64 1) fun t18 =>
 Kb2 (zk1 t0 t1 t7 t18) H))
 (K (.int .i64 (-1)) H)
def zv3 (t0 t1 : AV) (H : zaa) (K : Kt) : Prop :=
 zak 1 t0 fun t7 =>
 zv4 t0 t1 t7 (.int .i64 0) H K
theorem zJB {t0 t1 t7 t8 : AV} {H : zaa} {K : Kt} (Inv : Nat → AV → zaa → Prop) (n : Nat) (h0 : HSc H → Inv n t8 H)
  (round : Rd1 (fun t8 => zk1 t0 t1 t7 t8) (fun t8 => fun H Kb2 => zpQ t0 t1 t7 t8 H K Kb2) H Inv) : zv4 t0 t1 t7 t8 H K :=
 lp1 (M := zk0) zJC t8 (by kernel_rfl) Inv n h0 round
theorem zJD {t0 t1 : AV} {H : zaa} {K : Kt} (h : HSc H → zv3 t0 t1 H K) : ACalls tP zmA [t0, t1] H K :=
 zau (M := zk0) Try.func87 (c := zpR) (by kernel_rfl) (fun hs => Eq.mpr (by kernel_rfl) (h hs))
def zdF : Nat → List Bool
 | 8 => rl false [2,1,1,1,3,2,49,3,46]
 | 13 => rl false [2,1,1,1,3,2,67,3,28]
 | 20 => rl false [4,1,9,1,78,3,12]
 | _ => []
noncomputable def ze2 : Code := Try.f105.body.getD .skip
noncomputable def znv : List ResultVar := Try.f105.results.toList
def ziy (t2 t4 t8 t9 t59 t60 t61 : AV) : List AV := ux 2 (t2 :: ux 1 (t4 :: ux 3 (t8 :: t9 :: ux 49 (t59 :: t60 :: t61 :: ux 46 []))))
def zAW : List Bool := zdF 8
noncomputable def zAQ : Code := zao [1, 1, 1, 1, 1, 0, 1, 0, 0] ze2
def zAN (K : Kt) : AExit → List AV → zaa → Prop := zap tP zdF [1, 1, 1, 1, 1, 0, 1, 0] ze2 (zat tP znv K)
def zs1 (t2 t4 t8 t9 t59 t60 t61 : AV) (H : zaa) (K : Kt) : Prop := ALoop tP zAQ (zAN K) (ziy t2 t4 t8 t9 t59 t60 t61) H
def ziw (t2 t4 t8 t9 t77 t78 t79 : AV) : List AV := ux 2 (t2 :: ux 1 (t4 :: ux 3 (t8 :: t9 :: ux 67 (t77 :: t78 :: t79 :: ux 28 []))))
def zAU : List Bool := zdF 13
noncomputable def zAO : Code := zao [1, 1, 1, 1, 1, 1, 0, 1, 0, 0] ze2
def zAL (K : Kt) : AExit → List AV → zaa → Prop := zap tP zdF [1, 1, 1, 1, 1, 1, 0, 1, 0] ze2 (zat tP znv K)
def zs0 (t2 t4 t8 t9 t77 t78 t79 : AV) (H : zaa) (K : Kt) : Prop := ALoop tP zAO (zAL K) (ziw t2 t4 t8 t9 t77 t78 t79) H
def zix (t4 t14 t93 t94 t95 : AV) : List AV := ux 4 (t4 :: ux 9 (t14 :: ux 78 (t93 :: t94 :: t95 :: ux 12 [])))
def zAV : List Bool := zdF 20
noncomputable def zAP : Code := zao [1, 1, 1, 1, 1, 1, 1, 1, 0, 1, 0, 0] ze2
def zAM (K : Kt) : AExit → List AV → zaa → Prop := zap tP zdF [1, 1, 1, 1, 1, 1, 1, 1, 0, 1, 0] ze2 (zat tP znv K)
def ziz (t4 t14 t93 t94 t95 : AV) (H : zaa) (K : Kt) : Prop := ALoop tP zAP (zAM K) (zix t4 t14 t93 t94 t95) H
def znt (t4 t14 t93 t94 t95 : AV) (H : zaa) (K : Kt) (Kb20 : Lt) : Prop :=
 zad .lss false t95 t94 fun t96 =>
 zag t96
 (zaj 3 t93 t95 fun t97 =>
 zae true 3 t97 H fun t98 =>
 zaA [(.int .i64 0), (.int .i64 0), .snil] H fun t16 H =>
 zar 3 t16 t98 H fun H =>
 zae true 3 t16 H fun t100 =>
 zaf 2 t4 fun t101 =>
 zae false 1 t101 H fun t102 =>
 ACalls tP zgx [t100, t102] H fun t103 H =>
 zay 3 [(.int .i64 0), (.int .i64 0), .snil] 1 [(0, t103)] fun t104 =>
 zaH zaB 3 40 t14 t104 H fun t105 H =>
 zad .add false t95 (.int .i64 1) fun t106 =>
 Kb20 (zix t4 t105 t93 t94 t106) H)
 (zaW [t14, (.bool true)] (K · H))
def zns (t2 t4 t8 t9 t77 t78 t79 : AV) (H : zaa) (K : Kt) (Kb13 : Lt) : Prop :=
 zad .lss false t79 t78 fun t80 =>
 zag t80
 (zaj 3 t77 t79 fun t81 =>
 zae true 3 t81 H fun t82 =>
 zaA [(.int .i64 0), (.int .i64 0), .snil] H fun t13 H =>
 zar 3 t13 t82 H fun H =>
 zae true 3 t13 H fun t83 =>
 ACalls tP zhO [t83, t9] H fun t85 H =>
 zad .gtr false t85 (.int .i64 200) fun t86 =>
 zag t86
 (zaW [.snil, (.bool false)] (K · H))
 (zad .add false t79 (.int .i64 1) fun t87 =>
 Kb13 (ziw t2 t4 t8 t9 t77 t78 t87) H))
 (zaf 2 t8 fun t88 =>
 zae false 1 t88 H fun t89 =>
 zaj 2 t89 t2 fun t91 =>
 zaf 1 t91 fun t92 =>
 zae false 1 t92 H fun t93 =>
 zak 1 t93 fun t94 =>
 ziz t4 .snil t93 t94 (.int .i64 0) H K)
def znu (t2 t4 t8 t9 t59 t60 t61 : AV) (H : zaa) (K : Kt) (Kb8 : Lt) : Prop :=
 zad .lss false t61 t60 fun t62 =>
 zag t62
 (zaj 3 t59 t61 fun t64 =>
 zae true 3 t64 H fun t65 =>
 zaA [(.int .i64 0), (.int .i64 0), .snil] H fun t11 H =>
 zar 3 t11 t65 H fun H =>
 zae true 3 t11 H fun t68 =>
 ACalls tP zhN [t68] H fun t69 H =>
 zaj 1 t9 t61 fun t70 =>
 zar 1 t70 t69 H fun H =>
 zad .add false t61 (.int .i64 1) fun t71 =>
 Kb8 (ziy t2 t4 t8 t9 t59 t60 t71) H)
 (zaf 2 t8 fun t72 =>
 zae false 1 t72 H fun t73 =>
 zaj 2 t73 t2 fun t75 =>
 zaf 1 t75 fun t76 =>
 zae false 1 t76 H fun t77 =>
 zak 1 t77 fun t78 =>
 zs0 t2 t4 t8 t9 t77 t78 (.int .i64 0) H K)
def zsZ (t0 t1 t2 : AV) (H : zaa) (K : Kt) : Prop :=
 zaF t1 H fun t4 H =>
 zaf 0 t4 fun t17 =>
 zae false 1 t17 H fun t18 =>
 zad .neq false t18 (.int .i64 5) fun t19 =>
 zab t19 false H (fun K' => zaf 1 t4 (K' · H)) fun t21 H =>
 zab t19 false H (fun K' => zae false 1 t21 H (K' · H)) fun t22 H =>
 zab t19 false H (fun K' => zad .lss false t22 (.int .i64 0) (K' · H)) fun t23 H =>
 zah t19 (.bool true) t23 fun t24 =>
 zab t24 false H (fun K' => zaf 1 t4 (K' · H)) fun t26 H =>
 zab t24 false H (fun K' => zae false 1 t26 H (K' · H)) fun t27 H =>
 zab t24 false H (fun K' => K' t0 H) fun t28 H =>
 zab t24 false H (fun K' => zak 1 t28 (K' · H)) fun t29 H =>
 zab t24 false H (fun K' => zad .geq false t27 t29 (K' · H)) fun t30 H =>
 zah t24 (.bool true) t30 fun t31 =>
 zag t31
 (zaW [.snil, (.bool false)] (K · H))
 (zaf 1 t4 fun t33 =>
 zae false 1 t33 H fun t34 =>
 zaj 3 t0 t34 fun t35 =>
 zae true 3 t35 H fun t36 =>
 zaA [(.str []), (.int .i64 0), .snil] H fun t8 H =>
 zar 3 t8 t36 H fun H =>
 zaf 2 t4 fun t37 =>
 zae false 1 t37 H fun t38 =>
 zak 1 t38 fun t39 =>
 zaf 1 t8 fun t40 =>
 zae false 1 t40 H fun t41 =>
 zad .neq false t39 t41 fun t42 =>
 zab t42 false H (fun K' => K' t2 H) fun t44 H =>
 zab t42 false H (fun K' => zad .lss false t44 (.int .i64 0) (K' · H)) fun t45 H =>
 zah t42 (.bool true) t45 fun t46 =>
 zab t46 false H (fun K' => K' t2 H) fun t48 H =>
 zab t46 false H (fun K' => zaf 2 t8 (K' · H)) fun t49 H =>
 zab t46 false H (fun K' => zae false 1 t49 H (K' · H)) fun t50 H =>
 zab t46 false H (fun K' => zak 1 t50 (K' · H)) fun t51 H =>
 zab t46 false H (fun K' => zad .geq false t48 t51 (K' · H)) fun t52 H =>
 zah t46 (.bool true) t52 fun t53 =>
 zag t53
 (zaW [.snil, (.bool false)] (K · H))
 (zaf 2 t4 fun t54 =>
 zae false 1 t54 H fun t55 =>
 zak 1 t55 fun t56 =>
 zbc 8 [(.int .i64 0)] t56 t56 H fun t57 H =>
 zaf 2 t4 fun t58 =>
 zae false 1 t58 H fun t59 =>
 zak 1 t59 fun t60 =>
 zs1 t2 t4 t8 t57 t59 t60 (.int .i64 0) H K))
theorem zAS {t4 t14 t93 t94 t95 : AV} {H : zaa} {K : Kt} (Inv : Nat → AV → AV → zaa → Prop) (n : Nat) (h0 : HSc H → Inv n t14 t95 H)
  (round : Rd2 (fun t14 => fun t95 => zix t4 t14 t93 t94 t95) (fun t14 => fun t95 => fun H Kb20 => znt t4 t14 t93 t94 t95 H K Kb20) H Inv) : ziz t4 t14 t93 t94 t95 H K :=
 lp2 (M := zdF) zAV t14 t95 (by kernel_rfl) Inv n h0 round
theorem zAR {t2 t4 t8 t9 t77 t78 t79 : AV} {H : zaa} {K : Kt} (Inv : Nat → AV → zaa → Prop) (n : Nat) (h0 : HSc H → Inv n t79 H)
  (round : Rd1 (fun t79 => ziw t2 t4 t8 t9 t77 t78 t79) (fun t79 => fun H Kb13 => zns t2 t4 t8 t9 t77 t78 t79 H K Kb13) H Inv) : zs0 t2 t4 t8 t9 t77 t78 t79 H K :=
 lp1 (M := zdF) zAU t79 (by kernel_rfl) Inv n h0 round
theorem zAT {t2 t4 t8 t9 t59 t60 t61 : AV} {H : zaa} {K : Kt} (Inv : Nat → AV → zaa → Prop) (n : Nat) (h0 : HSc H → Inv n t61 H)
  (round : Rd1 (fun t61 => ziy t2 t4 t8 t9 t59 t60 t61) (fun t61 => fun H Kb8 => znu t2 t4 t8 t9 t59 t60 t61 H K Kb8) H Inv) : zs1 t2 t4 t8 t9 t59 t60 t61 H K :=
 lp1 (M := zdF) zAW t61 (by kernel_rfl) Inv n h0 round
theorem zAX {t0 t1 t2 : AV} {H : zaa} {K : Kt} (h : HSc H → zsZ t0 t1 t2 H K) : ACalls tP zgr [t0, t1, t2] H K :=
 zau (M := zdF) Try.func105 (c := ze2) (by kernel_rfl) (fun hs => Eq.mpr (by kernel_rfl) (h hs))
def ziU : Nat → List Bool
 | 3 => rl false [3,1,3,3,9]
 | _ => []
noncomputable def znQ : Code := Try.f124.body.getD .skip
noncomputable def zCw : List ResultVar := Try.f124.results.toList
def ziV (t3 t7 t8 t9 : AV) : List AV := ux 3 (t3 :: ux 3 (t7 :: t8 :: t9 :: ux 9 []))
def zCu : List Bool := ziU 3
noncomputable def zCs : Code := zao [1, 1, 0, 1, 0, 0] znQ
def zCr (K : Kt) : AExit → List AV → zaa → Prop := zap tP ziU [1, 1, 0, 1, 0] znQ (zat tP zCw K)
def ztw (t3 t7 t8 t9 : AV) (H : zaa) (K : Kt) : Prop := ALoop tP zCs (zCr K) (ziV t3 t7 t8 t9) H
def znP (t3 t7 t8 t9 : AV) (H : zaa) (K : Kt) (Kb3 : Lt) : Prop :=
 zad .lss false t9 t8 fun t10 =>
 zag t10
 (zaj 3 t7 t9 fun t11 =>
 zae true 3 t11 H fun t12 =>
 zaA [(.int .i64 0), (.int .i64 0), .snil] H fun t5 H =>
 zar 3 t5 t12 H fun H =>
 zae true 3 t5 H fun t14 =>
 ACalls tP zhN [t14] H fun t15 H =>
 zad .add false t3 t15 fun t16 =>
 zad .add false t9 (.int .i64 1) fun t17 =>
 Kb3 (ziV t16 t7 t8 t17) H)
 (K t3 H)
def ztv (t0 : AV) (H : zaa) (K : Kt) : Prop :=
 zaF t0 H fun t1 H =>
 zaf 2 t1 fun t6 =>
 zae false 1 t6 H fun t7 =>
 zak 1 t7 fun t8 =>
 ztw (.int .i64 1) t7 t8 (.int .i64 0) H K
theorem zCt {t3 t7 t8 t9 : AV} {H : zaa} {K : Kt} (Inv : Nat → AV → AV → zaa → Prop) (n : Nat) (h0 : HSc H → Inv n t3 t9 H)
  (round : Rd2 (fun t3 => fun t9 => ziV t3 t7 t8 t9) (fun t3 => fun t9 => fun H Kb3 => znP t3 t7 t8 t9 H K Kb3) H Inv) : ztw t3 t7 t8 t9 H K :=
 lp2 (M := ziU) zCu t3 t9 (by kernel_rfl) Inv n h0 round
theorem zCv {t0 : AV} {H : zaa} {K : Kt} (h : HSc H → ztv t0 H K) : ACalls tP zhN [t0] H K :=
 zau (M := ziU) Try.func124 (c := znQ) (by kernel_rfl) (fun hs => Eq.mpr (by kernel_rfl) (h hs))
def ziW : Nat → List Bool
 | 5 => rl false [1,1,3,1,23,3,12]
 | _ => []
noncomputable def znT : Code := Try.f125.body.getD .skip
noncomputable def zCD : List ResultVar := Try.f125.results.toList
def ziX (t1 t5 t29 t30 t31 : AV) : List AV := ux 1 (t1 :: ux 3 (t5 :: ux 23 (t29 :: t30 :: t31 :: ux 12 [])))
def zCB : List Bool := ziW 5
noncomputable def zCz : Code := zao [1, 1, 1, 0, 1, 0, 0] znT
def zCy (K : Kt) : AExit → List AV → zaa → Prop := zap tP ziW [1, 1, 1, 0, 1, 0] znT (zat tP zCD K)
def znV (t1 t5 t29 t30 t31 : AV) (H : zaa) (K : Kt) : Prop := ALoop tP zCz (zCy K) (ziX t1 t5 t29 t30 t31) H
def znU (t5 : AV) (H : zaa) (K : Kt) : Prop :=
 K t5 H
def ziY (t5 : AV) (H : zaa) (K : Kt) : Prop :=
 znU t5 H K
def znS (t1 t5 t29 t30 t31 : AV) (H : zaa) (K : Kt) (Kb5 : Lt) : Prop :=
 zad .lss false t31 t30 fun t32 =>
 zag t32
 (zaj 3 t29 t31 fun t33 =>
 zae true 3 t33 H fun t34 =>
 zaA [(.int .i64 0), (.int .i64 0), .snil] H fun t7 H =>
 zar 3 t7 t34 H fun H =>
 zae true 3 t7 H fun t36 =>
 ACalls tP zhO [t36, t1] H fun t38 H =>
 zad .add false t5 t38 fun t39 =>
 zad .gtr false t39 (.int .i64 200) fun t41 =>
 zag t41
 (ziY t39 H K)
 (zad .add false t31 (.int .i64 1) fun t42 =>
 Kb5 (ziX t1 t39 t29 t30 t42) H))
 (ziY t5 H K)
def znR (t0 t1 : AV) (H : zaa) (K : Kt) : Prop :=
 zaF t0 H fun t2 H =>
 zaf 0 t2 fun t8 =>
 zae false 1 t8 H fun t9 =>
 zad .eql false t9 (.int .i64 4) fun t10 =>
 zab t10 true H (fun K' => zaf 1 t2 (K' · H)) fun t12 H =>
 zab t10 true H (fun K' => zae false 1 t12 H (K' · H)) fun t13 H =>
 zab t10 true H (fun K' => zad .geq false t13 (.int .i64 0) (K' · H)) fun t14 H =>
 zah t10 t14 (.bool false) fun t15 =>
 zab t15 true H (fun K' => zaf 1 t2 (K' · H)) fun t17 H =>
 zab t15 true H (fun K' => zae false 1 t17 H (K' · H)) fun t18 H =>
 zab t15 true H (fun K' => K' t1 H) fun t19 H =>
 zab t15 true H (fun K' => zak 1 t19 (K' · H)) fun t20 H =>
 zab t15 true H (fun K' => zad .lss false t18 t20 (K' · H)) fun t21 H =>
 zah t15 t21 (.bool false) fun t22 =>
 zag t22
 (zaf 1 t2 fun t24 =>
 zae false 1 t24 H fun t25 =>
 zaj 1 t1 t25 fun t26 =>
 zae false 1 t26 H fun t27 =>
 K t27 H)
 (zaf 2 t2 fun t28 =>
 zae false 1 t28 H fun t29 =>
 zak 1 t29 fun t30 =>
 znV t1 (.int .i64 1) t29 t30 (.int .i64 0) H K)
theorem zCA {t1 t5 t29 t30 t31 : AV} {H : zaa} {K : Kt} (Inv : Nat → AV → AV → zaa → Prop) (n : Nat) (h0 : HSc H → Inv n t5 t31 H)
  (round : Rd2 (fun t5 => fun t31 => ziX t1 t5 t29 t30 t31) (fun t5 => fun t31 => fun H Kb5 => znS t1 t5 t29 t30 t31 H K Kb5) H Inv) : znV t1 t5 t29 t30 t31 H K :=
 lp2 (M := ziW) zCB t5 t31 (by kernel_rfl) Inv n h0 round
theorem zCC {t0 t1 : AV} {H : zaa} {K : Kt} (h : HSc H → znR t0 t1 H K) : ACalls tP zhO [t0, t1] H K :=
 zau (M := ziW) Try.func125 (c := znT) (by kernel_rfl) (fun hs => Eq.mpr (by kernel_rfl) (h hs))
def ziZ : Nat → List Bool
 | 5 => rl false [1,1,2,2,29,3,13]
 | _ => []
noncomputable def znY : Code := Try.f126.body.getD .skip
noncomputable def zCK : List ResultVar := Try.f126.results.toList
def zi0 (t1 t4 t5 t35 t36 t37 : AV) : List AV := ux 1 (t1 :: ux 2 (t4 :: t5 :: ux 29 (t35 :: t36 :: t37 :: ux 13 [])))
def zCI : List Bool := ziZ 5
noncomputable def zCG : Code := zao [1, 1, 1, 0, 1, 0, 0] znY
def zCF (K : Kt) : AExit → List AV → zaa → Prop := zap tP ziZ [1, 1, 1, 0, 1, 0] znY (zat tP zCK K)
def zgN (t1 t4 t5 t35 t36 t37 : AV) (H : zaa) (K : Kt) : Prop := ALoop tP zCG (zCF K) (zi0 t1 t4 t5 t35 t36 t37) H
def znX (t1 t4 t5 t35 t36 t37 : AV) (H : zaa) (K : Kt) (Kb5 : Lt) : Prop :=
 zad .lss false t37 t36 fun t38 =>
 zag t38
 (zaj 3 t35 t37 fun t39 =>
 zae true 3 t39 H fun t40 =>
 zaA [(.int .i64 0), (.int .i64 0), .snil] H fun t7 H =>
 zar 3 t7 t40 H fun H =>
 zac H (fun K' => zaf 2 t5 (K' · H)) fun t41 =>
 zac H (fun K' => zai false 1 t41 H (K' · H)) fun t42 =>
 zac H (fun K' => zai true 3 t7 H (K' · H)) fun t43 =>
 zac H (fun K' => K' t1 H) fun t44 =>
 zaw H (fun H K' => ACalls tP zgx [t43, t44] H K') fun t45 =>
 zac H (fun K' => zay 3 [(.int .i64 0), (.int .i64 0), .snil] 1 [(0, t45)] (K' · H)) fun t46 =>
 zaH zaB 3 40 t42 t46 H fun t47 H =>
 zac H (fun K' => zaf 2 t5 (K' · H)) fun t48 =>
 zar 1 t48 t47 H fun H =>
 zad .add false t37 (.int .i64 1) fun t49 =>
 Kb5 (zi0 t1 t4 t5 t35 t36 t49) H)
 (zae true 3 t5 H fun t50 =>
 zar 3 t4 t50 H fun H =>
 zae true 3 t4 H fun r0 =>
 K r0 H)
def znW (t0 t1 : AV) (H : zaa) (K : Kt) : Prop :=
 zaF t0 H fun t2 H =>
 zaA [(.int .i64 0), (.int .i64 0), .snil] H fun t4 H =>
 zaf 0 t2 fun t8 =>
 zae false 1 t8 H fun t9 =>
 zad .eql false t9 (.int .i64 4) fun t10 =>
 zab t10 true H (fun K' => zaf 1 t2 (K' · H)) fun t12 H =>
 zab t10 true H (fun K' => zae false 1 t12 H (K' · H)) fun t13 H =>
 zab t10 true H (fun K' => zad .geq false t13 (.int .i64 0) (K' · H)) fun t14 H =>
 zah t10 t14 (.bool false) fun t15 =>
 zab t15 true H (fun K' => zaf 1 t2 (K' · H)) fun t17 H =>
 zab t15 true H (fun K' => zae false 1 t17 H (K' · H)) fun t18 H =>
 zab t15 true H (fun K' => K' t1 H) fun t19 H =>
 zab t15 true H (fun K' => zak 1 t19 (K' · H)) fun t20 H =>
 zab t15 true H (fun K' => zad .lss false t18 t20 (K' · H)) fun t21 H =>
 zah t15 t21 (.bool false) fun t22 =>
 zag t22
 (zaf 1 t2 fun t24 =>
 zae false 1 t24 H fun t25 =>
 zaj 3 t1 t25 fun t26 =>
 zae true 3 t26 H fun t27 =>
 ACalls tP zgx [t27, .snil] H fun t28 H =>
 zar 3 t4 t28 H fun H =>
 zae true 3 t4 H fun r0 =>
 K r0 H)
 (zaf 0 t2 fun t29 =>
 zae false 1 t29 H fun t30 =>
 zaf 1 t2 fun t31 =>
 zae false 1 t31 H fun t32 =>
 zaI [(.int .i64 0), (.int .i64 0), .snil] [(0, 1), (1, 1), (2, 1)] [(0, t30), (1, t32)] fun t33 =>
 zaA [(.int .i64 0), (.int .i64 0), .snil] H fun t5 H =>
 zar 3 t5 t33 H fun H =>
 zaf 2 t2 fun t34 =>
 zae false 1 t34 H fun t35 =>
 zak 1 t35 fun t36 =>
 zgN t1 t4 t5 t35 t36 (.int .i64 0) H K)
theorem zCH {t1 t4 t5 t35 t36 t37 : AV} {H : zaa} {K : Kt} (Inv : Nat → AV → zaa → Prop) (n : Nat) (h0 : HSc H → Inv n t37 H)
  (round : Rd1 (fun t37 => zi0 t1 t4 t5 t35 t36 t37) (fun t37 => fun H Kb5 => znX t1 t4 t5 t35 t36 t37 H K Kb5) H Inv) : zgN t1 t4 t5 t35 t36 t37 H K :=
 lp1 (M := ziZ) zCI t37 (by kernel_rfl) Inv n h0 round
theorem zCJ {t0 t1 : AV} {H : zaa} {K : Kt} (h : HSc H → znW t0 t1 H K) : ACalls tP zgx [t0, t1] H K :=
 zau (M := ziZ) Try.func126 (c := znY) (by kernel_rfl) (fun hs => Eq.mpr (by kernel_rfl) (h hs))
def zFB (_ : Nat) : List Bool := []
noncomputable def zFC : Code := Try.f49.body.getD .skip
def zuI (t0 t1 t2 : AV) (H : zaa) (K : Kt) : Prop :=
 zaF t1 H fun t4 H =>
 zae true 3 t4 H fun t7 =>
 ACalls tP zgB [t7] H fun t8 H =>
 zad .leq false t8 (.int .i64 200) fun t9 =>
 zab t9 true H (fun K' => K' t0 H) fun t11 H =>
 zab t9 true H (fun K' => zae true 3 t4 H (K' · H)) fun t12 H =>
 zab t9 true H (fun K' => K' t2 H) fun t13 H =>
 zab t9 true H (fun K' => ACalls tP zhW [t11, t12, t13] H K') fun t14 H =>
 zah t9 t14 (.bool false) fun t15 =>
 K t15 H
theorem zFD {t0 t1 t2 : AV} {H : zaa} {K : Kt} (h : HSc H → zuI t0 t1 t2 H K) : ACalls tP zfA [t0, t1, t2] H K :=
 zau (M := zFB) Try.func49 (c := zFC) (by kernel_rfl) (fun hs => Eq.mpr (by kernel_rfl) (h hs))
def zjY : Nat → List Bool
 | 4 => rl false [2,2,1,1,40]
 | _ => []
noncomputable def zoR : Code := Try.f51.body.getD .skip
noncomputable def zFP : List ResultVar := Try.f51.results.toList
def zjZ (t2 t3 t5 : AV) : List AV := ux 2 (t2 :: t3 :: ux 1 (t5 :: ux 40 []))
def zFN : List Bool := zjY 4
noncomputable def zFL : Code := zao [1, 1, 0, 1, 0, 0] zoR
def zFK (K : Kt) : AExit → List AV → zaa → Prop := zap tP zjY [1, 1, 0, 1, 0] zoR (zat tP zFP K)
def zuL (t2 t3 t5 : AV) (H : zaa) (K : Kt) : Prop := ALoop tP zFL (zFK K) (zjZ t2 t3 t5) H
def zoQ (t2 t3 t5 : AV) (H : zaa) (K : Kt) (Kb4 : Lt) : Prop :=
 zaf 2 t2 fun t28 =>
 zae false 1 t28 H fun t29 =>
 zak 1 t29 fun t30 =>
 zad .lss false t5 t30 fun t31 =>
 zag t31
 (zac H (fun K' => zaf 2 t2 (K' · H)) fun t34 =>
 zac H (fun K' => zai false 1 t34 H (K' · H)) fun t35 =>
 zac H (fun K' => K' t5 H) fun t36 =>
 zac H (fun K' => zaj 3 t35 t36 (K' · H)) fun t37 =>
 zac H (fun K' => zai true 3 t37 H (K' · H)) fun t38 =>
 zac H (fun K' => zaf 2 t3 (K' · H)) fun t39 =>
 zac H (fun K' => zai false 1 t39 H (K' · H)) fun t40 =>
 zac H (fun K' => K' t5 H) fun t41 =>
 zac H (fun K' => zaj 3 t40 t41 (K' · H)) fun t42 =>
 zac H (fun K' => zai true 3 t42 H (K' · H)) fun t43 =>
 zaw H (fun H K' => ACalls tP zcp [t38, t43] H K') fun t44 =>
 zac H (fun K' => aUn .not t44 (K' · H)) fun t45 =>
 zag t45
 (K (.bool false) H)
 (zad .add false t5 (.int .i64 1) fun t33 =>
 Kb4 (zjZ t2 t3 t33) H))
 (K (.bool true) H)
def zgZ (t0 t1 : AV) (H : zaa) (K : Kt) : Prop :=
 zaF t0 H fun t2 H =>
 zaF t1 H fun t3 H =>
 zaf 0 t2 fun t6 =>
 zae false 1 t6 H fun t7 =>
 zaf 0 t3 fun t8 =>
 zae false 1 t8 H fun t9 =>
 zad .neq false t7 t9 fun t10 =>
 zab t10 false H (fun K' => zaf 1 t2 (K' · H)) fun t12 H =>
 zab t10 false H (fun K' => zae false 1 t12 H (K' · H)) fun t13 H =>
 zab t10 false H (fun K' => zaf 1 t3 (K' · H)) fun t14 H =>
 zab t10 false H (fun K' => zae false 1 t14 H (K' · H)) fun t15 H =>
 zab t10 false H (fun K' => zad .neq false t13 t15 (K' · H)) fun t16 H =>
 zah t10 (.bool true) t16 fun t17 =>
 zab t17 false H (fun K' => zaf 2 t2 (K' · H)) fun t19 H =>
 zab t17 false H (fun K' => zae false 1 t19 H (K' · H)) fun t20 H =>
 zab t17 false H (fun K' => zak 1 t20 (K' · H)) fun t21 H =>
 zab t17 false H (fun K' => zaf 2 t3 (K' · H)) fun t22 H =>
 zab t17 false H (fun K' => zae false 1 t22 H (K' · H)) fun t23 H =>
 zab t17 false H (fun K' => zak 1 t23 (K' · H)) fun t24 H =>
 zab t17 false H (fun K' => zad .neq false t21 t24 (K' · H)) fun t25 H =>
 zah t17 (.bool true) t25 fun t26 =>
 zag t26
 (K (.bool false) H)
 (zuL t2 t3 (.int .i64 0) H K)
theorem zFM {t2 t3 t5 : AV} {H : zaa} {K : Kt} (Inv : Nat → AV → zaa → Prop) (n : Nat) (h0 : HSc H → Inv n t5 H)
  (round : Rd1 (fun t5 => zjZ t2 t3 t5) (fun t5 => fun H Kb4 => zoQ t2 t3 t5 H K Kb4) H Inv) : zuL t2 t3 t5 H K :=
 lp1 (M := zjY) zFN t5 (by kernel_rfl) Inv n h0 round
theorem zFO {t0 t1 : AV} {H : zaa} {K : Kt} (h : HSc H → zgZ t0 t1 H K) : ACalls tP zcp [t0, t1] H K :=
 zau (M := zjY) Try.func51 (c := zoR) (by kernel_rfl) (fun hs => Eq.mpr (by kernel_rfl) (h hs))
def zkM : Nat → List Bool
 | 3 => rl false [1,1,1,2,16]
 | _ => []
noncomputable def zpy : Code := Try.f79.body.getD .skip
noncomputable def zIR : List ResultVar := Try.f79.results.toList
def zkN (t1 t3 t4 : AV) : List AV := ux 1 (t1 :: ux 1 (t3 :: t4 :: ux 16 []))
def zIP : List Bool := zkM 3
noncomputable def zIN : Code := zao [1, 1, 0, 1, 0, 0] zpy
def zIM (K : Kt) : AExit → List AV → zaa → Prop := zap tP zkM [1, 1, 0, 1, 0] zpy (zat tP zIR K)
def zvP (t1 t3 t4 : AV) (H : zaa) (K : Kt) : Prop := ALoop tP zIN (zIM K) (zkN t1 t3 t4) H
def zpx (t1 t3 t4 : AV) (H : zaa) (K : Kt) (Kb3 : Lt) : Prop :=
 zaf 2 t1 fun t6 =>
 zae false 1 t6 H fun t7 =>
 zak 1 t7 fun t8 =>
 zad .lss false t4 t8 fun t9 =>
 zag t9
 (zaf 2 t1 fun t13 =>
 zae false 1 t13 H fun t14 =>
 zaj 3 t14 t4 fun t16 =>
 zae true 3 t16 H fun t17 =>
 ACalls tP zgB [t17] H fun t18 H =>
 zad .add false t3 t18 fun t19 =>
 zad .add false t4 (.int .i64 1) fun t11 =>
 Kb3 (zkN t1 t19 t11) H)
 (K t3 H)
def zvO (t0 : AV) (H : zaa) (K : Kt) : Prop :=
 zaF t0 H fun t1 H =>
 zvP t1 (.int .i64 1) (.int .i64 0) H K
theorem zIO {t1 t3 t4 : AV} {H : zaa} {K : Kt} (Inv : Nat → AV → AV → zaa → Prop) (n : Nat) (h0 : HSc H → Inv n t3 t4 H)
  (round : Rd2 (fun t3 => fun t4 => zkN t1 t3 t4) (fun t3 => fun t4 => fun H Kb3 => zpx t1 t3 t4 H K Kb3) H Inv) : zvP t1 t3 t4 H K :=
 lp2 (M := zkM) zIP t3 t4 (by kernel_rfl) Inv n h0 round
theorem zIQ {t0 : AV} {H : zaa} {K : Kt} (h : HSc H → zvO t0 H K) : ACalls tP zgB [t0] H K :=
 zau (M := zkM) Try.func79 (c := zpy) (by kernel_rfl) (fun hs => Eq.mpr (by kernel_rfl) (h hs))
def zkO : Nat → List Bool
 | 24 => rl false [0,1,1,1,1,1,2,2,103]
 | _ => []
noncomputable def zpA : Code := Try.f80.body.getD .skip
noncomputable def zIX : List ResultVar := Try.f80.results.toList
def zkP (t0 t2 t4 t7 t8 : AV) : List AV := t0 :: ux 1 (t2 :: ux 1 (t4 :: ux 2 (t7 :: t8 :: ux 103 [])))
def zIV : List Bool := zkO 24
noncomputable def zIT : Code := zao [1, 1, 1, 0, 1, 0, 0] zpA
def zIS (K : Kt) : AExit → List AV → zaa → Prop := zap tP zkO [1, 1, 1, 0, 1, 0] zpA (zat tP zIX K)
def zpB (t0 t2 t4 t7 t8 : AV) (H : zaa) (K : Kt) : Prop := ALoop tP zIT (zIS K) (zkP t0 t2 t4 t7 t8) H
def zpz (t0 t2 t4 t7 t8 : AV) (H : zaa) (K : Kt) (Kb24 : Lt) : Prop :=
 zad .lss false t8 t7 fun t100 =>
 zag t100
 (zaf 2 t4 fun t104 =>
 zae false 1 t104 H fun t105 =>
 zaj 3 t105 t8 fun t107 =>
 zae true 3 t107 H fun t108 =>
 ACalls tP zhW [t0, t108, t2] H fun t110 H =>
 aUn .not t110 fun t111 =>
 zag t111
 (K (.bool false) H)
 (zad .add false t8 (.int .i64 1) fun t102 =>
 Kb24 (zkP t0 t2 t4 t7 t102) H))
 (K (.bool true) H)
def zha (t0 t2 t4 t7 : AV) (H : zaa) (K : Kt) : Prop :=
 zpB t0 t2 t4 t7 (.int .i64 0) H K
def zey (t0 t2 t4 t7 : AV) (H : zaa) (K : Kt) : Prop :=
 zha t0 t2 t4 t7 H K
def zdN (t0 t2 t4 t7 t13 t75 : AV) (H : zaa) (K : Kt) : Prop :=
 zag t75
 (zaf 1 t4 fun t78 =>
 zae false 1 t78 H fun t79 =>
 zad .neq false t79 (.int .i64 0) fun t80 =>
 zab t80 false H (fun K' => K' t7 H) fun t82 H =>
 zab t80 false H (fun K' => zad .neq false t82 (.int .i64 1) (K' · H)) fun t83 H =>
 zah t80 (.bool true) t83 fun t84 =>
 zag t84
 (K (.bool false) H)
 (zey t0 t2 t4 t7 H K))
 (zad .eql false t13 (.int .i64 9) fun t86 =>
 zag t86
 (zaf 1 t4 fun t87 =>
 zae false 1 t87 H fun t88 =>
 zad .neq false t88 (.int .i64 0) fun t89 =>
 zab t89 false H (fun K' => K' t7 H) fun t91 H =>
 zab t89 false H (fun K' => zad .lss false t91 (.int .i64 1) (K' · H)) fun t92 H =>
 zah t89 (.bool true) t92 fun t93 =>
 zab t93 false H (fun K' => K' t7 H) fun t95 H =>
 zab t93 false H (fun K' => zad .gtr false t95 (.int .i64 7) (K' · H)) fun t96 H =>
 zah t93 (.bool true) t96 fun t97 =>
 zag t97
 (K (.bool false) H)
 (zey t0 t2 t4 t7 H K))
 (K (.bool false) H))
def zbN (t0 t2 t4 t7 t13 t14 : AV) (H : zaa) (K : Kt) : Prop :=
 zag t14
 (zaf 1 t4 fun t18 =>
 zae false 1 t18 H fun t19 =>
 zad .eql false t19 (.int .i64 0) fun t20 =>
 zab t20 true H (fun K' => K' t7 H) fun t22 H =>
 zab t20 true H (fun K' => zad .eql false t22 (.int .i64 0) (K' · H)) fun t23 H =>
 zah t20 t23 (.bool false) fun t24 =>
 K t24 H)
 (zad .eql false t13 (.int .i64 4) fun t26 =>
 zag t26
 (zaf 1 t4 fun t27 =>
 zae false 1 t27 H fun t28 =>
 zad .geq false t28 (.int .i64 0) fun t29 =>
 zab t29 true H (fun K' => zaf 1 t4 (K' · H)) fun t31 H =>
 zab t29 true H (fun K' => zae false 1 t31 H (K' · H)) fun t32 H =>
 zab t29 true H (fun K' => K' t2 H) fun t33 H =>
 zab t29 true H (fun K' => zad .lss false t32 t33 (K' · H)) fun t34 H =>
 zah t29 t34 (.bool false) fun t35 =>
 zab t35 true H (fun K' => K' t7 H) fun t37 H =>
 zab t35 true H (fun K' => zad .eql false t37 (.int .i64 0) (K' · H)) fun t38 H =>
 zah t35 t38 (.bool false) fun t39 =>
 K t39 H)
 (zad .eql false t13 (.int .i64 5) fun t41 =>
 zag t41
 (zaf 1 t4 fun t42 =>
 zae false 1 t42 H fun t43 =>
 zad .lss false t43 (.int .i64 0) fun t44 =>
 zab t44 false H (fun K' => zaf 1 t4 (K' · H)) fun t46 H =>
 zab t44 false H (fun K' => zae false 1 t46 H (K' · H)) fun t47 H =>
 zab t44 false H (fun K' => K' t0 H) fun t48 H =>
 zab t44 false H (fun K' => zak 1 t48 (K' · H)) fun t49 H =>
 zab t44 false H (fun K' => zad .geq false t47 t49 (K' · H)) fun t50 H =>
 zah t44 (.bool true) t50 fun t51 =>
 zab t51 false H (fun K' => K' t7 H) fun t53 H =>
 zab t51 false H (fun K' => K' t0 H) fun t54 H =>
 zab t51 false H (fun K' => zaf 1 t4 (K' · H)) fun t55 H =>
 zab t51 false H (fun K' => zae false 1 t55 H (K' · H)) fun t56 H =>
 zab t51 false H (fun K' => zaj 3 t54 t56 (K' · H)) fun t57 H =>
 zab t51 false H (fun K' => zaf 1 t57 (K' · H)) fun t58 H =>
 zab t51 false H (fun K' => zae false 1 t58 H (K' · H)) fun t59 H =>
 zab t51 false H (fun K' => zad .neq false t53 t59 (K' · H)) fun t60 H =>
 zah t51 (.bool true) t60 fun t61 =>
 zag t61
 (K (.bool false) H)
 (zey t0 t2 t4 t7 H K))
 (zad .eql false t13 (.int .i64 6) fun t63 =>
 zag t63
 (zaf 1 t4 fun t64 =>
 zae false 1 t64 H fun t65 =>
 zad .neq false t65 (.int .i64 0) fun t66 =>
 zab t66 false H (fun K' => K' t7 H) fun t68 H =>
 zab t66 false H (fun K' => zad .lss false t68 (.int .i64 2) (K' · H)) fun t69 H =>
 zah t66 (.bool true) t69 fun t70 =>
 zab t70 false H (fun K' => K' t7 H) fun t72 H =>
 zab t70 false H (fun K' => zad .gtr false t72 (.int .i64 6) (K' · H)) fun t73 H =>
 zah t70 (.bool true) t73 fun t74 =>
 zag t74
 (K (.bool false) H)
 (zey t0 t2 t4 t7 H K))
 (zad .eql false t13 (.int .i64 7) fun t76 =>
 zag t76
 (zdN t0 t2 t4 t7 t13 t76 H K)
 (zad .eql false t13 (.int .i64 8) fun t77 =>
 zdN t0 t2 t4 t7 t13 t77 H K)))))
def zcw (t0 t1 t2 : AV) (H : zaa) (K : Kt) : Prop :=
 zaF t1 H fun t4 H =>
 zaf 2 t4 fun t9 =>
 zae false 1 t9 H fun t10 =>
 zak 1 t10 fun t11 =>
 zaf 0 t4 fun t12 =>
 zae false 1 t12 H fun t13 =>
 zad .eql false t13 (.int .i64 1) fun t15 =>
 zag t15
 (zbN t0 t2 t4 t11 t13 t15 H K)
 (zad .eql false t13 (.int .i64 2) fun t16 =>
 zag t16
 (zbN t0 t2 t4 t11 t13 t16 H K)
 (zad .eql false t13 (.int .i64 3) fun t17 =>
 zbN t0 t2 t4 t11 t13 t17 H K))
theorem zIU {t0 t2 t4 t7 t8 : AV} {H : zaa} {K : Kt} (Inv : Nat → AV → zaa → Prop) (n : Nat) (h0 : HSc H → Inv n t8 H)
  (round : Rd1 (fun t8 => zkP t0 t2 t4 t7 t8) (fun t8 => fun H Kb24 => zpz t0 t2 t4 t7 t8 H K Kb24) H Inv) : zpB t0 t2 t4 t7 t8 H K :=
 lp1 (M := zkO) zIV t8 (by kernel_rfl) Inv n h0 round
theorem zIW {t0 t1 t2 : AV} {H : zaa} {K : Kt} (h : HSc H → zcw t0 t1 t2 H K) : ACalls tP zhW [t0, t1, t2] H K :=
 zau (M := zkO) Try.func80 (c := zpA) (by kernel_rfl) (fun hs => Eq.mpr (by kernel_rfl) (h hs))
def zkQ : Nat → List Bool
 | 4 => rl false [0,2,3,1,21]
 | _ => []
noncomputable def zpE : Code := Try.f82.body.getD .skip
noncomputable def zI7 : List ResultVar := Try.f82.results.toList
def zkR (t0 t1 t5 : AV) : List AV := t0 :: t1 :: ux 3 (t5 :: ux 21 [])
def zI5 : List Bool := zkQ 4
noncomputable def zI3 : Code := zao [1, 1, 0, 1, 0, 0] zpE
def zI2 (K : Kt) : AExit → List AV → zaa → Prop := zap tP zkQ [1, 1, 0, 1, 0] zpE (zat tP zI7 K)
def zvS (t0 t1 t5 : AV) (H : zaa) (K : Kt) : Prop := ALoop tP zI3 (zI2 K) (zkR t0 t1 t5) H
def zpD (t0 t1 t5 : AV) (H : zaa) (K : Kt) (Kb4 : Lt) : Prop :=
 zak 1 t0 fun t13 =>
 zad .lss false t5 t13 fun t14 =>
 zag t14
 (zac H (fun K' => K' t0 H) fun t17 =>
 zac H (fun K' => K' t5 H) fun t18 =>
 zac H (fun K' => zaj 3 t17 t18 (K' · H)) fun t19 =>
 zac H (fun K' => zai true 3 t19 H (K' · H)) fun t20 =>
 zac H (fun K' => K' t1 H) fun t21 =>
 zac H (fun K' => K' t5 H) fun t22 =>
 zac H (fun K' => zaj 3 t21 t22 (K' · H)) fun t23 =>
 zac H (fun K' => zai true 3 t23 H (K' · H)) fun t24 =>
 zaw H (fun H K' => ACalls tP zcp [t20, t24] H K') fun t25 =>
 zac H (fun K' => aUn .not t25 (K' · H)) fun t26 =>
 zag t26
 (K (.bool false) H)
 (zad .add false t5 (.int .i64 1) fun t16 =>
 Kb4 (zkR t0 t1 t16) H))
 (K (.bool true) H)
def zpC (t0 t1 : AV) (H : zaa) (K : Kt) : Prop :=
 zak 1 t0 fun t7 =>
 zak 1 t1 fun t9 =>
 zad .neq false t7 t9 fun t10 =>
 zag t10
 (K (.bool false) H)
 (zvS t0 t1 (.int .i64 0) H K)
theorem zI4 {t0 t1 t5 : AV} {H : zaa} {K : Kt} (Inv : Nat → AV → zaa → Prop) (n : Nat) (h0 : HSc H → Inv n t5 H)
  (round : Rd1 (fun t5 => zkR t0 t1 t5) (fun t5 => fun H Kb4 => zpD t0 t1 t5 H K Kb4) H Inv) : zvS t0 t1 t5 H K :=
 lp1 (M := zkQ) zI5 t5 (by kernel_rfl) Inv n h0 round
theorem zI6 {t0 t1 : AV} {H : zaa} {K : Kt} (h : HSc H → zpC t0 t1 H K) : ACalls tP zc7 [t0, t1] H K :=
 zau (M := zkQ) Try.func82 (c := zpE) (by kernel_rfl) (fun hs => Eq.mpr (by kernel_rfl) (h hs))
def zkS : Nat → List Bool
 | 5 => rl false [4,1,3,1,54,3,16]
 | _ => []
noncomputable def zpG : Code := Try.f83.body.getD .skip
noncomputable def zJe : List ResultVar := Try.f83.results.toList
def zkT (t4 t8 t63 t64 t65 : AV) : List AV := ux 4 (t4 :: ux 3 (t8 :: ux 54 (t63 :: t64 :: t65 :: ux 16 [])))
def zJc : List Bool := zkS 5
noncomputable def zJa : Code := zao [1, 1, 1, 0, 1, 0, 0] zpG
def zI9 (K : Kt) : AExit → List AV → zaa → Prop := zap tP zkS [1, 1, 1, 0, 1, 0] zpG (zat tP zJe K)
def zkU (t4 t8 t63 t64 t65 : AV) (H : zaa) (K : Kt) : Prop := ALoop tP zJa (zI9 K) (zkT t4 t8 t63 t64 t65) H
def zpF (t4 t8 t63 t64 t65 : AV) (H : zaa) (K : Kt) (Kb5 : Lt) : Prop :=
 zad .lss false t65 t64 fun t66 =>
 zag t66
 (zaj 3 t63 t65 fun t67 =>
 zae true 3 t67 H fun t68 =>
 zaA [(.int .i64 0), (.int .i64 0), .snil] H fun t10 H =>
 zar 3 t10 t68 H fun H =>
 zae true 3 t10 H fun t69 =>
 zaf 2 t4 fun t70 =>
 zae false 1 t70 H fun t71 =>
 ACalls tP zh1 [t69, t71] H fun t72 H =>
 zaA [(.int .i64 0), (.int .i64 0), .snil] H fun t11 H =>
 zar 3 t11 t72 H fun H =>
 zae true 3 t11 H fun t73 =>
 ACalls tP zgB [t73] H fun t74 H =>
 zad .gtr false t74 (.int .i64 200) fun t75 =>
 zag t75
 (zaW [.snil, (.bool false)] (K · H))
 (zae true 3 t11 H fun t77 =>
 zay 3 [(.int .i64 0), (.int .i64 0), .snil] 1 [(0, t77)] fun t78 =>
 zaH zaB 3 40 t8 t78 H fun t79 H =>
 zad .add false t65 (.int .i64 1) fun t80 =>
 Kb5 (zkT t4 t79 t63 t64 t80) H))
 (zaW [t8, (.bool true)] (K · H))
def zvT (t0 t1 t2 : AV) (H : zaa) (K : Kt) : Prop :=
 zaF t1 H fun t4 H =>
 zac H (fun K' => zaf 0 t4 (K' · H)) fun t12 =>
 zac H (fun K' => zai false 1 t12 H (K' · H)) fun t13 =>
 zac H (fun K' => zad .neq false t13 (.int .i64 5) (K' · H)) fun t14 =>
 zac H (fun K' => K' t14 H) fun t15 =>
 zab t15 false H (fun K' => zac H (fun K'' => zaf 1 t4 (K'' · H)) (K' · H)) fun t16 H =>
 zab t15 false H (fun K' => zac H (fun K'' => zai false 1 t16 H (K'' · H)) (K' · H)) fun t17 H =>
 zab t15 false H (fun K' => zac H (fun K'' => zad .lss false t17 (.int .i64 0) (K'' · H)) (K' · H)) fun t18 H =>
 zac H (fun K' => zah t15 (.bool true) t18 (K' · H)) fun t19 =>
 zac H (fun K' => K' t19 H) fun t20 =>
 zab t20 false H (fun K' => zac H (fun K'' => zaf 1 t4 (K'' · H)) (K' · H)) fun t21 H =>
 zab t20 false H (fun K' => zac H (fun K'' => zai false 1 t21 H (K'' · H)) (K' · H)) fun t22 H =>
 zab t20 false H (fun K' => zac H (fun K'' => K'' t0 H) (K' · H)) fun t23 H =>
 zab t20 false H (fun K' => zac H (fun K'' => zak 1 t23 (K'' · H)) (K' · H)) fun t24 H =>
 zab t20 false H (fun K' => zac H (fun K'' => zad .geq false t22 t24 (K'' · H)) (K' · H)) fun t25 H =>
 zac H (fun K' => zah t20 (.bool true) t25 (K' · H)) fun t26 =>
 zac H (fun K' => K' t26 H) fun t27 =>
 zab t27 false H (fun K' => zac H (fun K'' => zaf 2 t4 (K'' · H)) (K' · H)) fun t28 H =>
 zab t27 false H (fun K' => zac H (fun K'' => zai false 1 t28 H (K'' · H)) (K' · H)) fun t29 H =>
 zab t27 false H (fun K' => zac H (fun K'' => zak 1 t29 (K'' · H)) (K' · H)) fun t30 H =>
 zab t27 false H (fun K' => zac H (fun K'' => K'' t0 H) (K' · H)) fun t31 H =>
 zab t27 false H (fun K' => zac H (fun K'' => zaf 1 t4 (K'' · H)) (K' · H)) fun t32 H =>
 zab t27 false H (fun K' => zac H (fun K'' => zai false 1 t32 H (K'' · H)) (K' · H)) fun t33 H =>
 zab t27 false H (fun K' => zac H (fun K'' => zaj 3 t31 t33 (K'' · H)) (K' · H)) fun t34 H =>
 zab t27 false H (fun K' => zac H (fun K'' => zaf 1 t34 (K'' · H)) (K' · H)) fun t35 H =>
 zab t27 false H (fun K' => zac H (fun K'' => zai false 1 t35 H (K'' · H)) (K' · H)) fun t36 H =>
 zab t27 false H (fun K' => zac H (fun K'' => zad .neq false t30 t36 (K'' · H)) (K' · H)) fun t37 H =>
 zac H (fun K' => zah t27 (.bool true) t37 (K' · H)) fun t38 =>
 zac H (fun K' => K' t38 H) fun t39 =>
 zab t39 false H (fun K' => zac H (fun K'' => K'' t2 H) (K' · H)) fun t40 H =>
 zab t39 false H (fun K' => zac H (fun K'' => zad .lss false t40 (.int .i64 0) (K'' · H)) (K' · H)) fun t41 H =>
 zac H (fun K' => zah t39 (.bool true) t41 (K' · H)) fun t42 =>
 zac H (fun K' => K' t42 H) fun t43 =>
 zab t43 false H (fun K' => zac H (fun K'' => K'' t2 H) (K' · H)) fun t44 H =>
 zab t43 false H (fun K' => zac H (fun K'' => K'' t0 H) (K' · H)) fun t45 H =>
 zab t43 false H (fun K' => zac H (fun K'' => zaf 1 t4 (K'' · H)) (K' · H)) fun t46 H =>
 zab t43 false H (fun K' => zac H (fun K'' => zai false 1 t46 H (K'' · H)) (K' · H)) fun t47 H =>
 zab t43 false H (fun K' => zac H (fun K'' => zaj 3 t45 t47 (K'' · H)) (K' · H)) fun t48 H =>
 zab t43 false H (fun K' => zac H (fun K'' => zaf 2 t48 (K'' · H)) (K' · H)) fun t49 H =>
 zab t43 false H (fun K' => zac H (fun K'' => zai false 1 t49 H (K'' · H)) (K' · H)) fun t50 H =>
 zab t43 false H (fun K' => zac H (fun K'' => zak 1 t50 (K'' · H)) (K' · H)) fun t51 H =>
 zab t43 false H (fun K' => zac H (fun K'' => zad .geq false t44 t51 (K'' · H)) (K' · H)) fun t52 H =>
 zac H (fun K' => zah t43 (.bool true) t52 (K' · H)) fun t53 =>
 zag t53
 (zaW [.snil, (.bool false)] (K · H))
 (zaf 1 t4 fun t55 =>
 zae false 1 t55 H fun t56 =>
 zaj 3 t0 t56 fun t57 =>
 zaf 2 t57 fun t58 =>
 zae false 1 t58 H fun t59 =>
 zaj 2 t59 t2 fun t61 =>
 zaf 1 t61 fun t62 =>
 zae false 1 t62 H fun t63 =>
 zak 1 t63 fun t64 =>
 zkU t4 .snil t63 t64 (.int .i64 0) H K)
theorem zJb {t4 t8 t63 t64 t65 : AV} {H : zaa} {K : Kt} (Inv : Nat → AV → AV → zaa → Prop) (n : Nat) (h0 : HSc H → Inv n t8 t65 H)
  (round : Rd2 (fun t8 => fun t65 => zkT t4 t8 t63 t64 t65) (fun t8 => fun t65 => fun H Kb5 => zpF t4 t8 t63 t64 t65 H K Kb5) H Inv) : zkU t4 t8 t63 t64 t65 H K :=
 lp2 (M := zkS) zJc t8 t65 (by kernel_rfl) Inv n h0 round
theorem zJd {t0 t1 t2 : AV} {H : zaa} {K : Kt} (h : HSc H → zvT t0 t1 t2 H K) : ACalls tP zgC [t0, t1, t2] H K :=
 zau (M := zkS) Try.func83 (c := zpG) (by kernel_rfl) (fun hs => Eq.mpr (by kernel_rfl) (h hs))
def zlk : Nat → List Bool
 | 5 => rl false [1,2,1,3,46]
 | _ => []
noncomputable def zqe : Code := Try.f100.body.getD .skip
noncomputable def zKZ : List ResultVar := Try.f100.results.toList
def zll (t1 t2 t4 t5 t6 : AV) : List AV := ux 1 (t1 :: t2 :: ux 1 (t4 :: t5 :: t6 :: ux 46 []))
def zKX : List Bool := zlk 5
noncomputable def zKV : Code := zao [1, 1, 1, 0, 1, 0, 0] zqe
def zKU (K : Kt) : AExit → List AV → zaa → Prop := zap tP zlk [1, 1, 1, 0, 1, 0] zqe (zat tP zKZ K)
def zqf (t1 t2 t4 t5 t6 : AV) (H : zaa) (K : Kt) : Prop := ALoop tP zKV (zKU K) (zll t1 t2 t4 t5 t6) H
def zqd (t1 t2 t4 t5 t6 : AV) (H : zaa) (K : Kt) (Kb5 : Lt) : Prop :=
 zaf 2 t2 fun t34 =>
 zae false 1 t34 H fun t35 =>
 zak 1 t35 fun t36 =>
 zad .lss false t6 t36 fun t37 =>
 zag t37
 (zac H (fun K' => zaf 2 t5 (K' · H)) fun t40 =>
 zac H (fun K' => zai false 1 t40 H (K' · H)) fun t41 =>
 zac H (fun K' => zaf 2 t2 (K' · H)) fun t42 =>
 zac H (fun K' => zai false 1 t42 H (K' · H)) fun t43 =>
 zac H (fun K' => K' t6 H) fun t44 =>
 zac H (fun K' => zaj 3 t43 t44 (K' · H)) fun t45 =>
 zac H (fun K' => zai true 3 t45 H (K' · H)) fun t46 =>
 zac H (fun K' => K' t1 H) fun t47 =>
 zaw H (fun H K' => ACalls tP zh1 [t46, t47] H K') fun t48 =>
 zac H (fun K' => zay 3 [(.int .i64 0), (.int .i64 0), .snil] 1 [(0, t48)] (K' · H)) fun t49 =>
 zaH zaB 3 40 t41 t49 H fun t50 H =>
 zac H (fun K' => zaf 2 t5 (K' · H)) fun t51 =>
 zar 1 t51 t50 H fun H =>
 zad .add false t6 (.int .i64 1) fun t39 =>
 Kb5 (zll t1 t2 t4 t5 t39) H)
 (zae true 3 t5 H fun t52 =>
 zar 3 t4 t52 H fun H =>
 zae true 3 t4 H fun r0 =>
 K r0 H)
def zqc (t0 t1 : AV) (H : zaa) (K : Kt) : Prop :=
 zaF t0 H fun t2 H =>
 zaA [(.int .i64 0), (.int .i64 0), .snil] H fun t4 H =>
 zaf 0 t2 fun t7 =>
 zae false 1 t7 H fun t8 =>
 zad .eql false t8 (.int .i64 4) fun t9 =>
 zab t9 true H (fun K' => zaf 1 t2 (K' · H)) fun t11 H =>
 zab t9 true H (fun K' => zae false 1 t11 H (K' · H)) fun t12 H =>
 zab t9 true H (fun K' => zad .geq false t12 (.int .i64 0) (K' · H)) fun t13 H =>
 zah t9 t13 (.bool false) fun t14 =>
 zab t14 true H (fun K' => zaf 1 t2 (K' · H)) fun t16 H =>
 zab t14 true H (fun K' => zae false 1 t16 H (K' · H)) fun t17 H =>
 zab t14 true H (fun K' => K' t1 H) fun t18 H =>
 zab t14 true H (fun K' => zak 1 t18 (K' · H)) fun t19 H =>
 zab t14 true H (fun K' => zad .lss false t17 t19 (K' · H)) fun t20 H =>
 zah t14 t20 (.bool false) fun t21 =>
 zag t21
 (zaf 1 t2 fun t23 =>
 zae false 1 t23 H fun t24 =>
 zaj 3 t1 t24 fun t25 =>
 zae true 3 t25 H fun t26 =>
 ACalls tP zhJ [t26] H fun t27 H =>
 zar 3 t4 t27 H fun H =>
 zae true 3 t4 H fun r0 =>
 K r0 H)
 (zaf 0 t2 fun t28 =>
 zae false 1 t28 H fun t29 =>
 zaf 1 t2 fun t30 =>
 zae false 1 t30 H fun t31 =>
 zaI [(.int .i64 0), (.int .i64 0), .snil] [(0, 1), (1, 1), (2, 1)] [(0, t29), (1, t31)] fun t32 =>
 zaA [(.int .i64 0), (.int .i64 0), .snil] H fun t5 H =>
 zar 3 t5 t32 H fun H =>
 zqf t1 t2 t4 t5 (.int .i64 0) H K)
theorem zKW {t1 t2 t4 t5 t6 : AV} {H : zaa} {K : Kt} (Inv : Nat → AV → zaa → Prop) (n : Nat) (h0 : HSc H → Inv n t6 H)
  (round : Rd1 (fun t6 => zll t1 t2 t4 t5 t6) (fun t6 => fun H Kb5 => zqd t1 t2 t4 t5 t6 H K Kb5) H Inv) : zqf t1 t2 t4 t5 t6 H K :=
 lp1 (M := zlk) zKX t6 (by kernel_rfl) Inv n h0 round
theorem zKY {t0 t1 : AV} {H : zaa} {K : Kt} (h : HSc H → zqc t0 t1 H K) : ACalls tP zh1 [t0, t1] H K :=
 zau (M := zlk) Try.func100 (c := zqe) (by kernel_rfl) (fun hs => Eq.mpr (by kernel_rfl) (h hs))
def ziN : Nat → List Bool
 | 3 => rl false [1,4,24]
 | _ => []
noncomputable def znJ : Code := Try.f115.body.getD .skip
noncomputable def zBS : List ResultVar := Try.f115.results.toList
def ziO (t1 t2 t3 t4 : AV) : List AV := ux 1 (t1 :: t2 :: t3 :: t4 :: ux 24 [])
def zBQ : List Bool := ziN 3
noncomputable def zBO : Code := zao [1, 1, 0, 1, 0, 0] znJ
def zBN (K : Kt) : AExit → List AV → zaa → Prop := zap tP ziN [1, 1, 0, 1, 0] znJ (zat tP zBS K)
def ztk (t1 t2 t3 t4 : AV) (H : zaa) (K : Kt) : Prop := ALoop tP zBO (zBN K) (ziO t1 t2 t3 t4) H
def znI (t1 t2 t3 t4 : AV) (H : zaa) (K : Kt) (Kb3 : Lt) : Prop :=
 zaf 2 t1 fun t11 =>
 zae false 1 t11 H fun t12 =>
 zak 1 t12 fun t13 =>
 zad .lss false t4 t13 fun t14 =>
 zag t14
 (zac H (fun K' => zaf 2 t3 (K' · H)) fun t17 =>
 zac H (fun K' => zai false 1 t17 H (K' · H)) fun t18 =>
 zac H (fun K' => zaf 2 t1 (K' · H)) fun t19 =>
 zac H (fun K' => zai false 1 t19 H (K' · H)) fun t20 =>
 zac H (fun K' => K' t4 H) fun t21 =>
 zac H (fun K' => zaj 3 t20 t21 (K' · H)) fun t22 =>
 zac H (fun K' => zai true 3 t22 H (K' · H)) fun t23 =>
 zaw H (fun H K' => ACalls tP zhJ [t23] H K') fun t24 =>
 zac H (fun K' => zay 3 [(.int .i64 0), (.int .i64 0), .snil] 1 [(0, t24)] (K' · H)) fun t25 =>
 zaH zaB 3 40 t18 t25 H fun t26 H =>
 zac H (fun K' => zaf 2 t3 (K' · H)) fun t27 =>
 zar 1 t27 t26 H fun H =>
 zad .add false t4 (.int .i64 1) fun t16 =>
 Kb3 (ziO t1 t2 t3 t16) H)
 (zae true 3 t3 H fun t28 =>
 zar 3 t2 t28 H fun H =>
 zae true 3 t2 H fun r0 =>
 K r0 H)
def ztj (t0 : AV) (H : zaa) (K : Kt) : Prop :=
 zaF t0 H fun t1 H =>
 zaA [(.int .i64 0), (.int .i64 0), .snil] H fun t2 H =>
 zaf 0 t1 fun t5 =>
 zae false 1 t5 H fun t6 =>
 zaf 1 t1 fun t7 =>
 zae false 1 t7 H fun t8 =>
 zaI [(.int .i64 0), (.int .i64 0), .snil] [(0, 1), (1, 1), (2, 1)] [(0, t6), (1, t8)] fun t9 =>
 zaA [(.int .i64 0), (.int .i64 0), .snil] H fun t3 H =>
 zar 3 t3 t9 H fun H =>
 ztk t1 t2 t3 (.int .i64 0) H K
theorem zBP {t1 t2 t3 t4 : AV} {H : zaa} {K : Kt} (Inv : Nat → AV → zaa → Prop) (n : Nat) (h0 : HSc H → Inv n t4 H)
  (round : Rd1 (fun t4 => ziO t1 t2 t3 t4) (fun t4 => fun H Kb3 => znI t1 t2 t3 t4 H K Kb3) H Inv) : ztk t1 t2 t3 t4 H K :=
 lp1 (M := ziN) zBQ t4 (by kernel_rfl) Inv n h0 round
theorem zBR {t0 : AV} {H : zaa} {K : Kt} (h : HSc H → ztj t0 H K) : ACalls tP zhJ [t0] H K :=
 zau (M := ziN) Try.func115 (c := znJ) (by kernel_rfl) (fun hs => Eq.mpr (by kernel_rfl) (h hs))
def zfg : Nat → List Bool
 | 6 => rl false [0,2,6,1,38,3,56]
 | 10 => rl false [0,2,6,2,37,3,28,3,25]
 | _ => []
noncomputable def zpM : Code := Try.f85.body.getD .skip
noncomputable def zJt : List ResultVar := Try.f85.results.toList
def zkZ (t0 t1 t8 t47 t48 t49 : AV) : List AV := t0 :: t1 :: ux 6 (t8 :: ux 38 (t47 :: t48 :: t49 :: ux 56 []))
def zv1 : List Bool := zfg 6
noncomputable def zpN : Code := zao [1, 1, 1, 1, 0, 1, 0, 0] zpM
def zvZ (K : Kt) : AExit → List AV → zaa → Prop := zap tP zfg [1, 1, 1, 1, 0, 1, 0] zpM (zat tP zJt K)
def zv0 (t0 t1 t8 t47 t48 t49 : AV) (H : zaa) (K : Kt) : Prop := ALoop tP zpN (zvZ K) (zkZ t0 t1 t8 t47 t48 t49) H
def zkY (t0 t1 t8 t9 t47 t48 t49 t78 t79 t80 : AV) : List AV := t0 :: t1 :: ux 6 (t8 :: t9 :: ux 37 (t47 :: t48 :: t49 :: ux 28 (t78 :: t79 :: t80 :: ux 25 [])))
def zJr : List Bool := zfg 10
noncomputable def zJo : Code := zao [1, 1, 0, 0, 1, 1, 1, 0, 0] zpN
def zJn (K : Kt) (Kb6 : Lt) : AExit → List AV → zaa → Prop := zap tP zfg [1, 1, 0, 0, 1, 1, 1, 0] zpN (zbJ zv1 Kb6 (zvZ K))
def zpP (t0 t1 t8 t9 t47 t48 t49 t78 t79 t80 : AV) (H : zaa) (K : Kt) (Kb6 : Lt) : Prop := ALoop tP zJo (zJn K Kb6) (zkY t0 t1 t8 t9 t47 t48 t49 t78 t79 t80) H
def zpO (t0 t1 t8 t9 t47 t48 t49 t78 t79 t80 : AV) (H : zaa) (K : Kt) (Kb6 : Lt) (Kb10 : Lt) : Prop :=
 zad .add false t80 (.int .i64 1) fun t103 =>
 Kb10 (zkY t0 t1 t8 t9 t47 t48 t49 t78 t79 t103) H
def zf5 (t0 t1 t8 t9 t47 t48 t49 t78 t79 t80 : AV) (H : zaa) (K : Kt) (Kb6 : Lt) (Kb10 : Lt) : Prop :=
 zpO t0 t1 t8 t9 t47 t48 t49 t78 t79 t80 H K Kb6 Kb10
def zf4 (t0 t1 t8 t9 t47 t48 t49 t78 t79 t80 : AV) (H : zaa) (K : Kt) (Kb6 : Lt) (Kb10 : Lt) : Prop :=
 zad .lss false t80 t79 fun t81 =>
 zag t81
 (zaj 3 t78 t80 fun t83 =>
 zae true 3 t83 H fun t84 =>
 zaA [(.int .i64 0), (.int .i64 0), .snil] H fun t12 H =>
 zar 3 t12 t84 H fun H =>
 zaf 0 t12 fun t85 =>
 zae false 1 t85 H fun t86 =>
 zad .neq false t86 (.int .i64 4) fun t87 =>
 zab t87 false H (fun K' => zaf 1 t12 (K' · H)) fun t89 H =>
 zab t87 false H (fun K' => zae false 1 t89 H (K' · H)) fun t90 H =>
 zab t87 false H (fun K' => K' t80 H) fun t91 H =>
 zab t87 false H (fun K' => zad .neq false t90 t91 (K' · H)) fun t92 H =>
 zah t87 (.bool true) t92 fun t93 =>
 zab t93 false H (fun K' => zaf 2 t12 (K' · H)) fun t95 H =>
 zab t93 false H (fun K' => zae false 1 t95 H (K' · H)) fun t96 H =>
 zab t93 false H (fun K' => zak 1 t96 (K' · H)) fun t97 H =>
 zab t93 false H (fun K' => zad .gtr false t97 (.int .i64 0) (K' · H)) fun t98 H =>
 zah t93 (.bool true) t98 fun t99 =>
 zag t99
 (zaj 1 t8 t9 fun t102 =>
 zar 1 t102 (.bool false) H fun H =>
 zf5 t0 t1 t8 t9 t47 t48 t49 t78 t79 t80 H K Kb6 Kb10)
 (zf5 t0 t1 t8 t9 t47 t48 t49 t78 t79 t80 H K Kb6 Kb10))
 (zad .add false t49 (.int .i64 1) fun t104 =>
 Kb6 (zkZ t0 t1 t8 t47 t48 t104) H)
def zhb (t0 t1 t8 t47 t48 t49 : AV) (H : zaa) (K : Kt) (Kb6 : Lt) : Prop :=
 zad .lss false t49 t48 fun t50 =>
 zag t50
 (zaj 3 t47 t49 fun t52 =>
 zae true 3 t52 H fun t53 =>
 zaA [(.int .i64 0), (.int .i64 0), .snil] H fun t10 H =>
 zar 3 t10 t53 H fun H =>
 zac H (fun K' => K' t8 H) fun t54 =>
 zac H (fun K' => K' t49 H) fun t55 =>
 zac H (fun K' => zaf 0 t10 (K' · H)) fun t56 =>
 zac H (fun K' => zai false 1 t56 H (K' · H)) fun t57 =>
 zac H (fun K' => zad .eql false t57 (.int .i64 5) (K' · H)) fun t58 =>
 zac H (fun K' => K' t58 H) fun t59 =>
 zab t59 true H (fun K' => zac H (fun K'' => zaf 1 t10 (K'' · H)) (K' · H)) fun t60 H =>
 zab t59 true H (fun K' => zac H (fun K'' => zai false 1 t60 H (K'' · H)) (K' · H)) fun t61 H =>
 zab t59 true H (fun K' => zac H (fun K'' => K'' t1 H) (K' · H)) fun t62 H =>
 zab t59 true H (fun K' => zac H (fun K'' => zad .eql false t61 t62 (K'' · H)) (K' · H)) fun t63 H =>
 zac H (fun K' => zah t59 t63 (.bool false) (K' · H)) fun t64 =>
 zac H (fun K' => K' t64 H) fun t65 =>
 zab t65 true H (fun K' => zac H (fun K'' => zaf 2 t10 (K'' · H)) (K' · H)) fun t66 H =>
 zab t65 true H (fun K' => zac H (fun K'' => zai false 1 t66 H (K'' · H)) (K' · H)) fun t67 H =>
 zab t65 true H (fun K' => zac H (fun K'' => zak 1 t67 (K'' · H)) (K' · H)) fun t68 H =>
 zab t65 true H (fun K' => zac H (fun K'' => K'' t0 H) (K' · H)) fun t69 H =>
 zab t65 true H (fun K' => zac H (fun K'' => K'' t1 H) (K' · H)) fun t70 H =>
 zab t65 true H (fun K' => zac H (fun K'' => zaj 3 t69 t70 (K'' · H)) (K' · H)) fun t71 H =>
 zab t65 true H (fun K' => zac H (fun K'' => zaf 1 t71 (K'' · H)) (K' · H)) fun t72 H =>
 zab t65 true H (fun K' => zac H (fun K'' => zai false 1 t72 H (K'' · H)) (K' · H)) fun t73 H =>
 zab t65 true H (fun K' => zac H (fun K'' => zad .eql false t68 t73 (K'' · H)) (K' · H)) fun t74 H =>
 zac H (fun K' => zah t65 t74 (.bool false) (K' · H)) fun t75 =>
 zac H (fun K' => zaj 1 t54 t55 (K' · H)) fun t76 =>
 zar 1 t76 t75 H fun H =>
 zaf 2 t10 fun t77 =>
 zae false 1 t77 H fun t78 =>
 zak 1 t78 fun t79 =>
 zpP t0 t1 t8 t49 t47 t48 t49 t78 t79 (.int .i64 0) H K Kb6)
 (K t8 H)
def zvY (t0 t1 t2 : AV) (H : zaa) (K : Kt) : Prop :=
 zad .lss false t1 (.int .i64 0) fun t14 =>
 zab t14 false H (fun K' => K' t1 H) fun t16 H =>
 zab t14 false H (fun K' => K' t0 H) fun t17 H =>
 zab t14 false H (fun K' => zak 1 t17 (K' · H)) fun t18 H =>
 zab t14 false H (fun K' => zad .geq false t16 t18 (K' · H)) fun t19 H =>
 zah t14 (.bool true) t19 fun t20 =>
 zab t20 false H (fun K' => K' t2 H) fun t22 H =>
 zab t20 false H (fun K' => zad .lss false t22 (.int .i64 0) (K' · H)) fun t23 H =>
 zah t20 (.bool true) t23 fun t24 =>
 zab t24 false H (fun K' => K' t2 H) fun t26 H =>
 zab t24 false H (fun K' => K' t0 H) fun t27 H =>
 zab t24 false H (fun K' => K' t1 H) fun t28 H =>
 zab t24 false H (fun K' => zaj 3 t27 t28 (K' · H)) fun t29 H =>
 zab t24 false H (fun K' => zaf 2 t29 (K' · H)) fun t30 H =>
 zab t24 false H (fun K' => zae false 1 t30 H (K' · H)) fun t31 H =>
 zab t24 false H (fun K' => zak 1 t31 (K' · H)) fun t32 H =>
 zab t24 false H (fun K' => zad .geq false t26 t32 (K' · H)) fun t33 H =>
 zah t24 (.bool true) t33 fun t34 =>
 zag t34
 (K .snil H)
 (zaj 3 t0 t1 fun t37 =>
 zaf 2 t37 fun t38 =>
 zae false 1 t38 H fun t39 =>
 zaj 2 t39 t2 fun t41 =>
 zaf 1 t41 fun t42 =>
 zae false 1 t42 H fun t43 =>
 zak 1 t43 fun t45 =>
 zbc 1 [(.bool false)] t45 t45 H fun t46 H =>
 zak 1 t43 fun t48 =>
 zv0 t0 t1 t46 t43 t48 (.int .i64 0) H K)
theorem zJp {t0 t1 t8 t9 t47 t48 t49 t78 t79 t80 : AV} {H : zaa} {K : Kt} {Kb6 : Lt} (Inv : Nat → AV → zaa → Prop) (n : Nat) (h0 : HSc H → Inv n t80 H)
  (round : Rd1 (fun t80 => zkY t0 t1 t8 t9 t47 t48 t49 t78 t79 t80) (fun t80 => fun H Kb10 => zf4 t0 t1 t8 t9 t47 t48 t49 t78 t79 t80 H K Kb6 Kb10) H Inv) : zpP t0 t1 t8 t9 t47 t48 t49 t78 t79 t80 H K Kb6 :=
 lp1 (M := zfg) zJr t80 (by kernel_rfl) Inv n h0 round
theorem zJq {t0 t1 t8 t47 t48 t49 : AV} {H : zaa} {K : Kt} (Inv : Nat → AV → zaa → Prop) (n : Nat) (h0 : HSc H → Inv n t49 H)
  (round : Rd1 (fun t49 => zkZ t0 t1 t8 t47 t48 t49) (fun t49 => fun H Kb6 => zhb t0 t1 t8 t47 t48 t49 H K Kb6) H Inv) : zv0 t0 t1 t8 t47 t48 t49 H K :=
 lp1 (M := zfg) zv1 t49 (by kernel_rfl) Inv n h0 round
theorem zJs {t0 t1 t2 : AV} {H : zaa} {K : Kt} (h : HSc H → zvY t0 t1 t2 H K) : ACalls tP zmz [t0, t1, t2] H K :=
 zau (M := zfg) Try.func85 (c := zpM) (by kernel_rfl) (fun hs => Eq.mpr (by kernel_rfl) (h hs))
def zJv (_ : Nat) : List Bool := []
noncomputable def zJw : Code := Try.f86.body.getD .skip
def zv2 (t0 t1 : AV) (H : zaa) (K : Kt) : Prop :=
 zaF t0 H fun t2 H =>
 zaF t1 H fun t3 H =>
 zaf 0 t2 fun t5 =>
 zae false 1 t5 H fun t6 =>
 zad .eql false t6 (.int .i64 5) fun t7 =>
 zab t7 true H (fun K' => zaf 1 t2 (K' · H)) fun t9 H =>
 zab t7 true H (fun K' => zae false 1 t9 H (K' · H)) fun t10 H =>
 zab t7 true H (fun K' => zae false 1 t3 H (K' · H)) fun t11 H =>
 zab t7 true H (fun K' => zad .eql false t10 t11 (K' · H)) fun t12 H =>
 zah t7 t12 (.bool false) fun t13 =>
 zab t13 false H (fun K' => zaf 2 t2 (K' · H)) fun t15 H =>
 zab t13 false H (fun K' => zae false 1 t15 H (K' · H)) fun t16 H =>
 zab t13 false H (fun K' => zcx zhE [t3] (K' · H)) fun t17 H =>
 zab t13 false H (fun K' => ACalls tP zeS [t16, t17] H K') fun t18 H =>
 zah t13 (.bool true) t18 fun t19 =>
 K t19 H
theorem zJx {t0 t1 : AV} {H : zaa} {K : Kt} (h : HSc H → zv2 t0 t1 H K) : ACalls tP zhX [t0, t1] H K :=
 zau (M := zJv) Try.func86 (c := zJw) (by kernel_rfl) (fun hs => Eq.mpr (by kernel_rfl) (h hs))
def zAF (_ : Nat) : List Bool := []
noncomputable def zAG : Code := Try.f103.body.getD .skip
def zsX (t0 t1 : AV) (H : zaa) (K : Kt) : Prop :=
 zaF t0 H fun t2 H =>
 zae true 3 t2 H fun t4 =>
 zae false 1 t1 H fun t5 =>
 ACalls tP zhX [t4, t5] H fun t6 H =>
 K t6 H
theorem zAH {t0 t1 : AV} {H : zaa} {K : Kt} (h : HSc H → zsX t0 t1 H K) : ACalls tP zhE [t0, t1] H K :=
 zau (M := zAF) Try.func103 (c := zAG) (by kernel_rfl) (fun hs => Eq.mpr (by kernel_rfl) (h hs))
def zkK : Nat → List Bool
 | 4 => rl false [3,1,3,1,50]
 | _ => []
noncomputable def zpw : Code := Try.f78.body.getD .skip
noncomputable def zIL : List ResultVar := Try.f78.results.toList
def zkL (t3 t7 : AV) : List AV := ux 3 (t3 :: ux 3 (t7 :: ux 50 []))
def zIJ : List Bool := zkK 4
noncomputable def zIH : Code := zao [1, 1, 0, 1, 0, 0] zpw
def zIG (K : Kt) : AExit → List AV → zaa → Prop := zap tP zkK [1, 1, 0, 1, 0] zpw (zat tP zIL K)
def zvN (t3 t7 : AV) (H : zaa) (K : Kt) : Prop := ALoop tP zIH (zIG K) (zkL t3 t7) H
def zf1 (t3 t7 : AV) (H : zaa) (K : Kt) (Kb4 : Lt) : Prop :=
 zaf 2 t3 fun t25 =>
 zae false 1 t25 H fun t26 =>
 zak 1 t26 fun t27 =>
 zad .lss false t7 t27 fun t28 =>
 zag t28
 (zaf 2 t3 fun t31 =>
 zae false 1 t31 H fun t32 =>
 zaj 3 t32 t7 fun t34 =>
 zaf 0 t34 fun t35 =>
 zae false 1 t35 H fun t36 =>
 zad .neq false t36 (.int .i64 4) fun t37 =>
 zab t37 false H (fun K' => zaf 2 t3 (K' · H)) fun t39 H =>
 zab t37 false H (fun K' => zae false 1 t39 H (K' · H)) fun t40 H =>
 zab t37 false H (fun K' => K' t7 H) fun t41 H =>
 zab t37 false H (fun K' => zaj 3 t40 t41 (K' · H)) fun t42 H =>
 zab t37 false H (fun K' => zaf 1 t42 (K' · H)) fun t43 H =>
 zab t37 false H (fun K' => zae false 1 t43 H (K' · H)) fun t44 H =>
 zab t37 false H (fun K' => K' t7 H) fun t45 H =>
 zab t37 false H (fun K' => zad .neq false t44 t45 (K' · H)) fun t46 H =>
 zah t37 (.bool true) t46 fun t47 =>
 zab t47 false H (fun K' => zaf 2 t3 (K' · H)) fun t49 H =>
 zab t47 false H (fun K' => zae false 1 t49 H (K' · H)) fun t50 H =>
 zab t47 false H (fun K' => K' t7 H) fun t51 H =>
 zab t47 false H (fun K' => zaj 3 t50 t51 (K' · H)) fun t52 H =>
 zab t47 false H (fun K' => zaf 2 t52 (K' · H)) fun t53 H =>
 zab t47 false H (fun K' => zae false 1 t53 H (K' · H)) fun t54 H =>
 zab t47 false H (fun K' => zak 1 t54 (K' · H)) fun t55 H =>
 zab t47 false H (fun K' => zad .gtr false t55 (.int .i64 0) (K' · H)) fun t56 H =>
 zah t47 (.bool true) t56 fun t57 =>
 zag t57
 (K (.bool false) H)
 (zad .add false t7 (.int .i64 1) fun t30 =>
 Kb4 (zkL t3 t30) H))
 (K (.bool true) H)
def zvM (t0 t1 t2 : AV) (H : zaa) (K : Kt) : Prop :=
 zaF t0 H fun t3 H =>
 zaf 0 t3 fun t8 =>
 zae false 1 t8 H fun t9 =>
 zad .neq false t9 (.int .i64 5) fun t10 =>
 zab t10 false H (fun K' => zaf 1 t3 (K' · H)) fun t12 H =>
 zab t10 false H (fun K' => zae false 1 t12 H (K' · H)) fun t13 H =>
 zab t10 false H (fun K' => K' t1 H) fun t14 H =>
 zab t10 false H (fun K' => zad .neq false t13 t14 (K' · H)) fun t15 H =>
 zah t10 (.bool true) t15 fun t16 =>
 zab t16 false H (fun K' => zaf 2 t3 (K' · H)) fun t18 H =>
 zab t16 false H (fun K' => zae false 1 t18 H (K' · H)) fun t19 H =>
 zab t16 false H (fun K' => zak 1 t19 (K' · H)) fun t20 H =>
 zab t16 false H (fun K' => K' t2 H) fun t21 H =>
 zab t16 false H (fun K' => zad .neq false t20 t21 (K' · H)) fun t22 H =>
 zah t16 (.bool true) t22 fun t23 =>
 zag t23
 (K (.bool false) H)
 (zvN t3 (.int .i64 0) H K)
theorem zII {t3 t7 : AV} {H : zaa} {K : Kt} (Inv : Nat → AV → zaa → Prop) (n : Nat) (h0 : HSc H → Inv n t7 H)
  (round : Rd1 (fun t7 => zkL t3 t7) (fun t7 => fun H Kb4 => zf1 t3 t7 H K Kb4) H Inv) : zvN t3 t7 H K :=
 lp1 (M := zkK) zIJ t7 (by kernel_rfl) Inv n h0 round
theorem zIK {t0 t1 t2 : AV} {H : zaa} {K : Kt} (h : HSc H → zvM t0 t1 t2 H K) : ACalls tP zmx [t0, t1, t2] H K :=
 zau (M := zkK) Try.func78 (c := zpw) (by kernel_rfl) (fun hs => Eq.mpr (by kernel_rfl) (h hs))
end Go.Proofs.Ytkdmpbhbmmhijaa
