import Derived.Test.YtjkkonpjecoieaaGreatKNum
import Derived.Test.YtjkkonpjecoieaaGreatProg
import Derived.KernelRfl
import Derived.Test.YtjkkonpjecoieaaGreatKUA
import Derived.Test.YtjkkonpjecoieaaGreatKY2
set_option linter.unusedSimpArgs false
set_option linter.unusedVariables false
namespace Go.Proofs.YtjkkonpjecoieaaGreat
open Go Go.Abs
set_option maxRecDepth 100000
def zDR (_ : Nat) : List Bool := []
noncomputable def zDS : Code := Tryz.f12.body.getD .skip
def zvH (t0 : AV) (H : zaa) (K : Kt) : Prop :=
 zao t0 H fun t1 H =>
 zau [(.int .i64 0)] H fun t3 H =>
 zak 1 t3 (.int .i64 40) H fun H =>
 zad true 2 t1 H fun t4 =>
 ACalls tP zij [t4, t3] H fun t5 H =>
 K t5 H
theorem zDT {t0 : AV} {H : zaa} {K : Kt} (h : HSc H → zvH t0 H K) : ACalls tP zmT [t0] H K :=
 zam (M := zDR) Tryz.func12 (c := zDS) (by kernel_rfl) (fun hs => Eq.mpr (by kernel_rfl) (h hs))
def zkV : Nat → List Bool
 | 5 => rl false [1,2,2,1,24]
 | _ => []
noncomputable def zqA : Code := Tryz.f37.body.getD .skip
noncomputable def zLi : List ResultVar := Tryz.f37.results.toList
def zkW (t1 t2 t5 : AV) : List AV := ux 1 (t1 :: t2 :: ux 2 (t5 :: ux 24 []))
def zLg : List Bool := zkV 5
noncomputable def zLe : Code := zas [1, 1, 1, 0, 1, 0, 0] zqA
def zLd (K : Kt) : AExit → List AV → zaa → Prop := zat tP zkV [1, 1, 1, 0, 1, 0] zqA (zaA tP zLi K)
def zyw (t1 t2 t5 : AV) (H : zaa) (K : Kt) : Prop := ALoop tP zLe (zLd K) (zkW t1 t2 t5) H
def zqz (t1 t2 t5 : AV) (H : zaa) (K : Kt) (Kb5 : Lt) : Prop :=
 zaf 1 t2 fun t16 =>
 zad false 1 t16 H fun t17 =>
 zah 1 t17 fun t18 =>
 zac .lss false t5 t18 fun t19 =>
 zag t19
 (zaf 1 t2 fun t22 =>
 zad false 1 t22 H fun t23 =>
 zaj 2 t23 t5 fun t25 =>
 zad true 2 t25 H fun t26 =>
 ACalls tP zij [t26, t1] H fun t28 H =>
 aUn .not t28 fun t29 =>
 zag t29
 (K (.bool false) H)
 (zac .add false t5 (.int .i64 1) fun t21 =>
 Kb5 (zkW t1 t2 t21) H))
 (K (.bool true) H)
def zyv (t0 t1 : AV) (H : zaa) (K : Kt) : Prop :=
 zao t0 H fun t2 H =>
 za3 t1 fun t7 =>
 zad false 1 t7 H fun t8 =>
 zac .sub false t8 (.int .i64 1) fun t9 =>
 za3 t1 fun t10 =>
 zak 1 t10 t9 H fun H =>
 za3 t1 fun t12 =>
 zad false 1 t12 H fun t13 =>
 zac .lss false t13 (.int .i64 0) fun t14 =>
 zag t14
 (K (.bool false) H)
 (zyw t1 t2 (.int .i64 0) H K)
theorem zLf {t1 t2 t5 : AV} {H : zaa} {K : Kt} (Inv : Nat → AV → zaa → Prop) (n : Nat) (h0 : HSc H → Inv n t5 H)
  (round : Rd1 (fun t5 => zkW t1 t2 t5) (fun t5 => fun H Kb5 => zqz t1 t2 t5 H K Kb5) H Inv) : zyw t1 t2 t5 H K :=
 lp1 (M := zkV) zLg t5 (by kernel_rfl) Inv n h0 round
theorem zLh {t0 t1 : AV} {H : zaa} {K : Kt} (h : HSc H → zyv t0 t1 H K) : ACalls tP zij [t0, t1] H K :=
 zam (M := zkV) Tryz.func37 (c := zqA) (by kernel_rfl) (fun hs => Eq.mpr (by kernel_rfl) (h hs))
def zLU (_ : Nat) : List Bool := []
noncomputable def zLV : Code := Tryz.f44.body.getD .skip
def zyL (t0 t1 t2 : AV) (H : zaa) (K : Kt) : Prop :=
 zao t1 H fun t4 H =>
 zao t2 H fun t5 H =>
 zad true 3 t4 H fun t8 =>
 zad true 2 t5 H fun t9 =>
 ACalls tP znF [t0, t8, t9] H fun t10 H =>
 zac .geq false t10 (.int .i64 0) fun t11 =>
 K t11 H
theorem zLW {t0 t1 t2 : AV} {H : zaa} {K : Kt} (h : HSc H → zyL t0 t1 t2 H K) : ACalls tP zin [t0, t1, t2] H K :=
 zam (M := zLU) Tryz.func44 (c := zLV) (by kernel_rfl) (fun hs => Eq.mpr (by kernel_rfl) (h hs))
def zFU (_ : Nat) : List Bool := []
noncomputable def zFV : Code := Tryz.f16.body.getD .skip
def zwm (t0 t1 t2 : AV) (H : zaa) (K : Kt) : Prop :=
 zao t1 H fun t4 H =>
 zao t2 H fun t5 H =>
 zad true 3 t4 H fun t8 =>
 zad true 2 t5 H fun t9 =>
 ACalls tP znA [t0, t8, t9] H fun t10 H =>
 zac .geq false t10 (.int .i64 0) fun t11 =>
 K t11 H
theorem zFW {t0 t1 t2 : AV} {H : zaa} {K : Kt} (h : HSc H → zwm t0 t1 t2 H K) : ACalls tP zm2 [t0, t1, t2] H K :=
 zam (M := zFU) Tryz.func16 (c := zFV) (by kernel_rfl) (fun hs => Eq.mpr (by kernel_rfl) (h hs))
def zOv (_ : Nat) : List Bool := []
noncomputable def zOw : Code := Tryz.f88.body.getD .skip
def zzB (t0 t1 t2 : AV) (H : zaa) (K : Kt) : Prop :=
 zao t1 H fun t4 H =>
 zao t2 H fun t5 H =>
 zad true 3 t4 H fun t10 =>
 ACalls tP zgN [t0, t10] H fun t11 H =>
 aUn .not t11 fun t12 =>
 zag t12
 (K (.int .i64 (-1)) H)
 (zad true 3 t4 H fun t15 =>
 zad true 2 t5 H fun t16 =>
 ACalls tP zh0 [t0, t15, t16] H fun t17 H =>
 zay t17 0 fun t18 =>
 zay t17 1 fun t19 =>
 aUn .not t19 fun t21 =>
 zag t21
 (K (.int .i64 (-1)) H)
 (K t18 H))
theorem zOx {t0 t1 t2 : AV} {H : zaa} {K : Kt} (h : HSc H → zzB t0 t1 t2 H K) : ACalls tP znF [t0, t1, t2] H K :=
 zam (M := zOv) Tryz.func88 (c := zOw) (by kernel_rfl) (fun hs => Eq.mpr (by kernel_rfl) (h hs))
def zLQ (_ : Nat) : List Bool := []
noncomputable def zLR : Code := Tryz.f43.body.getD .skip
def zyK (t0 t1 t2 : AV) (H : zaa) (K : Kt) : Prop :=
 zao t1 H fun t4 H =>
 zao t2 H fun t5 H =>
 zad true 3 t4 H fun t8 =>
 ACalls tP zny [t0, t8] H fun t9 H =>
 aUn .not t9 fun t10 =>
 zag t10
 (K (.int .i64 (-1)) H)
 (zad true 3 t4 H fun t12 =>
 zad true 2 t5 H fun t13 =>
 ACalls tP ziz [t0, t12, t13] H fun t14 H =>
 K t14 H)
theorem zLS {t0 t1 t2 : AV} {H : zaa} {K : Kt} (h : HSc H → zyK t0 t1 t2 H K) : ACalls tP znA [t0, t1, t2] H K :=
 zam (M := zLQ) Tryz.func43 (c := zLR) (by kernel_rfl) (fun hs => Eq.mpr (by kernel_rfl) (h hs))
def zNe (_ : Nat) : List Bool := []
noncomputable def zNf : Code := Tryz.f73.body.getD .skip
def zzd (t0 t1 : AV) (H : zaa) (K : Kt) : Prop :=
 zao t1 H fun t3 H =>
 zax [.snil, .snil, .snil, .snil] [(0, 1), (1, 1), (2, 1), (3, 1)] [(0, t0)] fun t6 =>
 ACalls tP zhW [t6] H fun t7 H =>
 zab t7 true H (fun K' => K' t0 H) fun t9 H =>
 zab t7 true H (fun K' => zad true 3 t3 H (K' · H)) fun t10 H =>
 zab t7 true H (fun K' => ACalls tP zfn [t9, t10, (.int .i64 0)] H K') fun t11 H =>
 zai t7 t11 (.bool false) fun t12 =>
 K t12 H
theorem zNg {t0 t1 : AV} {H : zaa} {K : Kt} (h : HSc H → zzd t0 t1 H K) : ACalls tP zgN [t0, t1] H K :=
 zam (M := zNe) Tryz.func73 (c := zNf) (by kernel_rfl) (fun hs => Eq.mpr (by kernel_rfl) (h hs))
def zjx : Nat → List Bool
 | 13 => rl false [0,1,3,1,3,1,44,3,42]
 | _ => []
noncomputable def zo4 : Code := Tryz.f131.body.getD .skip
noncomputable def zFx : List ResultVar := Tryz.f131.results.toList
def zjy (t0 t4 t8 t53 t54 t55 : AV) : List AV := t0 :: ux 3 (t4 :: ux 3 (t8 :: ux 44 (t53 :: t54 :: t55 :: ux 42 [])))
def zFv : List Bool := zjx 13
noncomputable def zFt : Code := zas [1, 0, 1, 0, 1, 1, 1, 1, 1, 0, 1, 1, 0, 1, 0, 0] zo4
def zFs (K : Kt) : AExit → List AV → zaa → Prop := zat tP zjx [1, 0, 1, 0, 1, 1, 1, 1, 1, 0, 1, 1, 0, 1, 0] zo4 (zaA tP zFx K)
def zwj (t0 t4 t8 t53 t54 t55 : AV) (H : zaa) (K : Kt) : Prop := ALoop tP zFt (zFs K) (zjy t0 t4 t8 t53 t54 t55) H
def zo3 (t0 t4 t8 t53 t54 t55 : AV) (H : zaa) (K : Kt) (Kb13 : Lt) : Prop :=
 zac .lss false t55 t54 fun t56 =>
 zag t56
 (zaj 2 t53 t55 fun t57 =>
 zad true 2 t57 H fun t58 =>
 zau [(.int .i64 0), .snil] H fun t10 H =>
 zak 2 t10 t58 H fun H =>
 zad true 3 t4 H fun t61 =>
 zaf 0 t10 fun t62 =>
 zad false 1 t62 H fun t63 =>
 ACalls tP zni [t0, t61, t63] H fun t64 H =>
 zay t64 0 fun t65 =>
 zay t64 1 fun t66 =>
 aUn .not t66 fun t68 =>
 zag t68
 (zaD [(.int .i64 0), (.bool false)] (K · H))
 (zaf 1 t10 fun t72 =>
 zad false 1 t72 H fun t73 =>
 ACalls tP zh7 [t0, t65, t73] H fun t74 H =>
 zay t74 0 fun t75 =>
 zay t74 1 fun t76 =>
 zac .add false (.int .i64 1) t75 fun t79 =>
 zac .add false t8 t79 fun t80 =>
 aUn .not t76 fun t82 =>
 zab t82 false H (fun K' => K' t80 H) fun t84 H =>
 zab t82 false H (fun K' => zac .gtr false t84 (.int .i64 6) (K' · H)) fun t85 H =>
 zai t82 (.bool true) t85 fun t86 =>
 zag t86
 (zaD [(.int .i64 0), (.bool false)] (K · H))
 (zac .add false t55 (.int .i64 1) fun t87 =>
 Kb13 (zjy t0 t4 t80 t53 t54 t87) H)))
 (zaD [t8, (.bool true)] (K · H))
def zda (t0 t1 t2 : AV) (H : zaa) (K : Kt) : Prop :=
 zao t1 H fun t4 H =>
 zao t2 H fun t5 H =>
 zaf 0 t4 fun t14 =>
 zad false 1 t14 H fun t15 =>
 zac .eql false t15 (.int .i64 6) fun t17 =>
 zag t17
 (zaf 0 t5 fun t18 =>
 zad false 1 t18 H fun t19 =>
 zac .neq false t19 (.int .i64 0) fun t20 =>
 zag t20
 (zaD [(.int .i64 0), (.bool false)] (K · H))
 (zaf 2 t4 fun t22 =>
 zad false 1 t22 H fun t23 =>
 zaf 1 t5 fun t24 =>
 zad false 1 t24 H fun t25 =>
 ACalls tP zh7 [t0, t23, t25] H fun t26 H =>
 zay t26 0 fun t27 =>
 zay t26 1 fun t28 =>
 zaD [t27, t28] (K · H)))
 (zac .eql false t15 (.int .i64 7) fun t30 =>
 zag t30
 (zae H (fun K' => zaf 0 t5 (K' · H)) fun t31 =>
 zae H (fun K' => zal false 1 t31 H (K' · H)) fun t32 =>
 zae H (fun K' => zaf 0 t5 (K' · H)) fun t33 =>
 zae H (fun K' => zal false 1 t33 H (K' · H)) fun t34 =>
 zae H (fun K' => zac .geq false t34 (.int .i64 0) (K' · H)) fun t35 =>
 zae H (fun K' => K' t35 H) fun t36 =>
 zab t36 true H (fun K' => zae H (fun K'' => zaf 0 t5 (K'' · H)) (K' · H)) fun t37 H =>
 zab t36 true H (fun K' => zae H (fun K'' => zal false 1 t37 H (K'' · H)) (K' · H)) fun t38 H =>
 zab t36 true H (fun K' => zae H (fun K'' => zac .leq false t38 (.int .i64 6) (K'' · H)) (K' · H)) fun t39 H =>
 zae H (fun K' => zai t36 t39 (.bool false) (K' · H)) fun t40 =>
 zae H (fun K' => K' t40 H) fun t41 =>
 zab t41 true H (fun K' => zae H (fun K'' => zaf 1 t5 (K'' · H)) (K' · H)) fun t42 H =>
 zab t41 true H (fun K' => zae H (fun K'' => zal false 1 t42 H (K'' · H)) (K' · H)) fun t43 H =>
 zab t41 true H (fun K' => zae H (fun K'' => zah 1 t43 (K'' · H)) (K' · H)) fun t44 H =>
 zab t41 true H (fun K' => zae H (fun K'' => zac .eql false t44 (.int .i64 0) (K'' · H)) (K' · H)) fun t45 H =>
 zae H (fun K' => zai t41 t45 (.bool false) (K' · H)) fun t46 =>
 zae H (fun K' => K' t32 H) fun t6 =>
 zae H (fun K' => K' t46 H) fun t7 =>
 zaD [t6, t7] (K · H))
 (zac .eql false t15 (.int .i64 5) fun t48 =>
 zag t48
 (zaf 0 t5 fun t49 =>
 zad false 1 t49 H fun t50 =>
 zac .neq false t50 (.int .i64 0) fun t51 =>
 zag t51
 (zaD [(.int .i64 0), (.bool false)] (K · H))
 (zaf 1 t5 fun t52 =>
 zad false 1 t52 H fun t53 =>
 zah 1 t53 fun t54 =>
 zwj t0 t4 (.int .i64 0) t53 t54 (.int .i64 0) H K))
 (zae H (fun K' => zaf 0 t5 (K' · H)) fun t89 =>
 zae H (fun K' => zal false 1 t89 H (K' · H)) fun t90 =>
 zae H (fun K' => zac .eql false t90 (.int .i64 0) (K' · H)) fun t91 =>
 zae H (fun K' => K' t91 H) fun t92 =>
 zab t92 true H (fun K' => zae H (fun K'' => zaf 1 t5 (K'' · H)) (K' · H)) fun t93 H =>
 zab t92 true H (fun K' => zae H (fun K'' => zal false 1 t93 H (K'' · H)) (K' · H)) fun t94 H =>
 zab t92 true H (fun K' => zae H (fun K'' => zah 1 t94 (K'' · H)) (K' · H)) fun t95 H =>
 zab t92 true H (fun K' => zae H (fun K'' => zac .eql false t95 (.int .i64 0) (K'' · H)) (K' · H)) fun t96 H =>
 zae H (fun K' => zai t92 t96 (.bool false) (K' · H)) fun t97 =>
 zae H (fun K' => K' (.int .i64 0) H) fun t6 =>
 zae H (fun K' => K' t97 H) fun t7 =>
 zaD [t6, t7] (K · H))))
theorem zFu {t0 t4 t8 t53 t54 t55 : AV} {H : zaa} {K : Kt} (Inv : Nat → AV → AV → zaa → Prop) (n : Nat) (h0 : HSc H → Inv n t8 t55 H)
  (round : Rd2 (fun t8 => fun t55 => zjy t0 t4 t8 t53 t54 t55) (fun t8 => fun t55 => fun H Kb13 => zo3 t0 t4 t8 t53 t54 t55 H K Kb13) H Inv) : zwj t0 t4 t8 t53 t54 t55 H K :=
 lp2 (M := zjx) zFv t8 t55 (by kernel_rfl) Inv n h0 round
theorem zFw {t0 t1 t2 : AV} {H : zaa} {K : Kt} (h : HSc H → zda t0 t1 t2 H K) : ACalls tP zh0 [t0, t1, t2] H K :=
 zam (M := zjx) Tryz.func131 (c := zo4) (by kernel_rfl) (fun hs => Eq.mpr (by kernel_rfl) (h hs))
def zK6 (_ : Nat) : List Bool := []
noncomputable def zK7 : Code := Tryz.f34.body.getD .skip
def zys (t0 t1 : AV) (H : zaa) (K : Kt) : Prop :=
 zao t1 H fun t3 H =>
 ACalls tP zil [t0] H fun t6 H =>
 zab t6 true H (fun K' => K' t0 H) fun t8 H =>
 zab t6 true H (fun K' => zad true 3 t3 H (K' · H)) fun t9 H =>
 zab t6 true H (fun K' => ACalls tP zgJ [t8, t9, (.int .i64 0)] H K') fun t10 H =>
 zai t6 t10 (.bool false) fun t11 =>
 K t11 H
theorem zK8 {t0 t1 : AV} {H : zaa} {K : Kt} (h : HSc H → zys t0 t1 H K) : ACalls tP zny [t0, t1] H K :=
 zam (M := zK6) Tryz.func34 (c := zK7) (by kernel_rfl) (fun hs => Eq.mpr (by kernel_rfl) (h hs))
def zlR : Nat → List Bool
 | 15 => rl false [0,1,3,1,2,1,48,3,50]
 | _ => []
noncomputable def zrB : Code := Tryz.f87.body.getD .skip
noncomputable def zOt : List ResultVar := Tryz.f87.results.toList
def zlS (t0 t4 t7 t56 t57 t58 : AV) : List AV := t0 :: ux 3 (t4 :: ux 2 (t7 :: ux 48 (t56 :: t57 :: t58 :: ux 50 [])))
def zOr : List Bool := zlR 15
noncomputable def zOp : Code := zas [1, 0, 1, 0, 1, 1, 1, 1, 1, 0, 1, 1, 0, 1, 0, 0] zrB
def zOo (K : Kt) : AExit → List AV → zaa → Prop := zat tP zlR [1, 0, 1, 0, 1, 1, 1, 1, 1, 0, 1, 1, 0, 1, 0] zrB (zaA tP zOt K)
def zzA (t0 t4 t7 t56 t57 t58 : AV) (H : zaa) (K : Kt) : Prop := ALoop tP zOp (zOo K) (zlS t0 t4 t7 t56 t57 t58) H
def zhs (t0 t4 t7 t56 t57 t58 : AV) (H : zaa) (K : Kt) (Kb15 : Lt) : Prop :=
 zac .lss false t58 t57 fun t59 =>
 zag t59
 (zaj 2 t56 t58 fun t60 =>
 zad true 2 t60 H fun t61 =>
 zau [(.int .i64 0), .snil] H fun t9 H =>
 zak 2 t9 t61 H fun H =>
 zaf 0 t9 fun t62 =>
 zad false 1 t62 H fun t63 =>
 zac .lss false t63 (.int .i64 0) fun t64 =>
 zab t64 false H (fun K' => zaf 0 t9 (K' · H)) fun t66 H =>
 zab t64 false H (fun K' => zad false 1 t66 H (K' · H)) fun t67 H =>
 zab t64 false H (fun K' => zac .geq false t67 (.int .i64 8) (K' · H)) fun t68 H =>
 zai t64 (.bool true) t68 fun t69 =>
 zag t69
 (K (.int .i64 (-1)) H)
 (zad true 3 t4 H fun t72 =>
 zaf 0 t9 fun t73 =>
 zad false 1 t73 H fun t74 =>
 ACalls tP znI [t0, t72, t74] H fun t75 H =>
 zay t75 0 fun t76 =>
 zay t75 1 fun t77 =>
 aUn .not t77 fun t79 =>
 zag t79
 (K (.int .i64 (-1)) H)
 (zaf 1 t9 fun t82 =>
 zad false 1 t82 H fun t83 =>
 ACalls tP zhZ [t0, t76, t83] H fun t84 H =>
 zac .lss false t84 (.int .i64 0) fun t86 =>
 zab t86 false H (fun K' => K' t7 H) fun t88 H =>
 zab t86 false H (fun K' => zac .add false t88 (.int .i64 1) (K' · H)) fun t89 H =>
 zab t86 false H (fun K' => K' t84 H) fun t90 H =>
 zab t86 false H (fun K' => zac .add false t89 t90 (K' · H)) fun t91 H =>
 zab t86 false H (fun K' => zac .gtr false t91 (.int .i64 6) (K' · H)) fun t92 H =>
 zai t86 (.bool true) t92 fun t93 =>
 zag t93
 (K (.int .i64 (-1)) H)
 (zac .add false (.int .i64 1) t84 fun t96 =>
 zac .add false t7 t96 fun t97 =>
 zac .add false t58 (.int .i64 1) fun t98 =>
 Kb15 (zlS t0 t4 t97 t56 t57 t98) H))))
 (K t7 H)
def zcW (t0 t1 t2 : AV) (H : zaa) (K : Kt) : Prop :=
 zao t1 H fun t4 H =>
 zao t2 H fun t5 H =>
 zaf 0 t4 fun t13 =>
 zad false 1 t13 H fun t14 =>
 zac .eql false t14 (.int .i64 6) fun t16 =>
 zag t16
 (zaf 0 t5 fun t17 =>
 zad false 1 t17 H fun t18 =>
 zac .neq false t18 (.int .i64 0) fun t19 =>
 zag t19
 (K (.int .i64 (-1)) H)
 (zaf 2 t4 fun t21 =>
 zad false 1 t21 H fun t22 =>
 zaf 1 t5 fun t23 =>
 zad false 1 t23 H fun t24 =>
 ACalls tP zhZ [t0, t22, t24] H fun t25 H =>
 K t25 H))
 (zac .eql false t14 (.int .i64 7) fun t27 =>
 zag t27
 (zaf 0 t5 fun t28 =>
 zad false 1 t28 H fun t29 =>
 zac .lss false t29 (.int .i64 0) fun t30 =>
 zab t30 false H (fun K' => zaf 0 t5 (K' · H)) fun t32 H =>
 zab t30 false H (fun K' => zad false 1 t32 H (K' · H)) fun t33 H =>
 zab t30 false H (fun K' => zac .gtr false t33 (.int .i64 6) (K' · H)) fun t34 H =>
 zai t30 (.bool true) t34 fun t35 =>
 zab t35 false H (fun K' => zaf 1 t5 (K' · H)) fun t37 H =>
 zab t35 false H (fun K' => zad false 1 t37 H (K' · H)) fun t38 H =>
 zab t35 false H (fun K' => zah 1 t38 (K' · H)) fun t39 H =>
 zab t35 false H (fun K' => zac .gtr false t39 (.int .i64 0) (K' · H)) fun t40 H =>
 zai t35 (.bool true) t40 fun t41 =>
 zag t41
 (K (.int .i64 (-1)) H)
 (zaf 0 t5 fun t42 =>
 zad false 1 t42 H fun t43 =>
 K t43 H))
 (zac .eql false t14 (.int .i64 5) fun t45 =>
 zag t45
 (zaf 0 t5 fun t46 =>
 zad false 1 t46 H fun t47 =>
 zac .neq false t47 (.int .i64 0) fun t48 =>
 zab t48 false H (fun K' => zaf 1 t5 (K' · H)) fun t50 H =>
 zab t48 false H (fun K' => zad false 1 t50 H (K' · H)) fun t51 H =>
 zab t48 false H (fun K' => zah 1 t51 (K' · H)) fun t52 H =>
 zab t48 false H (fun K' => zac .gtr false t52 (.int .i64 6) (K' · H)) fun t53 H =>
 zai t48 (.bool true) t53 fun t54 =>
 zag t54
 (K (.int .i64 (-1)) H)
 (zaf 1 t5 fun t55 =>
 zad false 1 t55 H fun t56 =>
 zah 1 t56 fun t57 =>
 zzA t0 t4 (.int .i64 0) t56 t57 (.int .i64 0) H K))
 (zaf 0 t5 fun t100 =>
 zad false 1 t100 H fun t101 =>
 zac .neq false t101 (.int .i64 0) fun t102 =>
 zab t102 false H (fun K' => zaf 1 t5 (K' · H)) fun t104 H =>
 zab t102 false H (fun K' => zad false 1 t104 H (K' · H)) fun t105 H =>
 zab t102 false H (fun K' => zah 1 t105 (K' · H)) fun t106 H =>
 zab t102 false H (fun K' => zac .gtr false t106 (.int .i64 0) (K' · H)) fun t107 H =>
 zai t102 (.bool true) t107 fun t108 =>
 zag t108
 (K (.int .i64 (-1)) H)
 (K (.int .i64 0) H))))
theorem zOq {t0 t4 t7 t56 t57 t58 : AV} {H : zaa} {K : Kt} (Inv : Nat → AV → AV → zaa → Prop) (n : Nat) (h0 : HSc H → Inv n t7 t58 H)
  (round : Rd2 (fun t7 => fun t58 => zlS t0 t4 t7 t56 t57 t58) (fun t7 => fun t58 => fun H Kb15 => zhs t0 t4 t7 t56 t57 t58 H K Kb15) H Inv) : zzA t0 t4 t7 t56 t57 t58 H K :=
 lp2 (M := zlR) zOr t7 t58 (by kernel_rfl) Inv n h0 round
theorem zOs {t0 t1 t2 : AV} {H : zaa} {K : Kt} (h : HSc H → zcW t0 t1 t2 H K) : ACalls tP ziz [t0, t1, t2] H K :=
 zam (M := zlR) Tryz.func87 (c := zrB) (by kernel_rfl) (fun hs => Eq.mpr (by kernel_rfl) (h hs))
def zkm : Nat → List Bool
 | 5 => rl false [0,1,1,1,5,1,9,3,23]
 | _ => []
noncomputable def zpR : Code := Tryz.f177.body.getD .skip
noncomputable def zIz : List ResultVar := Tryz.f177.results.toList
def zkn (t0 t2 t8 t18 t19 t20 : AV) : List AV := t0 :: ux 1 (t2 :: ux 5 (t8 :: ux 9 (t18 :: t19 :: t20 :: ux 23 [])))
def zIx : List Bool := zkm 5
noncomputable def zIv : Code := zas [1, 1, 1, 0, 1, 0, 0] zpR
def zIu (K : Kt) : AExit → List AV → zaa → Prop := zat tP zkm [1, 1, 1, 0, 1, 0] zpR (zaA tP zIz K)
def zxw (t0 t2 t8 t18 t19 t20 : AV) (H : zaa) (K : Kt) : Prop := ALoop tP zIv (zIu K) (zkn t0 t2 t8 t18 t19 t20) H
def zpQ (t0 t2 t8 t18 t19 t20 : AV) (H : zaa) (K : Kt) (Kb5 : Lt) : Prop :=
 zac .lss false t20 t19 fun t21 =>
 zag t21
 (zaj 3 t18 t20 fun t23 =>
 zad true 3 t23 H fun t24 =>
 zau [(.int .i64 0), (.int .i64 0), .snil] H fun t10 H =>
 zak 3 t10 t24 H fun H =>
 zae H (fun K' => K' t0 H) fun t26 =>
 zae H (fun K' => zal true 3 t10 H (K' · H)) fun t27 =>
 zae H (fun K' => K' t2 H) fun t28 =>
 zae H (fun K' => K' t20 H) fun t29 =>
 zae H (fun K' => zaj 2 t28 t29 (K' · H)) fun t30 =>
 zae H (fun K' => zal true 2 t30 H (K' · H)) fun t31 =>
 zaG H (fun H K' => ACalls tP zh0 [t26, t27, t31] H K') fun t32 =>
 zae H (fun K' => K' t32 H) fun t25 =>
 zae H (fun K' => zay t25 0 (K' · H)) fun t33 =>
 zae H (fun K' => zay t25 1 (K' · H)) fun t34 =>
 zae H (fun K' => K' t33 H) fun t11 =>
 zae H (fun K' => K' t34 H) fun t12 =>
 aUn .not t12 fun t36 =>
 zag t36
 (zaD [(.int .i64 0), (.bool false)] (K · H))
 (zac .add false t8 t11 fun t39 =>
 zac .add false t20 (.int .i64 1) fun t40 =>
 Kb5 (zkn t0 t2 t39 t18 t19 t40) H))
 (zac .leq false t8 (.int .i64 6) fun t43 =>
 zaD [t8, t43] (K · H))
def zpP (t0 t1 t2 : AV) (H : zaa) (K : Kt) : Prop :=
 zah 1 t1 fun t14 =>
 zah 1 t2 fun t16 =>
 zac .neq false t14 t16 fun t17 =>
 zag t17
 (zaD [(.int .i64 0), (.bool false)] (K · H))
 (zah 1 t1 fun t19 =>
 zxw t0 t2 (.int .i64 0) t1 t19 (.int .i64 0) H K)
theorem zIw {t0 t2 t8 t18 t19 t20 : AV} {H : zaa} {K : Kt} (Inv : Nat → AV → AV → zaa → Prop) (n : Nat) (h0 : HSc H → Inv n t8 t20 H)
  (round : Rd2 (fun t8 => fun t20 => zkn t0 t2 t8 t18 t19 t20) (fun t8 => fun t20 => fun H Kb5 => zpQ t0 t2 t8 t18 t19 t20 H K Kb5) H Inv) : zxw t0 t2 t8 t18 t19 t20 H K :=
 lp2 (M := zkm) zIx t8 t20 (by kernel_rfl) Inv n h0 round
theorem zIy {t0 t1 t2 : AV} {H : zaa} {K : Kt} (h : HSc H → zpP t0 t1 t2 H K) : ACalls tP zh7 [t0, t1, t2] H K :=
 zam (M := zkm) Tryz.func177 (c := zpR) (by kernel_rfl) (fun hs => Eq.mpr (by kernel_rfl) (h hs))
def zko : Nat → List Bool
 | 6 => rl false [8,1,1,1,15,3,15]
 | _ => []
noncomputable def zpT : Code := Tryz.f178.body.getD .skip
noncomputable def zIF : List ResultVar := Tryz.f178.results.toList
def zkp (t8 t10 t26 t27 t28 : AV) : List AV := ux 8 (t8 :: ux 1 (t10 :: ux 15 (t26 :: t27 :: t28 :: ux 15 [])))
def zID : List Bool := zko 6
noncomputable def zIB : Code := zas [1, 1, 1, 1, 0, 1, 0, 0] zpT
def zIA (K : Kt) : AExit → List AV → zaa → Prop := zat tP zko [1, 1, 1, 1, 0, 1, 0] zpT (zaA tP zIF K)
def zkr (t8 t10 t26 t27 t28 : AV) (H : zaa) (K : Kt) : Prop := ALoop tP zIB (zIA K) (zkp t8 t10 t26 t27 t28) H
def zxz (t8 t10 t26 t27 t28 : AV) (H : zaa) (K : Kt) (Kb6 : Lt) : Prop :=
 zac .add false t28 (.int .i64 1) fun t42 =>
 Kb6 (zkp t8 t10 t26 t27 t42) H
def zkq (t8 t10 t26 t27 t28 : AV) (H : zaa) (K : Kt) (Kb6 : Lt) : Prop :=
 zxz t8 t10 t26 t27 t28 H K Kb6
def zpS (t8 t10 t26 t27 t28 : AV) (H : zaa) (K : Kt) (Kb6 : Lt) : Prop :=
 zac .lss false t28 t27 fun t29 =>
 zag t29
 (zaj 1 t26 t28 fun t31 =>
 zad false 1 t31 H fun t32 =>
 aUn .not t32 fun t34 =>
 zag t34
 (zaj 3 t8 t28 fun t38 =>
 zad true 3 t38 H fun t39 =>
 zaz 3 [(.int .i64 0), (.int .i64 0), .snil] 1 [(0, t39)] fun t40 =>
 zaw zaV 3 40 t10 t40 H fun t41 H =>
 zkq t8 t41 t26 t27 t28 H K Kb6)
 (zkq t8 t10 t26 t27 t28 H K Kb6))
 (zaD [t10, (.bool true)] (K · H))
def zxy (t0 t1 t2 : AV) (H : zaa) (K : Kt) : Prop :=
 zao t1 H fun t4 H =>
 zad true 3 t4 H fun t15 =>
 ACalls tP zeb [t0, t15, t2] H fun t17 H =>
 zay t17 0 fun t18 =>
 zay t17 1 fun t19 =>
 aUn .not t19 fun t21 =>
 zag t21
 (zaD [.snil, (.bool false)] (K · H))
 (zaf 1 t4 fun t23 =>
 zad false 1 t23 H fun t24 =>
 ACalls tP zdf [t0, t24, t2] H fun t26 H =>
 zah 1 t26 fun t27 =>
 zkr t18 .snil t26 t27 (.int .i64 0) H K)
theorem zIC {t8 t10 t26 t27 t28 : AV} {H : zaa} {K : Kt} (Inv : Nat → AV → AV → zaa → Prop) (n : Nat) (h0 : HSc H → Inv n t10 t28 H)
  (round : Rd2 (fun t10 => fun t28 => zkp t8 t10 t26 t27 t28) (fun t10 => fun t28 => fun H Kb6 => zpS t8 t10 t26 t27 t28 H K Kb6) H Inv) : zkr t8 t10 t26 t27 t28 H K :=
 lp2 (M := zko) zID t10 t28 (by kernel_rfl) Inv n h0 round
theorem zIE {t0 t1 t2 : AV} {H : zaa} {K : Kt} (h : HSc H → zxy t0 t1 t2 H K) : ACalls tP zni [t0, t1, t2] H K :=
 zam (M := zko) Tryz.func178 (c := zpT) (by kernel_rfl) (fun hs => Eq.mpr (by kernel_rfl) (h hs))
def zl4 : Nat → List Bool
 | 7 => rl false [8,1,4,1,19,3,12]
 | _ => []
noncomputable def zrP : Code := Tryz.f100.body.getD .skip
noncomputable def zPb : List ResultVar := Tryz.f100.results.toList
def zl5 (t8 t13 t33 t34 t35 : AV) : List AV := ux 8 (t8 :: ux 4 (t13 :: ux 19 (t33 :: t34 :: t35 :: ux 12 [])))
def zO9 : List Bool := zl4 7
noncomputable def zO7 : Code := zas [1, 1, 1, 1, 1, 0, 1, 0, 0] zrP
def zO6 (K : Kt) : AExit → List AV → zaa → Prop := zat tP zl4 [1, 1, 1, 1, 1, 0, 1, 0] zrP (zaA tP zPb K)
def zl6 (t8 t13 t33 t34 t35 : AV) (H : zaa) (K : Kt) : Prop := ALoop tP zO7 (zO6 K) (zl5 t8 t13 t33 t34 t35) H
def zrO (t8 t13 t33 t34 t35 : AV) (H : zaa) (K : Kt) (Kb7 : Lt) : Prop :=
 zac .lss false t35 t34 fun t36 =>
 zag t36
 (zaj 1 t33 t35 fun t37 =>
 zad false 1 t37 H fun t38 =>
 zaj 3 t8 t38 fun t42 =>
 zad true 3 t42 H fun t43 =>
 zaz 3 [(.int .i64 0), (.int .i64 0), .snil] 1 [(0, t43)] fun t44 =>
 zaw zaV 3 40 t13 t44 H fun t45 H =>
 zac .add false t35 (.int .i64 1) fun t46 =>
 Kb7 (zl5 t8 t45 t33 t34 t46) H)
 (zaD [t13, (.bool true)] (K · H))
def zzH (t0 t1 t2 : AV) (H : zaa) (K : Kt) : Prop :=
 zao t1 H fun t4 H =>
 zad true 3 t4 H fun t18 =>
 ACalls tP zgD [t0, t18, t2] H fun t20 H =>
 zay t20 0 fun t21 =>
 zay t20 1 fun t22 =>
 aUn .not t22 fun t24 =>
 zag t24
 (zaD [.snil, (.bool false)] (K · H))
 (zad true 3 t4 H fun t27 =>
 ACalls tP zm3 [t0, t27, t2] H fun t29 H =>
 zay t29 0 fun t30 =>
 zay t29 1 fun t31 =>
 zay t29 2 fun t32 =>
 zah 1 t30 fun t34 =>
 zl6 t21 .snil t30 t34 (.int .i64 0) H K)
theorem zO8 {t8 t13 t33 t34 t35 : AV} {H : zaa} {K : Kt} (Inv : Nat → AV → AV → zaa → Prop) (n : Nat) (h0 : HSc H → Inv n t13 t35 H)
  (round : Rd2 (fun t13 => fun t35 => zl5 t8 t13 t33 t34 t35) (fun t13 => fun t35 => fun H Kb7 => zrO t8 t13 t33 t34 t35 H K Kb7) H Inv) : zl6 t8 t13 t33 t34 t35 H K :=
 lp2 (M := zl4) zO9 t13 t35 (by kernel_rfl) Inv n h0 round
theorem zPa {t0 t1 t2 : AV} {H : zaa} {K : Kt} (h : HSc H → zzH t0 t1 t2 H K) : ACalls tP znI [t0, t1, t2] H K :=
 zam (M := zl4) Tryz.func100 (c := zrP) (by kernel_rfl) (fun hs => Eq.mpr (by kernel_rfl) (h hs))
def zjB : Nat → List Bool
 | 6 => rl false [11,2,15,3,16]
 | _ => []
noncomputable def zo7 : Code := Tryz.f144.body.getD .skip
noncomputable def zFS : List ResultVar := Tryz.f144.results.toList
def zjD (t11 t12 t28 t29 t30 : AV) : List AV := ux 11 (t11 :: t12 :: ux 15 (t28 :: t29 :: t30 :: ux 16 []))
def zFQ : List Bool := zjB 6
noncomputable def zFO : Code := zas [1, 1, 1, 0, 1, 0, 0] zo7
def zFN (K : Kt) : AExit → List AV → zaa → Prop := zat tP zjB [1, 1, 1, 0, 1, 0] zo7 (zaA tP zFS K)
def zjF (t11 t12 t28 t29 t30 : AV) (H : zaa) (K : Kt) : Prop := ALoop tP zFO (zFN K) (zjD t11 t12 t28 t29 t30) H
def zwp (t11 t12 t28 t29 t30 : AV) (H : zaa) (K : Kt) (Kb6 : Lt) : Prop :=
 zac .add false t30 (.int .i64 1) fun t44 =>
 Kb6 (zjD t11 t12 t28 t29 t44) H
def zjE (t11 t12 t28 t29 t30 : AV) (H : zaa) (K : Kt) (Kb6 : Lt) : Prop :=
 zwp t11 t12 t28 t29 t30 H K Kb6
def zjC (t11 t12 t28 t29 t30 : AV) (H : zaa) (K : Kt) (Kb6 : Lt) : Prop :=
 zac .lss false t30 t29 fun t31 =>
 zag t31
 (zaj 1 t28 t30 fun t33 =>
 zad false 1 t33 H fun t34 =>
 zag t34
 (zaz 1 [(.int .i64 0)] 1 [(0, t30)] fun t38 =>
 zaw za8 1 8 t12 t38 H fun t39 H =>
 zjE t11 t39 t28 t29 t30 H K Kb6)
 (zaz 1 [(.int .i64 0)] 1 [(0, t30)] fun t42 =>
 zaw za8 1 8 t11 t42 H fun t43 H =>
 zjE t43 t12 t28 t29 t30 H K Kb6))
 (zaD [t11, t12, (.bool true)] (K · H))
def zwo (t0 t1 t2 : AV) (H : zaa) (K : Kt) : Prop :=
 zao t1 H fun t4 H =>
 zad true 3 t4 H fun t17 =>
 ACalls tP zgD [t0, t17, t2] H fun t19 H =>
 zay t19 0 fun t20 =>
 zay t19 1 fun t21 =>
 aUn .not t21 fun t23 =>
 zag t23
 (zaD [.snil, .snil, (.bool false)] (K · H))
 (zaf 1 t4 fun t25 =>
 zad false 1 t25 H fun t26 =>
 ACalls tP zfo [t0, t26, t2] H fun t28 H =>
 zah 1 t28 fun t29 =>
 zjF .snil .snil t28 t29 (.int .i64 0) H K)
theorem zFP {t11 t12 t28 t29 t30 : AV} {H : zaa} {K : Kt} (Inv : Nat → AV → AV → AV → zaa → Prop) (n : Nat) (h0 : HSc H → Inv n t11 t12 t30 H)
  (round : Rd3 (fun t11 => fun t12 => fun t30 => zjD t11 t12 t28 t29 t30) (fun t11 => fun t12 => fun t30 => fun H Kb6 => zjC t11 t12 t28 t29 t30 H K Kb6) H Inv) : zjF t11 t12 t28 t29 t30 H K :=
 lp3 (M := zjB) zFQ t11 t12 t30 (by kernel_rfl) Inv n h0 round
theorem zFR {t0 t1 t2 : AV} {H : zaa} {K : Kt} (h : HSc H → zwo t0 t1 t2 H K) : ACalls tP zm3 [t0, t1, t2] H K :=
 zam (M := zjB) Tryz.func144 (c := zo7) (by kernel_rfl) (fun hs => Eq.mpr (by kernel_rfl) (h hs))
def zjv : Nat → List Bool
 | 5 => rl false [0,3,4,1,8,2,25]
 | _ => []
noncomputable def zo2 : Code := Tryz.f130.body.getD .skip
noncomputable def zFr : List ResultVar := Tryz.f130.results.toList
def zjw (t0 t1 t2 t7 t16 t17 : AV) : List AV := t0 :: t1 :: t2 :: ux 4 (t7 :: ux 8 (t16 :: t17 :: ux 25 []))
def zFp : List Bool := zjv 5
noncomputable def zFn : Code := zas [1, 1, 1, 0, 1, 0, 0] zo2
def zFm (K : Kt) : AExit → List AV → zaa → Prop := zat tP zjv [1, 1, 1, 0, 1, 0] zo2 (zaA tP zFr K)
def zwh (t0 t1 t2 t7 t16 t17 : AV) (H : zaa) (K : Kt) : Prop := ALoop tP zFn (zFm K) (zjw t0 t1 t2 t7 t16 t17) H
def zo1 (t0 t1 t2 t7 t16 t17 : AV) (H : zaa) (K : Kt) (Kb5 : Lt) : Prop :=
 zac .lss false t17 t16 fun t18 =>
 zag t18
 (zae H (fun K' => K' t0 H) fun t20 =>
 zae H (fun K' => K' t1 H) fun t21 =>
 zae H (fun K' => K' t17 H) fun t22 =>
 zae H (fun K' => zaj 3 t21 t22 (K' · H)) fun t23 =>
 zae H (fun K' => zal true 3 t23 H (K' · H)) fun t24 =>
 zae H (fun K' => K' t2 H) fun t25 =>
 zae H (fun K' => K' t17 H) fun t26 =>
 zae H (fun K' => zaj 2 t25 t26 (K' · H)) fun t27 =>
 zae H (fun K' => zal true 2 t27 H (K' · H)) fun t28 =>
 zaG H (fun H K' => ACalls tP ziz [t20, t24, t28] H K') fun t29 =>
 zae H (fun K' => K' t29 H) fun t9 =>
 zac .lss false t9 (.int .i64 0) fun t31 =>
 zab t31 false H (fun K' => K' t7 H) fun t33 H =>
 zab t31 false H (fun K' => K' t9 H) fun t34 H =>
 zab t31 false H (fun K' => zac .add false t33 t34 (K' · H)) fun t35 H =>
 zab t31 false H (fun K' => zac .gtr false t35 (.int .i64 6) (K' · H)) fun t36 H =>
 zai t31 (.bool true) t36 fun t37 =>
 zag t37
 (K (.int .i64 (-1)) H)
 (zac .add false t7 t9 fun t40 =>
 zac .add false t17 (.int .i64 1) fun t41 =>
 Kb5 (zjw t0 t1 t2 t40 t16 t41) H))
 (K t7 H)
def zo0 (t0 t1 t2 : AV) (H : zaa) (K : Kt) : Prop :=
 zah 1 t1 fun t11 =>
 zah 1 t2 fun t13 =>
 zac .neq false t11 t13 fun t14 =>
 zag t14
 (K (.int .i64 (-1)) H)
 (zah 1 t1 fun t16 =>
 zwh t0 t1 t2 (.int .i64 0) t16 (.int .i64 0) H K)
theorem zFo {t0 t1 t2 t7 t16 t17 : AV} {H : zaa} {K : Kt} (Inv : Nat → AV → AV → zaa → Prop) (n : Nat) (h0 : HSc H → Inv n t7 t17 H)
  (round : Rd2 (fun t7 => fun t17 => zjw t0 t1 t2 t7 t16 t17) (fun t7 => fun t17 => fun H Kb5 => zo1 t0 t1 t2 t7 t16 t17 H K Kb5) H Inv) : zwh t0 t1 t2 t7 t16 t17 H K :=
 lp2 (M := zjv) zFp t7 t17 (by kernel_rfl) Inv n h0 round
theorem zFq {t0 t1 t2 : AV} {H : zaa} {K : Kt} (h : HSc H → zo0 t0 t1 t2 H K) : ACalls tP zhZ [t0, t1, t2] H K :=
 zam (M := zjv) Tryz.func130 (c := zo2) (by kernel_rfl) (fun hs => Eq.mpr (by kernel_rfl) (h hs))
end Go.Proofs.YtjkkonpjecoieaaGreat

namespace Go.Proofs.YtjkkonpjecoieaaGreat
open Go Go.Abs
set_option maxRecDepth 100000
def zjd : Nat → List Bool
 | 5 => rl false [0,2,5,1,32,3,16]
 | _ => []
noncomputable def zoI : Code := Tryz.f126.body.getD .skip
noncomputable def zEM : List ResultVar := Tryz.f126.results.toList
def zje (t0 t1 t7 t40 t41 t42 : AV) : List AV := t0 :: t1 :: ux 5 (t7 :: ux 32 (t40 :: t41 :: t42 :: ux 16 []))
def zEK : List Bool := zjd 5
noncomputable def zEI : Code := zas [1, 1, 1, 0, 1, 0, 0] zoI
def zEH (K : Kt) : AExit → List AV → zaa → Prop := zat tP zjd [1, 1, 1, 0, 1, 0] zoI (zaA tP zEM K)
def zjf (t0 t1 t7 t40 t41 t42 : AV) (H : zaa) (K : Kt) : Prop := ALoop tP zEI (zEH K) (zje t0 t1 t7 t40 t41 t42) H
def zoH (t0 t1 t7 t40 t41 t42 : AV) (H : zaa) (K : Kt) (Kb5 : Lt) : Prop :=
 zac .lss false t42 t41 fun t43 =>
 zag t43
 (zaj 3 t40 t42 fun t44 =>
 zad true 3 t44 H fun t45 =>
 zau [(.int .i64 0), (.int .i64 0), .snil] H fun t9 H =>
 zak 3 t9 t45 H fun H =>
 zae H (fun K' => K' t7 H) fun t46 =>
 zae H (fun K' => zal true 3 t9 H (K' · H)) fun t47 =>
 zae H (fun K' => K' t1 H) fun t48 =>
 zae H (fun K' => K' t0 H) fun t49 =>
 zae H (fun K' => K' t1 H) fun t50 =>
 zae H (fun K' => zaj 3 t49 t50 (K' · H)) fun t51 =>
 zae H (fun K' => zaf 1 t51 (K' · H)) fun t52 =>
 zae H (fun K' => zal false 1 t52 H (K' · H)) fun t53 =>
 zaG H (fun H K' => ACalls tP ziw [t47, t48, t53] H K') fun t54 =>
 zae H (fun K' => zaz 1 [(.bool false)] 1 [(0, t54)] (K' · H)) fun t55 =>
 zaw zfg 1 1 t46 t55 H fun t56 H =>
 zae H (fun K' => K' t56 H) fun t7 =>
 zac .add false t42 (.int .i64 1) fun t57 =>
 Kb5 (zje t0 t1 t7 t40 t41 t57) H)
 (K t7 H)
def zv2 (t0 t1 t2 : AV) (H : zaa) (K : Kt) : Prop :=
 zac .lss false t1 (.int .i64 0) fun t11 =>
 zab t11 false H (fun K' => K' t1 H) fun t13 H =>
 zab t11 false H (fun K' => K' t0 H) fun t14 H =>
 zab t11 false H (fun K' => zah 1 t14 (K' · H)) fun t15 H =>
 zab t11 false H (fun K' => zac .geq false t13 t15 (K' · H)) fun t16 H =>
 zai t11 (.bool true) t16 fun t17 =>
 zab t17 false H (fun K' => K' t2 H) fun t19 H =>
 zab t17 false H (fun K' => zac .lss false t19 (.int .i64 0) (K' · H)) fun t20 H =>
 zai t17 (.bool true) t20 fun t21 =>
 zab t21 false H (fun K' => K' t2 H) fun t23 H =>
 zab t21 false H (fun K' => K' t0 H) fun t24 H =>
 zab t21 false H (fun K' => K' t1 H) fun t25 H =>
 zab t21 false H (fun K' => zaj 3 t24 t25 (K' · H)) fun t26 H =>
 zab t21 false H (fun K' => zaf 2 t26 (K' · H)) fun t27 H =>
 zab t21 false H (fun K' => zad false 1 t27 H (K' · H)) fun t28 H =>
 zab t21 false H (fun K' => zah 1 t28 (K' · H)) fun t29 H =>
 zab t21 false H (fun K' => zac .geq false t23 t29 (K' · H)) fun t30 H =>
 zai t21 (.bool true) t30 fun t31 =>
 zag t31
 (K .snil H)
 (zaj 3 t0 t1 fun t34 =>
 zaf 2 t34 fun t35 =>
 zad false 1 t35 H fun t36 =>
 zaj 2 t36 t2 fun t38 =>
 zaf 1 t38 fun t39 =>
 zad false 1 t39 H fun t40 =>
 zah 1 t40 fun t41 =>
 zjf t0 t1 .snil t40 t41 (.int .i64 0) H K)
theorem zEJ {t0 t1 t7 t40 t41 t42 : AV} {H : zaa} {K : Kt} (Inv : Nat → AV → AV → zaa → Prop) (n : Nat) (h0 : HSc H → Inv n t7 t42 H)
  (round : Rd2 (fun t7 => fun t42 => zje t0 t1 t7 t40 t41 t42) (fun t7 => fun t42 => fun H Kb5 => zoH t0 t1 t7 t40 t41 t42 H K Kb5) H Inv) : zjf t0 t1 t7 t40 t41 t42 H K :=
 lp2 (M := zjd) zEK t7 t42 (by kernel_rfl) Inv n h0 round
theorem zEL {t0 t1 t2 : AV} {H : zaa} {K : Kt} (h : HSc H → zv2 t0 t1 t2 H K) : ACalls tP zfo [t0, t1, t2] H K :=
 zam (M := zjd) Tryz.func126 (c := zoI) (by kernel_rfl) (fun hs => Eq.mpr (by kernel_rfl) (h hs))
end Go.Proofs.YtjkkonpjecoieaaGreat

namespace Go.Proofs.YtjkkonpjecoieaaGreat
open Go Go.Abs
set_option maxRecDepth 8000
def zbq (l : List Bool) : List (List AV) := l.map fun b => [.bool b]
theorem zv3 (data : List Dat) (d : Nat) (c : Nat) (hd : d < data.length) (hc : c < (data[d]).cons.length) (hl : data.length ≤ 1000000) (hcl : (data[d]).cons.length ≤ 1000000) (hal : ((data[d]).cons[c]).args.length ≤ 1000000)
  (hb : ∀ x ∈ ((data[d]).cons[c]).args, x.nodes ≤ 1000000) (H : zaa) (K : Kt)
  (hK : K (.sl (zbq (zbu d data[d] (data[d]).cons[c])) .none) H) :
  ACalls tP zfo [.sl (data.map Dat.cs) .none, .int .i64 d, .int .i64 c] H K := by
 refine ACalls.out (zEL fun hs => ?_)
 have e1 : (data.map Dat.cs)[d]? = some (data[d]).cs := by simp [hd]
 have e2 : ((data[d]).cons.map Con.cs)[c]? = some ((data[d]).cons[c]).cs := by simp [hc]
 generalize hD : data[d] = D at *
 generalize hA : D.cons[c] = C at *
 have h1 : ¬ (d : Int) < 0 := by omega
 have h2 : ¬ (data.length : Int) ≤ d := by omega
 have h3 : ¬ (c : Int) < 0 := by omega
 have h4 : ¬ (D.cons.length : Int) ≤ c := by omega
 simp [zv2, h1, h2, h3, h4, e1, e2, Dat.cs, Con.cs, hd, hD, hc, hA]
 unfold zjf
 refine ALoop.own 7 zfg 1 rfl ?_
 show zjf (.sl (data.map Dat.cs) .none) (.int .i64 d) (.sl [] (.own H.length)) (.sl (VT.css C.args) .none) (.int .i64 C.args.length) (.int .i64 0) (H ++ [.perm zfg 1 0]) (Out H.length K)
 have hperm : ∀ n, HSc (H ++ [.perm zfg 1 n]) := fun n => hs.append rfl
 refine zEJ (Inv := fun q t7 t42 H' => ∃ i : Nat, i ≤ C.args.length ∧ q = C.args.length - i ∧ t42 = .int .i64 i ∧ t7 = .sl (zbq ((zbu d D C).take i)) (.own H.length) ∧ H' = H ++ [.perm zfg 1 i]) C.args.length ?_ ?_
 ·intro _; exact ⟨0, by omega, by omega, rfl, rfl, rfl⟩
 ·rintro q t7 t42 H' ⟨i, hi, rfl, rfl, rfl, rfl⟩ hsc hlen hsF Kb hKb
  have hrl : (zbu d D C).length = C.args.length := by simp [zbu]
  by_cases hlt : i < C.args.length
  ·obtain ⟨x, y, z, hvx, hx, hy, hz⟩ := zaK C.args[i]
   have hnb := hb _ (List.getElem_mem hlt)
   simp [zoH, hlt, hvx, Nat.add_assoc, e1, hd, hD, Dat.cs]
   rw [← hvx]
   refine ⟨⟨hx, hy, hz⟩, ?_⟩
   refine zaF (.bool (zbD d D.vars C.args[i])) (fun J => zrQ _ _ _ hnb _ _ ⟨rfl, rfl⟩) ?_
   simp [zaz, za9, zaB, AV.pd, zaw, zaX, zaO, zbq]
   have hmin : min i (zbu d D C).length = i := by omega
   rw [hmin]
   refine ⟨rfl, ⟨by omega, by omega⟩, ?_⟩
   rw [zar (by omega) (by omega)]
   have hst : List.take i (List.map (fun b => [AV.bool b]) (zbu d D C)) ++ [[AV.bool (zbD (↑d) D.vars C.args[i])]] = zbq ((zbu d D C).take (i + 1)) := by
    rw [List.take_succ_eq_append_getElem (by omega)]
    simp [zbq, zbu]
   rw [hst]
   refine hKb _ _ ⟨C.args.length - (i + 1), by omega, Back.at (J := [.cells C.args[i].cs]) (H2 := H ++ [.perm zfg 1 (i + 1)]) (by simp) (by simp) (hperm _) ?_ ⟨_, _, rfl, i + 1, by omega, rfl, by simp, rfl, rfl⟩⟩
   simp [zje, AV.sc, AV.scV, AV.scA, AV.scB]
  ·obtain rfl : i = C.args.length := by omega
   rw [List.take_of_length_le (by omega)]
   simp [zoH]
   exact Out.at rfl (Nat.le_refl _) hs (.atom (.sl _ _)) rfl (by simp [zbq, AV.scV, AV.scA, AV.scB]) hK
def zEl (_ : Nat) : List Bool := []
noncomputable def zEm : Code := Tryz.f120.body.getD .skip
def zvU (t0 : AV) (H : zaa) (K : Kt) : Prop :=
 zao t0 H fun t1 H =>
 zaf 0 t1 fun t3 =>
 zad false 1 t3 H fun t4 =>
 ACalls tP zm5 [t4] H fun t5 H =>
 zab t5 true H (fun K' => zad true 4 t1 H (K' · H)) fun t7 H =>
 zab t5 true H (fun K' => ACalls tP zm6 [t7] H K') fun t8 H =>
 zai t5 t8 (.bool false) fun t9 =>
 zab t9 true H (fun K' => zad true 4 t1 H (K' · H)) fun t11 H =>
 zab t9 true H (fun K' => ACalls tP zm7 [t11] H K') fun t12 H =>
 zai t9 t12 (.bool false) fun t13 =>
 zab t13 true H (fun K' => zad true 4 t1 H (K' · H)) fun t15 H =>
 zab t13 true H (fun K' => ACalls tP zm8 [t15] H K') fun t16 H =>
 zai t13 t16 (.bool false) fun t17 =>
 zab t17 true H (fun K' => zad true 4 t1 H (K' · H)) fun t19 H =>
 zab t17 true H (fun K' => ACalls tP zm9 [t19] H K') fun t20 H =>
 zai t17 t20 (.bool false) fun t21 =>
 zab t21 true H (fun K' => zad true 4 t1 H (K' · H)) fun t23 H =>
 zab t21 true H (fun K' => ACalls tP zna [t23] H K') fun t24 H =>
 zai t21 t24 (.bool false) fun t25 =>
 zab t25 true H (fun K' => zad true 4 t1 H (K' · H)) fun t27 H =>
 zab t25 true H (fun K' => ACalls tP znb [t27] H K') fun t28 H =>
 zai t25 t28 (.bool false) fun t29 =>
 K t29 H
theorem zEn {t0 : AV} {H : zaa} {K : Kt} (h : HSc H → zvU t0 H K) : ACalls tP zhW [t0] H K :=
 zam (M := zEl) Tryz.func120 (c := zEm) (by kernel_rfl) (fun hs => Eq.mpr (by kernel_rfl) (h hs))
def zGx (_ : Nat) : List Bool := []
noncomputable def zGy : Code := Tryz.f159.body.getD .skip
def zwC (t0 : AV) (H : zaa) (K : Kt) : Prop :=
 zao t0 H fun t1 H =>
 zaf 2 t1 fun t3 =>
 zad false 1 t3 H fun t4 =>
 zah 1 t4 fun t5 =>
 zac .leq false t5 (.int .i64 3000) fun t6 =>
 zab t6 true H (fun K' => zaf 2 t1 (K' · H)) fun t8 H =>
 zab t6 true H (fun K' => zad false 1 t8 H (K' · H)) fun t9 H =>
 zab t6 true H (fun K' => zb2 ztG [t1] (K' · H)) fun t10 H =>
 zab t6 true H (fun K' => ACalls tP zeH [t9, t10] H K') fun t11 H =>
 zab t6 true H (fun K' => aUn .not t11 (K' · H)) fun t12 H =>
 zai t6 t12 (.bool false) fun t13 =>
 K t13 H
theorem zGz {t0 : AV} {H : zaa} {K : Kt} (h : HSc H → zwC t0 H K) : ACalls tP zm6 [t0] H K :=
 zam (M := zGx) Tryz.func159 (c := zGy) (by kernel_rfl) (fun hs => Eq.mpr (by kernel_rfl) (h hs))
def zjY : Nat → List Bool
 | 6 => rl false [1,1,1,2,14,3,59]
 | _ => []
noncomputable def zpj : Code := Tryz.f160.body.getD .skip
noncomputable def zGF : List ResultVar := Tryz.f160.results.toList
def zpk (t1 t3 t4 t19 t20 t21 : AV) : List AV := ux 1 (t1 :: ux 1 (t3 :: t4 :: ux 14 (t19 :: t20 :: t21 :: ux 59 [])))
def zGD : List Bool := zjY 6
noncomputable def zGB : Code := zas [1, 1, 1, 1, 0, 1, 0, 0] zpj
def zGA (K : Kt) : AExit → List AV → zaa → Prop := zat tP zjY [1, 1, 1, 1, 0, 1, 0] zpj (zaA tP zGF K)
def zwG (t1 t3 t4 t19 t20 t21 : AV) (H : zaa) (K : Kt) : Prop := ALoop tP zGB (zGA K) (zpk t1 t3 t4 t19 t20 t21) H
def zwF (t1 t3 t4 t6 t19 t20 t21 : AV) (H : zaa) (K : Kt) (Kb6 : Lt) : Prop :=
 zaf 0 t6 fun t42 =>
 zad false 1 t42 H fun t43 =>
 zcK t3 t43 (.bool true) H fun H =>
 zaf 1 t6 fun t44 =>
 zad false 1 t44 H fun t45 =>
 zah 1 t45 fun t46 =>
 zac .gtr false t46 (.int .i64 6) fun t47 =>
 zab t47 false H (fun K' => zaf 0 t1 (K' · H)) fun t49 H =>
 zab t47 false H (fun K' => zad false 1 t49 H (K' · H)) fun t50 H =>
 zab t47 false H (fun K' => zaf 3 t6 (K' · H)) fun t51 H =>
 zab t47 false H (fun K' => zad true 3 t51 H (K' · H)) fun t52 H =>
 zab t47 false H (fun K' => ACalls tP zfn [t50, t52, (.int .i64 0)] H K') fun t53 H =>
 zab t47 false H (fun K' => aUn .not t53 (K' · H)) fun t54 H =>
 zai t47 (.bool true) t54 fun t55 =>
 zag t55
 (K (.bool false) H)
 (zae H (fun K' => zaf 6 t6 (K' · H)) fun t56 =>
 zae H (fun K' => zal false 1 t56 H (K' · H)) fun t57 =>
 zae H (fun K' => zac .lss false t57 (.int .i64 0) (K' · H)) fun t58 =>
 zae H (fun K' => K' t58 H) fun t59 =>
 zab t59 false H (fun K' => zae H (fun K'' => zaf 6 t6 (K'' · H)) (K' · H)) fun t60 H =>
 zab t59 false H (fun K' => zae H (fun K'' => zal false 1 t60 H (K'' · H)) (K' · H)) fun t61 H =>
 zab t59 false H (fun K' => zae H (fun K'' => zaf 3 t1 (K'' · H)) (K' · H)) fun t62 H =>
 zab t59 false H (fun K' => zae H (fun K'' => zal false 1 t62 H (K'' · H)) (K' · H)) fun t63 H =>
 zab t59 false H (fun K' => zae H (fun K'' => zah 1 t63 (K'' · H)) (K' · H)) fun t64 H =>
 zab t59 false H (fun K' => zae H (fun K'' => zac .geq false t61 t64 (K'' · H)) (K' · H)) fun t65 H =>
 zae H (fun K' => zai t59 (.bool true) t65 (K' · H)) fun t66 =>
 zae H (fun K' => K' t66 H) fun t67 =>
 zab t67 false H (fun K' => zae H (fun K'' => zaf 3 t1 (K'' · H)) (K' · H)) fun t68 H =>
 zab t67 false H (fun K' => zae H (fun K'' => zal false 1 t68 H (K'' · H)) (K' · H)) fun t69 H =>
 zab t67 false H (fun K' => zae H (fun K'' => zaf 6 t6 (K'' · H)) (K' · H)) fun t70 H =>
 zab t67 false H (fun K' => zae H (fun K'' => zal false 1 t70 H (K'' · H)) (K' · H)) fun t71 H =>
 zab t67 false H (fun K' => zae H (fun K'' => zaj 8 t69 t71 (K'' · H)) (K' · H)) fun t72 H =>
 zab t67 false H (fun K' => zae H (fun K'' => zaf 5 t72 (K'' · H)) (K' · H)) fun t73 H =>
 zab t67 false H (fun K' => zae H (fun K'' => zal true 3 t73 H (K'' · H)) (K' · H)) fun t74 H =>
 zab t67 false H (fun K' => zae H (fun K'' => zaf 3 t6 (K'' · H)) (K' · H)) fun t75 H =>
 zab t67 false H (fun K' => zae H (fun K'' => zal true 3 t75 H (K'' · H)) (K' · H)) fun t76 H =>
 zab t67 false H (fun K' => zaG H (fun H K'' => ACalls tP zBq [t74, t76] H K'') (K' · H)) fun t77 H =>
 zab t67 false H (fun K' => zae H (fun K'' => aUn .not t77 (K'' · H)) (K' · H)) fun t78 H =>
 zae H (fun K' => zai t67 (.bool true) t78 (K' · H)) fun t79 =>
 zag t79
 (K (.bool false) H)
 (zac .add false t21 (.int .i64 1) fun t80 =>
 Kb6 (zpk t1 t3 t4 t19 t20 t80) H))
def zwE (t1 t3 t4 t19 t20 t21 : AV) (H : zaa) (K : Kt) (Kb6 : Lt) : Prop :=
 zac .lss false t21 t20 fun t22 =>
 zag t22
 (zaj 7 t19 t21 fun t23 =>
 zad true 7 t23 H fun t24 =>
 zau [(.str []), .snil, .snil, (.int .i64 0), (.int .i64 0), .snil, (.int .i64 0)] H fun t6 H =>
 zak 7 t6 t24 H fun H =>
 zaf 0 t6 fun t25 =>
 zad false 1 t25 H fun t26 =>
 zac .eql false t26 (.str []) fun t27 =>
 zag t27
 (zwF t1 t3 (.bool true) t6 t19 t20 t21 H K Kb6)
 (zab t4 false H (fun K' => K' t3 H) fun t30 H =>
 zab t4 false H (fun K' => zaf 0 t6 (K' · H)) fun t31 H =>
 zab t4 false H (fun K' => zad false 1 t31 H (K' · H)) fun t32 H =>
 zab t4 false H (fun K' => zdp (.bool false) false t30 t32 H (K' · H)) fun t33 H =>
 zai t4 (.bool true) t33 fun t34 =>
 zab t34 false H (fun K' => zaf 2 t6 (K' · H)) fun t36 H =>
 zab t34 false H (fun K' => zad false 1 t36 H (K' · H)) fun t37 H =>
 zab t34 false H (fun K' => zah 1 t37 (K' · H)) fun t38 H =>
 zab t34 false H (fun K' => zac .gtr false t38 (.int .i64 0) (K' · H)) fun t39 H =>
 zai t34 (.bool true) t39 fun t40 =>
 zag t40
 (K (.bool false) H)
 (zwF t1 t3 t4 t6 t19 t20 t21 H K Kb6)))
 (K (.bool true) H)
def zwD (t0 : AV) (H : zaa) (K : Kt) : Prop :=
 zao t0 H fun t1 H =>
 zaf 1 t1 fun t7 =>
 zad false 1 t7 H fun t8 =>
 zah 1 t8 fun t9 =>
 zac .gtr false t9 (.int .i64 64) fun t10 =>
 zab t10 false H (fun K' => zaf 3 t1 (K' · H)) fun t12 H =>
 zab t10 false H (fun K' => zad false 1 t12 H (K' · H)) fun t13 H =>
 zab t10 false H (fun K' => zah 1 t13 (K' · H)) fun t14 H =>
 zab t10 false H (fun K' => zac .gtr false t14 (.int .i64 3000) (K' · H)) fun t15 H =>
 zai t10 (.bool true) t15 fun t16 =>
 zag t16
 (K (.bool false) H)
 (zdY H fun t17 H =>
 zaf 1 t1 fun t18 =>
 zad false 1 t18 H fun t19 =>
 zah 1 t19 fun t20 =>
 zwG t1 t17 (.bool false) t19 t20 (.int .i64 0) H K)
theorem zGC {t1 t3 t4 t19 t20 t21 : AV} {H : zaa} {K : Kt} (Inv : Nat → AV → AV → zaa → Prop) (n : Nat) (h0 : HSc H → Inv n t4 t21 H)
  (round : Rd2 (fun t4 => fun t21 => zpk t1 t3 t4 t19 t20 t21) (fun t4 => fun t21 => fun H Kb6 => zwE t1 t3 t4 t19 t20 t21 H K Kb6) H Inv) : zwG t1 t3 t4 t19 t20 t21 H K :=
 lp2 (M := zjY) zGD t4 t21 (by kernel_rfl) Inv n h0 round
theorem zGE {t0 : AV} {H : zaa} {K : Kt} (h : HSc H → zwD t0 H K) : ACalls tP zm7 [t0] H K :=
 zam (M := zjY) Tryz.func160 (c := zpj) (by kernel_rfl) (fun hs => Eq.mpr (by kernel_rfl) (h hs))
def zen : Nat → List Bool
 | 5 => rl false [1,1,2,2,12,3,54]
 | 11 => rl false [1,1,2,2,25,3,41]
 | 16 => rl false [1,1,2,2,2,1,22,3,12,3,26]
 | _ => []
noncomputable def zhh : Code := Tryz.f161.body.getD .skip
noncomputable def zwP : List ResultVar := Tryz.f161.results.toList
def zpm (t1 t4 t5 t18 t19 t20 : AV) : List AV := ux 1 (t1 :: ux 2 (t4 :: t5 :: ux 12 (t18 :: t19 :: t20 :: ux 54 [])))
def zGO : List Bool := zen 5
noncomputable def zGJ : Code := zas [1, 1, 1, 1, 0, 1, 0, 0] zhh
def zGH (K : Kt) : AExit → List AV → zaa → Prop := zat tP zen [1, 1, 1, 1, 0, 1, 0] zhh (zaA tP zwP K)
def zwN (t1 t4 t5 t18 t19 t20 : AV) (H : zaa) (K : Kt) : Prop := ALoop tP zGJ (zGH K) (zpm t1 t4 t5 t18 t19 t20) H
def zwL (t1 t4 t5 t31 t32 t33 : AV) : List AV := ux 1 (t1 :: ux 2 (t4 :: t5 :: ux 25 (t31 :: t32 :: t33 :: ux 41 [])))
def zwO : List Bool := zen 11
noncomputable def zpl : Code := zas [1, 1, 1, 1, 1, 0, 1, 0, 0] zhh
def zwI (K : Kt) : AExit → List AV → zaa → Prop := zat tP zen [1, 1, 1, 1, 1, 0, 1, 0] zhh (zaA tP zwP K)
def zwM (t1 t4 t5 t31 t32 t33 : AV) (H : zaa) (K : Kt) : Prop := ALoop tP zpl (zwI K) (zwL t1 t4 t5 t31 t32 t33) H
def zGK (t1 t4 t5 t8 t31 t32 t33 t46 t47 t48 : AV) : List AV := ux 1 (t1 :: ux 2 (t4 :: t5 :: ux 2 (t8 :: ux 22 (t31 :: t32 :: t33 :: ux 12 (t46 :: t47 :: t48 :: ux 26 [])))))
noncomputable def zGI : Code := zas [1, 1, 0, 0, 1, 1, 1, 0, 0] zpl
def zGG (K : Kt) (Kb11 : Lt) : AExit → List AV → zaa → Prop := zat tP zen [1, 1, 0, 0, 1, 1, 1, 0] zpl (zbz zwO Kb11 (zwI K))
def zGL (t1 t4 t5 t8 t31 t32 t33 t46 t47 t48 : AV) (H : zaa) (K : Kt) (Kb11 : Lt) : Prop := ALoop tP zGI (zGG K Kb11) (zGK t1 t4 t5 t8 t31 t32 t33 t46 t47 t48) H
def zwJ (t1 t4 t5 t31 t32 t33 : AV) (H : zaa) (K : Kt) (Kb11 : Lt) : Prop :=
 zac .lss false t33 t32 fun t34 =>
 zag t34
 (zaj 8 t31 t33 fun t36 =>
 zad true 8 t36 H fun t37 =>
 zau [(.int .i64 0), (.int .i64 0), .snil, .snil, .snil, (.int .i64 0), (.int .i64 0), .snil] H fun t9 H =>
 zak 8 t9 t37 H fun H =>
 zaf 3 t9 fun t38 =>
 zad false 1 t38 H fun t39 =>
 zah 1 t39 fun t40 =>
 zaf 4 t9 fun t41 =>
 zad false 1 t41 H fun t42 =>
 zah 1 t42 fun t43 =>
 zac .neq false t40 t43 fun t44 =>
 zag t44
 (K (.bool false) H)
 (zaf 4 t9 fun t45 =>
 zad false 1 t45 H fun t46 =>
 zah 1 t46 fun t47 =>
 zGL t1 t4 t5 t33 t31 t32 t33 t46 t47 (.int .i64 0) H K Kb11))
 (zad false 1 t4 H fun t70 =>
 zaf 3 t1 fun t71 =>
 zad false 1 t71 H fun t72 =>
 zah 1 t72 fun t73 =>
 zac .eql false t70 t73 fun t74 =>
 K t74 H)
def zwK (t1 t4 t5 t18 t19 t20 : AV) (H : zaa) (K : Kt) (Kb5 : Lt) : Prop :=
 zac .lss false t20 t19 fun t21 =>
 zag t21
 (zaj 7 t18 t20 fun t22 =>
 zad true 7 t22 H fun t23 =>
 zau [(.str []), .snil, .snil, (.int .i64 0), (.int .i64 0), .snil, (.int .i64 0)] H fun t7 H =>
 zak 7 t7 t23 H fun H =>
 zaf 6 t7 fun t25 =>
 zad false 1 t25 H fun t26 =>
 aCallV tP t5 [t26] H fun t27 H =>
 aUn .not t27 fun t28 =>
 zag t28
 (K (.bool false) H)
 (zac .add false t20 (.int .i64 1) fun t29 =>
 Kb5 (zpm t1 t4 t5 t18 t19 t29) H))
 (zaf 3 t1 fun t30 =>
 zad false 1 t30 H fun t31 =>
 zah 1 t31 fun t32 =>
 zwM t1 t4 t5 t31 t32 (.int .i64 0) H K)
def zwH (t0 : AV) (H : zaa) (K : Kt) : Prop :=
 zao t0 H fun t1 H =>
 zaf 3 t1 fun t12 =>
 zad false 1 t12 H fun t13 =>
 zah 1 t13 fun t14 =>
 zbp 1 [(.bool false)] t14 t14 H fun t15 H =>
 zau [.snil] H fun t3 H =>
 zak 1 t3 t15 H fun H =>
 zau [(.int .i64 0)] H fun t4 H =>
 zak 1 t4 (.int .i64 0) H fun H =>
 zb2 zBr [t3, t4] fun t16 =>
 zaf 1 t1 fun t17 =>
 zad false 1 t17 H fun t18 =>
 zah 1 t18 fun t19 =>
 zwN t1 t4 t16 t18 t19 (.int .i64 0) H K
theorem zGM {t1 t4 t5 t31 t32 t33 : AV} {H : zaa} {K : Kt} (Inv : Nat → AV → zaa → Prop) (n : Nat) (h0 : HSc H → Inv n t33 H)
  (round : Rd1 (fun t33 => zwL t1 t4 t5 t31 t32 t33) (fun t33 => fun H Kb11 => zwJ t1 t4 t5 t31 t32 t33 H K Kb11) H Inv) : zwM t1 t4 t5 t31 t32 t33 H K :=
 lp1 (M := zen) zwO t33 (by kernel_rfl) Inv n h0 round
theorem zGN {t1 t4 t5 t18 t19 t20 : AV} {H : zaa} {K : Kt} (Inv : Nat → AV → zaa → Prop) (n : Nat) (h0 : HSc H → Inv n t20 H)
  (round : Rd1 (fun t20 => zpm t1 t4 t5 t18 t19 t20) (fun t20 => fun H Kb5 => zwK t1 t4 t5 t18 t19 t20 H K Kb5) H Inv) : zwN t1 t4 t5 t18 t19 t20 H K :=
 lp1 (M := zen) zGO t20 (by kernel_rfl) Inv n h0 round
theorem zGP {t0 : AV} {H : zaa} {K : Kt} (h : HSc H → zwH t0 H K) : ACalls tP zm8 [t0] H K :=
 zam (M := zen) Tryz.func161 (c := zhh) (by kernel_rfl) (fun hs => Eq.mpr (by kernel_rfl) (h hs))
def zeo : Nat → List Bool
 | 5 => rl false [1,1,2,2,12,3,41]
 | 11 => rl false [1,1,2,2,32,3,21]
 | 14 => rl false [1,1,2,2,32,3,4,3,14]
 | _ => []
noncomputable def zhk : Code := Tryz.f162.body.getD .skip
noncomputable def zw4 : List ResultVar := Tryz.f162.results.toList
def zpu (t1 t4 t5 t18 t19 t20 : AV) : List AV := ux 1 (t1 :: ux 2 (t4 :: t5 :: ux 12 (t18 :: t19 :: t20 :: ux 41 [])))
def zHc : List Bool := zeo 5
noncomputable def zG7 : Code := zas [1, 1, 1, 1, 0, 1, 0, 0] zhk
def zG5 (K : Kt) : AExit → List AV → zaa → Prop := zat tP zeo [1, 1, 1, 1, 0, 1, 0] zhk (zaA tP zw4 K)
def zw2 (t1 t4 t5 t18 t19 t20 : AV) (H : zaa) (K : Kt) : Prop := ALoop tP zG7 (zG5 K) (zpu t1 t4 t5 t18 t19 t20) H
def zw0 (t1 t4 t5 t38 t39 t40 : AV) : List AV := ux 1 (t1 :: ux 2 (t4 :: t5 :: ux 32 (t38 :: t39 :: t40 :: ux 21 [])))
def zw3 : List Bool := zeo 11
noncomputable def zpt : Code := zas [1, 1, 1, 1, 1, 0, 1, 0, 0] zhk
def zwX (K : Kt) : AExit → List AV → zaa → Prop := zat tP zeo [1, 1, 1, 1, 1, 0, 1, 0] zhk (zaA tP zw4 K)
def zw1 (t1 t4 t5 t38 t39 t40 : AV) (H : zaa) (K : Kt) : Prop := ALoop tP zpt (zwX K) (zw0 t1 t4 t5 t38 t39 t40) H
def zG8 (t1 t4 t5 t38 t39 t40 t45 t46 t47 : AV) : List AV := ux 1 (t1 :: ux 2 (t4 :: t5 :: ux 32 (t38 :: t39 :: t40 :: ux 4 (t45 :: t46 :: t47 :: ux 14 []))))
noncomputable def zG6 : Code := zas [1, 1, 0, 0, 1, 1, 0, 0] zpt
def zG4 (K : Kt) (Kb11 : Lt) : AExit → List AV → zaa → Prop := zat tP zeo [1, 1, 0, 0, 1, 1, 0] zpt (zbz zw3 Kb11 (zwX K))
def zG9 (t1 t4 t5 t38 t39 t40 t45 t46 t47 : AV) (H : zaa) (K : Kt) (Kb11 : Lt) : Prop := ALoop tP zG6 (zG4 K Kb11) (zG8 t1 t4 t5 t38 t39 t40 t45 t46 t47) H
def zwY (t1 t4 t5 t38 t39 t40 : AV) (H : zaa) (K : Kt) (Kb11 : Lt) : Prop :=
 zac .lss false t40 t39 fun t41 =>
 zag t41
 (zaj 8 t38 t40 fun t42 =>
 zad true 8 t42 H fun t43 =>
 zau [(.int .i64 0), (.int .i64 0), .snil, .snil, .snil, (.int .i64 0), (.int .i64 0), .snil] H fun t9 H =>
 zak 8 t9 t43 H fun H =>
 zaf 3 t9 fun t44 =>
 zad false 1 t44 H fun t45 =>
 zah 1 t45 fun t46 =>
 zG9 t1 t4 t5 t38 t39 t40 t45 t46 (.int .i64 0) H K Kb11)
 (zad false 1 t4 H fun t57 =>
 zaf 2 t1 fun t58 =>
 zad false 1 t58 H fun t59 =>
 zah 1 t59 fun t60 =>
 zac .eql false t57 t60 fun t61 =>
 K t61 H)
def zwZ (t1 t4 t5 t18 t19 t20 : AV) (H : zaa) (K : Kt) (Kb5 : Lt) : Prop :=
 zac .lss false t20 t19 fun t21 =>
 zag t21
 (zaj 7 t18 t20 fun t22 =>
 zad true 7 t22 H fun t23 =>
 zau [(.str []), .snil, .snil, (.int .i64 0), (.int .i64 0), .snil, (.int .i64 0)] H fun t7 H =>
 zak 7 t7 t23 H fun H =>
 zaf 1 t7 fun t25 =>
 zad false 1 t25 H fun t26 =>
 aCallV tP t5 [t26] H fun t27 H =>
 aUn .not t27 fun t28 =>
 zab t28 false H (fun K' => K' t5 H) fun t30 H =>
 zab t28 false H (fun K' => zaf 2 t7 (K' · H)) fun t31 H =>
 zab t28 false H (fun K' => zad false 1 t31 H (K' · H)) fun t32 H =>
 zab t28 false H (fun K' => aCallV tP t30 [t32] H K') fun t33 H =>
 zab t28 false H (fun K' => aUn .not t33 (K' · H)) fun t34 H =>
 zai t28 (.bool true) t34 fun t35 =>
 zag t35
 (K (.bool false) H)
 (zac .add false t20 (.int .i64 1) fun t36 =>
 Kb5 (zpu t1 t4 t5 t18 t19 t36) H))
 (zaf 3 t1 fun t37 =>
 zad false 1 t37 H fun t38 =>
 zah 1 t38 fun t39 =>
 zw1 t1 t4 t5 t38 t39 (.int .i64 0) H K)
def zwW (t0 : AV) (H : zaa) (K : Kt) : Prop :=
 zao t0 H fun t1 H =>
 zaf 2 t1 fun t12 =>
 zad false 1 t12 H fun t13 =>
 zah 1 t13 fun t14 =>
 zbp 1 [(.bool false)] t14 t14 H fun t15 H =>
 zau [.snil] H fun t3 H =>
 zak 1 t3 t15 H fun H =>
 zau [(.int .i64 0)] H fun t4 H =>
 zak 1 t4 (.int .i64 0) H fun H =>
 zb2 zBs [t3, t4] fun t16 =>
 zaf 1 t1 fun t17 =>
 zad false 1 t17 H fun t18 =>
 zah 1 t18 fun t19 =>
 zw2 t1 t4 t16 t18 t19 (.int .i64 0) H K
theorem zHa {t1 t4 t5 t38 t39 t40 : AV} {H : zaa} {K : Kt} (Inv : Nat → AV → zaa → Prop) (n : Nat) (h0 : HSc H → Inv n t40 H)
  (round : Rd1 (fun t40 => zw0 t1 t4 t5 t38 t39 t40) (fun t40 => fun H Kb11 => zwY t1 t4 t5 t38 t39 t40 H K Kb11) H Inv) : zw1 t1 t4 t5 t38 t39 t40 H K :=
 lp1 (M := zeo) zw3 t40 (by kernel_rfl) Inv n h0 round
theorem zHb {t1 t4 t5 t18 t19 t20 : AV} {H : zaa} {K : Kt} (Inv : Nat → AV → zaa → Prop) (n : Nat) (h0 : HSc H → Inv n t20 H)
  (round : Rd1 (fun t20 => zpu t1 t4 t5 t18 t19 t20) (fun t20 => fun H Kb5 => zwZ t1 t4 t5 t18 t19 t20 H K Kb5) H Inv) : zw2 t1 t4 t5 t18 t19 t20 H K :=
 lp1 (M := zeo) zHc t20 (by kernel_rfl) Inv n h0 round
theorem zHd {t0 : AV} {H : zaa} {K : Kt} (h : HSc H → zwW t0 H K) : ACalls tP zm9 [t0] H K :=
 zam (M := zeo) Tryz.func162 (c := zhk) (by kernel_rfl) (fun hs => Eq.mpr (by kernel_rfl) (h hs))
def zj3 : Nat → List Bool
 | 6 => rl false [4,2,9,3,25]
 | _ => []
noncomputable def zpv : Code := Tryz.f163.body.getD .skip
noncomputable def zHj : List ResultVar := Tryz.f163.results.toList
def zpw (t4 t5 t15 t16 t17 : AV) : List AV := ux 4 (t4 :: t5 :: ux 9 (t15 :: t16 :: t17 :: ux 25 []))
def zHh : List Bool := zj3 6
noncomputable def zHf : Code := zas [1, 1, 1, 1, 1, 0, 1, 0, 0] zpv
def zHe (K : Kt) : AExit → List AV → zaa → Prop := zat tP zj3 [1, 1, 1, 1, 1, 0, 1, 0] zpv (zaA tP zHj K)
def zw7 (t4 t5 t15 t16 t17 : AV) (H : zaa) (K : Kt) : Prop := ALoop tP zHf (zHe K) (zpw t4 t5 t15 t16 t17) H
def zw6 (t4 t5 t15 t16 t17 : AV) (H : zaa) (K : Kt) (Kb6 : Lt) : Prop :=
 zac .lss false t17 t16 fun t18 =>
 zag t18
 (zaj 7 t15 t17 fun t19 =>
 zad true 7 t19 H fun t20 =>
 zau [(.str []), .snil, .snil, (.int .i64 0), (.int .i64 0), .snil, (.int .i64 0)] H fun t7 H =>
 zak 7 t7 t20 H fun H =>
 zad false 1 t4 H fun t21 =>
 zaf 1 t7 fun t22 =>
 zad false 1 t22 H fun t23 =>
 aCallV tP t21 [t23, (.bool true)] H fun t24 H =>
 zad false 1 t4 H fun t25 =>
 zaf 2 t7 fun t26 =>
 zad false 1 t26 H fun t27 =>
 aCallV tP t25 [t27, (.bool true)] H fun t28 H =>
 zad false 1 t5 H fun t29 =>
 zaf 6 t7 fun t30 =>
 zad false 1 t30 H fun t31 =>
 aCallV tP t29 [t31] H fun t32 H =>
 aUn .not t32 fun t33 =>
 zag t33
 (K (.bool false) H)
 (zad false 1 t4 H fun t34 =>
 zaf 1 t7 fun t35 =>
 zad false 1 t35 H fun t36 =>
 aCallV tP t34 [t36, (.bool false)] H fun t37 H =>
 zad false 1 t4 H fun t38 =>
 zaf 2 t7 fun t39 =>
 zad false 1 t39 H fun t40 =>
 aCallV tP t38 [t40, (.bool false)] H fun t41 H =>
 zac .add false t17 (.int .i64 1) fun t42 =>
 Kb6 (zpw t4 t5 t15 t16 t42) H))
 (K (.bool true) H)
def zw5 (t0 : AV) (H : zaa) (K : Kt) : Prop :=
 zao t0 H fun t1 H =>
 zaf 2 t1 fun t8 =>
 zad false 1 t8 H fun t9 =>
 zah 1 t9 fun t10 =>
 zbp 1 [(.bool false)] t10 t10 H fun t11 H =>
 zau [.snil] H fun t3 H =>
 zak 1 t3 t11 H fun H =>
 zb2 zBt [t3] fun t12 =>
 zau [.nilfn] H fun t4 H =>
 zak 1 t4 t12 H fun H =>
 zau [.nilfn] H fun t5 H =>
 zb2 zBu [t1, t3, t4, t5] fun t13 =>
 zak 1 t5 t13 H fun H =>
 zaf 1 t1 fun t14 =>
 zad false 1 t14 H fun t15 =>
 zah 1 t15 fun t16 =>
 zw7 t4 t5 t15 t16 (.int .i64 0) H K
theorem zHg {t4 t5 t15 t16 t17 : AV} {H : zaa} {K : Kt} (Inv : Nat → AV → zaa → Prop) (n : Nat) (h0 : HSc H → Inv n t17 H)
  (round : Rd1 (fun t17 => zpw t4 t5 t15 t16 t17) (fun t17 => fun H Kb6 => zw6 t4 t5 t15 t16 t17 H K Kb6) H Inv) : zw7 t4 t5 t15 t16 t17 H K :=
 lp1 (M := zj3) zHh t17 (by kernel_rfl) Inv n h0 round
theorem zHi {t0 : AV} {H : zaa} {K : Kt} (h : HSc H → zw5 t0 H K) : ACalls tP zna [t0] H K :=
 zam (M := zj3) Tryz.func163 (c := zpv) (by kernel_rfl) (fun hs => Eq.mpr (by kernel_rfl) (h hs))
def zeY : Nat → List Bool
 | 3 => rl false [1,1,1,1,12,3,30]
 | 9 => rl false [3,1,24,3,18]
 | _ => []
noncomputable def zhl : Code := Tryz.f164.body.getD .skip
noncomputable def zxd : List ResultVar := Tryz.f164.results.toList
def zpx (t1 t3 t16 t17 t18 : AV) : List AV := ux 1 (t1 :: ux 1 (t3 :: ux 12 (t16 :: t17 :: t18 :: ux 30 [])))
def zHq : List Bool := zeY 3
noncomputable def zHm : Code := zas [1, 1, 0, 1, 0, 0] zhl
def zHk (K : Kt) : AExit → List AV → zaa → Prop := zat tP zeY [1, 1, 0, 1, 0] zhl (zaA tP zxd K)
def zxb (t1 t3 t16 t17 t18 : AV) (H : zaa) (K : Kt) : Prop := ALoop tP zHm (zHk K) (zpx t1 t3 t16 t17 t18) H
def zpy (t3 t28 t29 t30 : AV) : List AV := ux 3 (t3 :: ux 24 (t28 :: t29 :: t30 :: ux 18 []))
def zHr : List Bool := zeY 9
noncomputable def zHn : Code := zas [1, 1, 1, 0, 1, 0, 0] zhl
def zHl (K : Kt) : AExit → List AV → zaa → Prop := zat tP zeY [1, 1, 1, 0, 1, 0] zhl (zaA tP zxd K)
def zxc (t3 t28 t29 t30 : AV) (H : zaa) (K : Kt) : Prop := ALoop tP zHn (zHl K) (zpy t3 t28 t29 t30) H
def zxa (t3 t28 t29 t30 : AV) (H : zaa) (K : Kt) (Kb9 : Lt) : Prop :=
 zac .lss false t30 t29 fun t31 =>
 zag t31
 (zaj 7 t28 t30 fun t33 =>
 zad true 7 t33 H fun t34 =>
 zau [(.str []), .snil, .snil, (.int .i64 0), (.int .i64 0), .snil, (.int .i64 0)] H fun t7 H =>
 zak 7 t7 t34 H fun H =>
 zaf 0 t7 fun t35 =>
 zad false 1 t35 H fun t36 =>
 zac .eql false t36 (.str []) fun t37 =>
 zab t37 true H (fun K' => K' t3 H) fun t39 H =>
 zab t37 true H (fun K' => za3 t39 (K' · H)) fun t40 H =>
 zab t37 true H (fun K' => zaf 4 t40 (K' · H)) fun t41 H =>
 zab t37 true H (fun K' => zad false 1 t41 H (K' · H)) fun t42 H =>
 zab t37 true H (fun K' => K' t30 H) fun t43 H =>
 zab t37 true H (fun K' => zaj 1 t42 t43 (K' · H)) fun t44 H =>
 zab t37 true H (fun K' => zad false 1 t44 H (K' · H)) fun t45 H =>
 zab t37 true H (fun K' => zac .neq false t45 (.int .i64 1) (K' · H)) fun t46 H =>
 zai t37 t46 (.bool false) fun t47 =>
 zag t47
 (K (.bool false) H)
 (zac .add false t30 (.int .i64 1) fun t48 =>
 Kb9 (zpy t3 t28 t29 t48) H))
 (K (.bool true) H)
def zw9 (t1 t3 t16 t17 t18 : AV) (H : zaa) (K : Kt) (Kb3 : Lt) : Prop :=
 zac .lss false t18 t17 fun t19 =>
 zag t19
 (zaj 8 t16 t18 fun t20 =>
 zad true 8 t20 H fun t21 =>
 zau [(.int .i64 0), (.int .i64 0), .snil, .snil, .snil, (.int .i64 0), (.int .i64 0), .snil] H fun t5 H =>
 zak 8 t5 t21 H fun H =>
 zad true 8 t5 H fun t23 =>
 ACalls tP zBv [t3, t23] H fun t24 H =>
 aUn .not t24 fun t25 =>
 zag t25
 (K (.bool false) H)
 (zac .add false t18 (.int .i64 1) fun t26 =>
 Kb3 (zpx t1 t3 t16 t17 t26) H))
 (zaf 1 t1 fun t27 =>
 zad false 1 t27 H fun t28 =>
 zah 1 t28 fun t29 =>
 zxc t3 t28 t29 (.int .i64 0) H K)
def zw8 (t0 : AV) (H : zaa) (K : Kt) : Prop :=
 zao t0 H fun t1 H =>
 zae H (fun K' => zal true 4 t1 H (K' · H)) fun t8 =>
 zae H (fun K' => zaf 1 t1 (K' · H)) fun t9 =>
 zae H (fun K' => zal false 1 t9 H (K' · H)) fun t10 =>
 zae H (fun K' => zah 1 t10 (K' · H)) fun t11 =>
 zbp 8 [(.int .i64 0)] t11 t11 H fun t12 H =>
 zae H (fun K' => zax [.snil, .snil, .snil, .snil, .snil] [(0, 4), (4, 1)] [(0, t8), (1, t12)] (K' · H)) fun t13 =>
 zao t13 H fun t14 H =>
 zae H (fun K' => K' t14 H) fun t3 =>
 zaf 3 t1 fun t15 =>
 zad false 1 t15 H fun t16 =>
 zah 1 t16 fun t17 =>
 zxb t1 t3 t16 t17 (.int .i64 0) H K
theorem zHp {t3 t28 t29 t30 : AV} {H : zaa} {K : Kt} (Inv : Nat → AV → zaa → Prop) (n : Nat) (h0 : HSc H → Inv n t30 H)
  (round : Rd1 (fun t30 => zpy t3 t28 t29 t30) (fun t30 => fun H Kb9 => zxa t3 t28 t29 t30 H K Kb9) H Inv) : zxc t3 t28 t29 t30 H K :=
 lp1 (M := zeY) zHr t30 (by kernel_rfl) Inv n h0 round
theorem zHo {t1 t3 t16 t17 t18 : AV} {H : zaa} {K : Kt} (Inv : Nat → AV → zaa → Prop) (n : Nat) (h0 : HSc H → Inv n t18 H)
  (round : Rd1 (fun t18 => zpx t1 t3 t16 t17 t18) (fun t18 => fun H Kb3 => zw9 t1 t3 t16 t17 t18 H K Kb3) H Inv) : zxb t1 t3 t16 t17 t18 H K :=
 lp1 (M := zeY) zHq t18 (by kernel_rfl) Inv n h0 round
theorem zHs {t0 : AV} {H : zaa} {K : Kt} (h : HSc H → zw8 t0 H K) : ACalls tP znb [t0] H K :=
 zam (M := zeY) Tryz.func164 (c := zhl) (by kernel_rfl) (fun hs => Eq.mpr (by kernel_rfl) (h hs))
end Go.Proofs.YtjkkonpjecoieaaGreat

