import Derived.Test.YtacebbdfgbfgiaaGreatKNum
import Derived.Test.YtacebbdfgbfgiaaGreatProg
import Derived.KernelRfl
import Derived.Test.YtacebbdfgbfgiaaGreatKGY3
set_option linter.unusedSimpArgs false
set_option linter.unusedVariables false
namespace Go.Proofs.YtacebbdfgbfgiaaGreat
open Go Go.Abs
set_option maxRecDepth 100000
def zdY : Nat → List Bool
 | 6 => rl false [0,2,6,1,38,3,56]
 | 10 => rl false [0,2,6,2,37,3,28,3,25]
 | _ => []
noncomputable def zlQ : Code := Tryz.f53.body.getD .skip
noncomputable def zAf : List ResultVar := Tryz.f53.results.toList
def zh2 (t0 t1 t8 t47 t48 t49 : AV) : List AV := t0 :: t1 :: ux 6 (t8 :: ux 38 (t47 :: t48 :: t49 :: ux 56 []))
def zqY : List Bool := zdY 6
noncomputable def zlR : Code := zap [1, 1, 1, 1, 0, 1, 0, 0] zlQ
def zqW (K : Kt) : AExit → List AV → zaa → Prop := zaq tP zdY [1, 1, 1, 1, 0, 1, 0] zlQ (zax tP zAf K)
def zqX (t0 t1 t8 t47 t48 t49 : AV) (H : zaa) (K : Kt) : Prop := ALoop tP zlR (zqW K) (zh2 t0 t1 t8 t47 t48 t49) H
def zh1 (t0 t1 t8 t9 t47 t48 t49 t78 t79 t80 : AV) : List AV := t0 :: t1 :: ux 6 (t8 :: t9 :: ux 37 (t47 :: t48 :: t49 :: ux 28 (t78 :: t79 :: t80 :: ux 25 [])))
def zAd : List Bool := zdY 10
noncomputable def zAa : Code := zap [1, 1, 0, 0, 1, 1, 1, 0, 0] zlR
def zz9 (K : Kt) (Kb6 : Lt) : AExit → List AV → zaa → Prop := zaq tP zdY [1, 1, 0, 0, 1, 1, 1, 0] zlR (zby zqY Kb6 (zqW K))
def zlT (t0 t1 t8 t9 t47 t48 t49 t78 t79 t80 : AV) (H : zaa) (K : Kt) (Kb6 : Lt) : Prop := ALoop tP zAa (zz9 K Kb6) (zh1 t0 t1 t8 t9 t47 t48 t49 t78 t79 t80) H
def zlS (t0 t1 t8 t9 t47 t48 t49 t78 t79 t80 : AV) (H : zaa) (K : Kt) (Kb6 : Lt) (Kb10 : Lt) : Prop :=
 zac .add false t80 (.int .i64 1) fun t103 =>
 Kb10 (zh1 t0 t1 t8 t9 t47 t48 t49 t78 t79 t103) H
def zeD (t0 t1 t8 t9 t47 t48 t49 t78 t79 t80 : AV) (H : zaa) (K : Kt) (Kb6 : Lt) (Kb10 : Lt) : Prop :=
 zlS t0 t1 t8 t9 t47 t48 t49 t78 t79 t80 H K Kb6 Kb10
def zeC (t0 t1 t8 t9 t47 t48 t49 t78 t79 t80 : AV) (H : zaa) (K : Kt) (Kb6 : Lt) (Kb10 : Lt) : Prop :=
 zac .lss false t80 t79 fun t81 =>
 zag t81
 (zaj 3 t78 t80 fun t83 =>
 zad true 3 t83 H fun t84 =>
 zau [(.int .i64 0), (.int .i64 0), .snil] H fun t12 H =>
 zak 3 t12 t84 H fun H =>
 zaf 0 t12 fun t85 =>
 zad false 1 t85 H fun t86 =>
 zac .neq false t86 (.int .i64 4) fun t87 =>
 zab t87 false H (fun K' => zaf 1 t12 (K' · H)) fun t89 H =>
 zab t87 false H (fun K' => zad false 1 t89 H (K' · H)) fun t90 H =>
 zab t87 false H (fun K' => K' t80 H) fun t91 H =>
 zab t87 false H (fun K' => zac .neq false t90 t91 (K' · H)) fun t92 H =>
 zai t87 (.bool true) t92 fun t93 =>
 zab t93 false H (fun K' => zaf 2 t12 (K' · H)) fun t95 H =>
 zab t93 false H (fun K' => zad false 1 t95 H (K' · H)) fun t96 H =>
 zab t93 false H (fun K' => zah 1 t96 (K' · H)) fun t97 H =>
 zab t93 false H (fun K' => zac .gtr false t97 (.int .i64 0) (K' · H)) fun t98 H =>
 zai t93 (.bool true) t98 fun t99 =>
 zag t99
 (zaj 1 t8 t9 fun t102 =>
 zak 1 t102 (.bool false) H fun H =>
 zeD t0 t1 t8 t9 t47 t48 t49 t78 t79 t80 H K Kb6 Kb10)
 (zeD t0 t1 t8 t9 t47 t48 t49 t78 t79 t80 H K Kb6 Kb10))
 (zac .add false t49 (.int .i64 1) fun t104 =>
 Kb6 (zh2 t0 t1 t8 t47 t48 t104) H)
def zfy (t0 t1 t8 t47 t48 t49 : AV) (H : zaa) (K : Kt) (Kb6 : Lt) : Prop :=
 zac .lss false t49 t48 fun t50 =>
 zag t50
 (zaj 3 t47 t49 fun t52 =>
 zad true 3 t52 H fun t53 =>
 zau [(.int .i64 0), (.int .i64 0), .snil] H fun t10 H =>
 zak 3 t10 t53 H fun H =>
 zae H (fun K' => K' t8 H) fun t54 =>
 zae H (fun K' => K' t49 H) fun t55 =>
 zae H (fun K' => zaf 0 t10 (K' · H)) fun t56 =>
 zae H (fun K' => zam false 1 t56 H (K' · H)) fun t57 =>
 zae H (fun K' => zac .eql false t57 (.int .i64 5) (K' · H)) fun t58 =>
 zae H (fun K' => K' t58 H) fun t59 =>
 zab t59 true H (fun K' => zae H (fun K'' => zaf 1 t10 (K'' · H)) (K' · H)) fun t60 H =>
 zab t59 true H (fun K' => zae H (fun K'' => zam false 1 t60 H (K'' · H)) (K' · H)) fun t61 H =>
 zab t59 true H (fun K' => zae H (fun K'' => K'' t1 H) (K' · H)) fun t62 H =>
 zab t59 true H (fun K' => zae H (fun K'' => zac .eql false t61 t62 (K'' · H)) (K' · H)) fun t63 H =>
 zae H (fun K' => zai t59 t63 (.bool false) (K' · H)) fun t64 =>
 zae H (fun K' => K' t64 H) fun t65 =>
 zab t65 true H (fun K' => zae H (fun K'' => zaf 2 t10 (K'' · H)) (K' · H)) fun t66 H =>
 zab t65 true H (fun K' => zae H (fun K'' => zam false 1 t66 H (K'' · H)) (K' · H)) fun t67 H =>
 zab t65 true H (fun K' => zae H (fun K'' => zah 1 t67 (K'' · H)) (K' · H)) fun t68 H =>
 zab t65 true H (fun K' => zae H (fun K'' => K'' t0 H) (K' · H)) fun t69 H =>
 zab t65 true H (fun K' => zae H (fun K'' => K'' t1 H) (K' · H)) fun t70 H =>
 zab t65 true H (fun K' => zae H (fun K'' => zaj 3 t69 t70 (K'' · H)) (K' · H)) fun t71 H =>
 zab t65 true H (fun K' => zae H (fun K'' => zaf 1 t71 (K'' · H)) (K' · H)) fun t72 H =>
 zab t65 true H (fun K' => zae H (fun K'' => zam false 1 t72 H (K'' · H)) (K' · H)) fun t73 H =>
 zab t65 true H (fun K' => zae H (fun K'' => zac .eql false t68 t73 (K'' · H)) (K' · H)) fun t74 H =>
 zae H (fun K' => zai t65 t74 (.bool false) (K' · H)) fun t75 =>
 zae H (fun K' => zaj 1 t54 t55 (K' · H)) fun t76 =>
 zak 1 t76 t75 H fun H =>
 zaf 2 t10 fun t77 =>
 zad false 1 t77 H fun t78 =>
 zah 1 t78 fun t79 =>
 zlT t0 t1 t8 t49 t47 t48 t49 t78 t79 (.int .i64 0) H K Kb6)
 (K t8 H)
def zqV (t0 t1 t2 : AV) (H : zaa) (K : Kt) : Prop :=
 zac .lss false t1 (.int .i64 0) fun t14 =>
 zab t14 false H (fun K' => K' t1 H) fun t16 H =>
 zab t14 false H (fun K' => K' t0 H) fun t17 H =>
 zab t14 false H (fun K' => zah 1 t17 (K' · H)) fun t18 H =>
 zab t14 false H (fun K' => zac .geq false t16 t18 (K' · H)) fun t19 H =>
 zai t14 (.bool true) t19 fun t20 =>
 zab t20 false H (fun K' => K' t2 H) fun t22 H =>
 zab t20 false H (fun K' => zac .lss false t22 (.int .i64 0) (K' · H)) fun t23 H =>
 zai t20 (.bool true) t23 fun t24 =>
 zab t24 false H (fun K' => K' t2 H) fun t26 H =>
 zab t24 false H (fun K' => K' t0 H) fun t27 H =>
 zab t24 false H (fun K' => K' t1 H) fun t28 H =>
 zab t24 false H (fun K' => zaj 3 t27 t28 (K' · H)) fun t29 H =>
 zab t24 false H (fun K' => zaf 2 t29 (K' · H)) fun t30 H =>
 zab t24 false H (fun K' => zad false 1 t30 H (K' · H)) fun t31 H =>
 zab t24 false H (fun K' => zah 1 t31 (K' · H)) fun t32 H =>
 zab t24 false H (fun K' => zac .geq false t26 t32 (K' · H)) fun t33 H =>
 zai t24 (.bool true) t33 fun t34 =>
 zag t34
 (K .snil H)
 (zaj 3 t0 t1 fun t37 =>
 zaf 2 t37 fun t38 =>
 zad false 1 t38 H fun t39 =>
 zaj 2 t39 t2 fun t41 =>
 zaf 1 t41 fun t42 =>
 zad false 1 t42 H fun t43 =>
 zah 1 t43 fun t45 =>
 zbm 1 [(.bool false)] t45 t45 H fun t46 H =>
 zah 1 t43 fun t48 =>
 zqX t0 t1 t46 t43 t48 (.int .i64 0) H K)
theorem zAb {t0 t1 t8 t9 t47 t48 t49 t78 t79 t80 : AV} {H : zaa} {K : Kt} {Kb6 : Lt} (Inv : Nat → AV → zaa → Prop) (n : Nat) (h0 : HSc H → Inv n t80 H)
  (round : Rd1 (fun t80 => zh1 t0 t1 t8 t9 t47 t48 t49 t78 t79 t80) (fun t80 => fun H Kb10 => zeC t0 t1 t8 t9 t47 t48 t49 t78 t79 t80 H K Kb6 Kb10) H Inv) : zlT t0 t1 t8 t9 t47 t48 t49 t78 t79 t80 H K Kb6 :=
 lp1 (M := zdY) zAd t80 (by kernel_rfl) Inv n h0 round
theorem zAc {t0 t1 t8 t47 t48 t49 : AV} {H : zaa} {K : Kt} (Inv : Nat → AV → zaa → Prop) (n : Nat) (h0 : HSc H → Inv n t49 H)
  (round : Rd1 (fun t49 => zh2 t0 t1 t8 t47 t48 t49) (fun t49 => fun H Kb6 => zfy t0 t1 t8 t47 t48 t49 H K Kb6) H Inv) : zqX t0 t1 t8 t47 t48 t49 H K :=
 lp1 (M := zdY) zqY t49 (by kernel_rfl) Inv n h0 round
theorem zAe {t0 t1 t2 : AV} {H : zaa} {K : Kt} (h : HSc H → zqV t0 t1 t2 H K) : ACalls tP zdl [t0, t1, t2] H K :=
 zal (M := zdY) Tryz.func53 (c := zlQ) (by kernel_rfl) (fun hs => Eq.mpr (by kernel_rfl) (h hs))
def zwB (_ : Nat) : List Bool := []
noncomputable def zwC : Code := Tryz.f123.body.getD .skip
def zpR (t0 t1 : AV) (H : zaa) (K : Kt) : Prop :=
 zao t0 H fun t2 H =>
 zao t1 H fun t3 H =>
 zaf 0 t2 fun t5 =>
 zad false 1 t5 H fun t6 =>
 zac .eql false t6 (.int .i64 5) fun t7 =>
 zab t7 true H (fun K' => zaf 1 t2 (K' · H)) fun t9 H =>
 zab t7 true H (fun K' => zad false 1 t9 H (K' · H)) fun t10 H =>
 zab t7 true H (fun K' => zad false 1 t3 H (K' · H)) fun t11 H =>
 zab t7 true H (fun K' => zac .eql false t10 t11 (K' · H)) fun t12 H =>
 zai t7 t12 (.bool false) fun t13 =>
 zab t13 false H (fun K' => zaf 2 t2 (K' · H)) fun t15 H =>
 zab t13 false H (fun K' => zad false 1 t15 H (K' · H)) fun t16 H =>
 zab t13 false H (fun K' => zbQ zf3 [t3] (K' · H)) fun t17 H =>
 zab t13 false H (fun K' => ACalls tP zdL [t16, t17] H K') fun t18 H =>
 zai t13 (.bool true) t18 fun t19 =>
 K t19 H
theorem zwD {t0 t1 : AV} {H : zaa} {K : Kt} (h : HSc H → zpR t0 t1 H K) : ACalls tP zf1 [t0, t1] H K :=
 zal (M := zwB) Tryz.func123 (c := zwC) (by kernel_rfl) (fun hs => Eq.mpr (by kernel_rfl) (h hs))
def zwV (_ : Nat) : List Bool := []
noncomputable def zwW : Code := Tryz.f137.body.getD .skip
def zpX (t0 t1 : AV) (H : zaa) (K : Kt) : Prop :=
 zao t0 H fun t2 H =>
 zad true 3 t2 H fun t4 =>
 zad false 1 t1 H fun t5 =>
 ACalls tP zf1 [t4, t5] H fun t6 H =>
 K t6 H
theorem zwX {t0 t1 : AV} {H : zaa} {K : Kt} (h : HSc H → zpX t0 t1 H K) : ACalls tP zf3 [t0, t1] H K :=
 zal (M := zwV) Tryz.func137 (c := zwW) (by kernel_rfl) (fun hs => Eq.mpr (by kernel_rfl) (h hs))
def ziu : Nat → List Bool
 | 4 => rl false [3,1,3,1,50]
 | _ => []
noncomputable def zmd : Code := Tryz.f84.body.getD .skip
noncomputable def zBH : List ResultVar := Tryz.f84.results.toList
def ziv (t3 t7 : AV) : List AV := ux 3 (t3 :: ux 3 (t7 :: ux 50 []))
def zBF : List Bool := ziu 4
noncomputable def zBD : Code := zap [1, 1, 0, 1, 0, 0] zmd
def zBC (K : Kt) : AExit → List AV → zaa → Prop := zaq tP ziu [1, 1, 0, 1, 0] zmd (zax tP zBH K)
def zrw (t3 t7 : AV) (H : zaa) (K : Kt) : Prop := ALoop tP zBD (zBC K) (ziv t3 t7) H
def zeE (t3 t7 : AV) (H : zaa) (K : Kt) (Kb4 : Lt) : Prop :=
 zaf 2 t3 fun t25 =>
 zad false 1 t25 H fun t26 =>
 zah 1 t26 fun t27 =>
 zac .lss false t7 t27 fun t28 =>
 zag t28
 (zaf 2 t3 fun t31 =>
 zad false 1 t31 H fun t32 =>
 zaj 3 t32 t7 fun t34 =>
 zaf 0 t34 fun t35 =>
 zad false 1 t35 H fun t36 =>
 zac .neq false t36 (.int .i64 4) fun t37 =>
 zab t37 false H (fun K' => zaf 2 t3 (K' · H)) fun t39 H =>
 zab t37 false H (fun K' => zad false 1 t39 H (K' · H)) fun t40 H =>
 zab t37 false H (fun K' => K' t7 H) fun t41 H =>
 zab t37 false H (fun K' => zaj 3 t40 t41 (K' · H)) fun t42 H =>
 zab t37 false H (fun K' => zaf 1 t42 (K' · H)) fun t43 H =>
 zab t37 false H (fun K' => zad false 1 t43 H (K' · H)) fun t44 H =>
 zab t37 false H (fun K' => K' t7 H) fun t45 H =>
 zab t37 false H (fun K' => zac .neq false t44 t45 (K' · H)) fun t46 H =>
 zai t37 (.bool true) t46 fun t47 =>
 zab t47 false H (fun K' => zaf 2 t3 (K' · H)) fun t49 H =>
 zab t47 false H (fun K' => zad false 1 t49 H (K' · H)) fun t50 H =>
 zab t47 false H (fun K' => K' t7 H) fun t51 H =>
 zab t47 false H (fun K' => zaj 3 t50 t51 (K' · H)) fun t52 H =>
 zab t47 false H (fun K' => zaf 2 t52 (K' · H)) fun t53 H =>
 zab t47 false H (fun K' => zad false 1 t53 H (K' · H)) fun t54 H =>
 zab t47 false H (fun K' => zah 1 t54 (K' · H)) fun t55 H =>
 zab t47 false H (fun K' => zac .gtr false t55 (.int .i64 0) (K' · H)) fun t56 H =>
 zai t47 (.bool true) t56 fun t57 =>
 zag t57
 (K (.bool false) H)
 (zac .add false t7 (.int .i64 1) fun t30 =>
 Kb4 (ziv t3 t30) H))
 (K (.bool true) H)
def zrv (t0 t1 t2 : AV) (H : zaa) (K : Kt) : Prop :=
 zao t0 H fun t3 H =>
 zaf 0 t3 fun t8 =>
 zad false 1 t8 H fun t9 =>
 zac .neq false t9 (.int .i64 5) fun t10 =>
 zab t10 false H (fun K' => zaf 1 t3 (K' · H)) fun t12 H =>
 zab t10 false H (fun K' => zad false 1 t12 H (K' · H)) fun t13 H =>
 zab t10 false H (fun K' => K' t1 H) fun t14 H =>
 zab t10 false H (fun K' => zac .neq false t13 t14 (K' · H)) fun t15 H =>
 zai t10 (.bool true) t15 fun t16 =>
 zab t16 false H (fun K' => zaf 2 t3 (K' · H)) fun t18 H =>
 zab t16 false H (fun K' => zad false 1 t18 H (K' · H)) fun t19 H =>
 zab t16 false H (fun K' => zah 1 t19 (K' · H)) fun t20 H =>
 zab t16 false H (fun K' => K' t2 H) fun t21 H =>
 zab t16 false H (fun K' => zac .neq false t20 t21 (K' · H)) fun t22 H =>
 zai t16 (.bool true) t22 fun t23 =>
 zag t23
 (K (.bool false) H)
 (zrw t3 (.int .i64 0) H K)
theorem zBE {t3 t7 : AV} {H : zaa} {K : Kt} (Inv : Nat → AV → zaa → Prop) (n : Nat) (h0 : HSc H → Inv n t7 H)
  (round : Rd1 (fun t7 => ziv t3 t7) (fun t7 => fun H Kb4 => zeE t3 t7 H K Kb4) H Inv) : zrw t3 t7 H K :=
 lp1 (M := ziu) zBF t7 (by kernel_rfl) Inv n h0 round
theorem zBG {t0 t1 t2 : AV} {H : zaa} {K : Kt} (h : HSc H → zrv t0 t1 t2 H K) : ACalls tP zgo [t0, t1, t2] H K :=
 zal (M := ziu) Tryz.func84 (c := zmd) (by kernel_rfl) (fun hs => Eq.mpr (by kernel_rfl) (h hs))
end Go.Proofs.YtacebbdfgbfgiaaGreat

namespace Go.Proofs.YtacebbdfgbfgiaaGreat
open Go Go.Abs
set_option maxRecDepth 8000
theorem zqR : ∀ (m : Nat) (v : VT), v.nodes ≤ m → ∀ (left : Int), left ≤ 1000000 → -1 ≤ left → ∀ (H : zaa) (id : Nat), H[id]? = some (.cells [.int .i64 left]) → ∀ (K : AV → zaa → Prop),
  ((v.nodes : Int) ≤ left → K (.bool true) (H.set id (.cells [.int .i64 (left - v.nodes)]))) → (¬ (v.nodes : Int) ≤ left → ∀ l', K (.bool false) (H.set id (.cells [.int .i64 l']))) →
  ACalls tP zfc [.agg v.cs, .ptr id 0] H K := by
 intro m
 induction m with
 | zero => intro v h; have := v.nodes_pos; omega
 | succ m ih =>
  intro v hv left hl1 hl0 H id hid K hK hF
  obtain ⟨k, n, ks⟩ := v
  have hlt := zeg hid
  have hnn : (VT.mk k n ks).nodes = VT.nodesL ks + 1 := by simp [VT.nodes]
  refine ACalls.out (zzJ fun hs => ?_)
  have hget : (H ++ [AB.cells [.int .i64 k, .int .i64 n, .sl (VT.css ks) .none]])[id]? = some (.cells [.int .i64 left]) := zct hid
  have bad : (¬ ((VT.mk k n ks).nodes : Int) ≤ left) → ∀ l' H', H' = H.set id (.cells [.int .i64 l']) ++ [.cells [.int .i64 k, .int .i64 n, .sl (VT.css ks) .none]] → Out H.length K (.bool false) H' := by
   intro h l' H' he
   exact Out.bool he (by simp) (hs.set rfl) (hF h l')
  simp [zqP, VT.cs, hget, AV.known]
  rw [zan (by omega) (by omega), zcQ _ hid, zct (zcp _ hid)]
  by_cases h0 : left - 1 < 0
  ·simp [h0]
   exact bad (by omega) _ _ rfl
  ·simp [h0]
   refine zzH (Inv := fun q t5 H' => ∃ i : Nat, i ≤ ks.length ∧ q = ks.length - i ∧ t5 = .int .i64 i ∧ ((VT.nodesL (ks.take i) : Int) + 1 ≤ left) ∧ H' = H.set id (.cells [.int .i64 (left - 1 - VT.nodesL (ks.take i))]) ++ [.cells [.int .i64 k, .int .i64 n, .sl (VT.css ks) .none]]) ks.length ?_ ?_
   ·intro _; exact ⟨0, by omega, by omega, rfl, by simp [VT.nodesL]; omega, by simp [VT.nodesL]⟩
   ·rintro q t5 H' ⟨i, hi, rfl, rfl, hb, rfl⟩ hsc hlen hsF Kb hKb
    by_cases hil : i < ks.length
    ·have hki := VT.kid_lt (k := k) (n := n) hil
     have h1 := VT.nodesL_take hil
     have h2 := VT.nodesL_take_le ks (i + 1)
     have hll := VT.len_le (ks.take i)
     simp only [List.length_take] at hll
     have hge : (H.set id (.cells [.int .i64 (left - 1 - VT.nodesL (ks.take i))]) ++ [AB.cells [.int .i64 k, .int .i64 n, .sl (VT.css ks) .none]])[id]? = some (.cells [.int .i64 (left - 1 - VT.nodesL (ks.take i))]) := zct (zcp _ hid)
     simp [zlD, hil]
     refine ih ks[i] (by omega) (left - 1 - VT.nodesL (ks.take i)) (by omega) (by omega) _ id hge _ ?_ ?_
     ·intro hle
      rw [zcQ _ (zcp _ hid), List.set_set]
      simp
      rw [zan (by omega) (by omega)]
      refine hKb _ _ ⟨ks.length - (i + 1), by omega, Back.here (by simp) ((hs.set rfl).snoc rfl) ?_ ⟨_, rfl, i + 1, by omega, rfl, by simp, by omega, ?_⟩⟩
      ·simp [zhT, AV.sc, AV.scV, AV.scA, AV.scB]; omega
      ·rw [h1]; congr 5; omega
     ·intro hle l'
      rw [zcQ _ (zcp _ hid), List.set_set]
      simp
      exact bad (by omega) _ _ rfl
    ·obtain rfl : i = ks.length := by omega
     rw [List.take_length] at hb ⊢
     simp [zlD]
     refine Out.bool rfl (by simp) (hs.set rfl) ?_
     have := hK (by omega)
     rw [hnn] at this
     rw [show left - 1 - (VT.nodesL ks : Int) = left - ((VT.nodesL ks + 1 : Nat) : Int) by omega]
     exact this
theorem zx2 (v : VT) (H : zaa) (K : AV → zaa → Prop) (hK : ∀ b, (b = true → v.nodes ≤ 250) → K (.bool b) H) : ACalls tP zjJ [.agg v.cs] H K := by
 refine ACalls.out (zx1 fun hs => ?_)
 simp [zql, AV.known]
 refine zqR _ v (Nat.le_refl _) 250 (by omega) (by omega) _ (H.length + 1) (by simp) _ ?_ ?_
 ·intro h
  exact Out.bool (J := [_, _]) (by simp; exact ⟨rfl, rfl⟩) (Nat.le_refl _) hs (hK true fun _ => by omega)
 ·intro h l'
  exact Out.bool (J := [_, _]) (by simp; exact ⟨rfl, rfl⟩) (Nat.le_refl _) hs (hK false fun h => by cases h)
end Go.Proofs.YtacebbdfgbfgiaaGreat
namespace Go.Proofs.YtacebbdfgbfgiaaGreat
open Go Go.Abs
set_option maxRecDepth 8000
theorem zqM : ∀ (m : Nat) (v : VT), v.nodes ≤ m → v.nodes ≤ 1000000000 → ∀ (H : zaa) (K : AV → zaa → Prop), K (.int .i64 v.nodes) H → ACalls tP zfb [.agg v.cs] H K := by
 intro m
 induction m with
 | zero => intro v h; have := v.nodes_pos; omega
 | succ m ih =>
  intro v hv hb H K hK
  obtain ⟨k, n, ks⟩ := v
  have hnl : VT.nodesL ks + 1 ≤ 1000000000 := by simpa [VT.nodes] using hb
  have hll := VT.len_le ks
  refine ACalls.out (zzs fun hs => ?_)
  simp [VT.cs, zqK]
  refine zzq (Inv := fun q t3 t4 H' => ∃ i : Nat, i ≤ ks.length ∧ q = ks.length - i ∧ t4 = .int .i64 i ∧ t3 = .int .i64 (1 + VT.nodesL (ks.take i) : Nat) ∧ H' = H ++ [.cells [.int .i64 k, .int .i64 n, .sl (VT.css ks) .none]]) ks.length ?_ ?_
  ·intro _; exact ⟨0, by omega, by omega, rfl, by simp [VT.nodesL], rfl⟩
  ·rintro q t3 t4 H' ⟨i, hi, rfl, rfl, rfl, rfl⟩ hsc hlen hsF Kb hKb
   by_cases hlt : i < ks.length
   ·have hki := VT.kid_lt (k := k) (n := n) hlt
    have h1 := VT.nodesL_take hlt
    have h2 := VT.nodesL_take_le ks (i + 1)
    simp [zlz, hlt]
    refine ih ks[i] (by omega) (by omega) _ _ ?_
    simp
    rw [zan (by omega) (by omega), zan (by omega) (by omega)]
    refine hKb _ _ ⟨ks.length - (i + 1), by omega, Back.here (by simp) hsc ?_ ⟨_, _, rfl, i + 1, by omega, rfl, by simp, ?_, rfl⟩⟩
    ·simp [zhO, AV.sc, AV.scV, AV.scA, AV.scB]
    ·rw [h1]; congr 1; omega
   ·obtain rfl : i = ks.length := by omega
    simp [zlz]
    refine Out.int rfl (Nat.le_refl _) hs ?_
    simpa [VT.nodes, Int.add_comm] using hK
theorem zBW (data : List Dat) (hdl : data.length ≤ 1000000) (vars : Int) : ∀ (m : Nat) (v : VT), v.nodes ≤ m → v.nodes ≤ 1000000000 → ∀ (H : zaa) (K : AV → zaa → Prop), K (.bool (zaH data vars v)) H → ACalls tP zgp [.sl (data.map Dat.cs) .none, .agg v.cs, .int .i64 vars] H K := by
 intro m
 induction m with
 | zero => intro v h; have := v.nodes_pos; omega
 | succ m ih =>
  intro v hv hb H K hK
  obtain ⟨k, n, ks⟩ := v
  have hnl : VT.nodesL ks + 1 ≤ 1000000000 := by simpa [VT.nodes] using hb
  have hll := VT.len_le ks
  refine ACalls.out (zBU fun hs => ?_)
  have hO : ∀ J, Out H.length K (.bool (zaO data vars k n ks.length && zaL data vars ks)) (H ++ J) := fun J => Out.bool rfl (Nat.le_refl _) hs (by simpa [zaH] using hK)
  have hF : zaO data vars k n ks.length = false → ∀ J, Out H.length K (.bool false) (H ++ J) := fun h J => by have := hO J; rwa [h, Bool.false_and] at this
  have loop : zaO data vars k n ks.length = true → zmk (.sl (data.map Dat.cs) .none) (.int .i64 vars) (.ptr H.length 0) (.int .i64 ks.length) (.int .i64 0) (H ++ [.cells [.int .i64 k, .int .i64 n, .sl (VT.css ks) .none]]) (Out H.length K) := by
   intro hsh
   rw [hsh] at hO
   simp only [Bool.true_and] at hO
   refine zBS (Inv := fun q t8 H' => ∃ i : Nat, i ≤ ks.length ∧ q = ks.length - i ∧ t8 = .int .i64 i ∧ zaL data vars (ks.drop i) = zaL data vars ks ∧ H' = H ++ [.cells [.int .i64 k, .int .i64 n, .sl (VT.css ks) .none]]) ks.length ?_ ?_
   ·intro _; exact ⟨0, by omega, by omega, rfl, by simp, rfl⟩
   ·rintro q t8 H' ⟨i, hi, rfl, rfl, ho, rfl⟩ hsc hlen hsF Kb hKb
    by_cases hlt : i < ks.length
    ·have hki := VT.kid_lt (k := k) (n := n) hlt
     rw [List.drop_eq_getElem_cons hlt, zaL] at ho
     simp [zmi, hlt]
     refine ih ks[i] (by omega) (by omega) _ _ ?_
     cases hb : zaH data vars ks[i] with
     | false =>
      rw [hb, Bool.false_and] at ho
      rw [← ho] at hO
      simp
      exact hO _
     | true =>
      rw [hb, Bool.true_and] at ho
      simp
      rw [zan (by omega) (by omega)]
      refine hKb _ _ ⟨ks.length - (i + 1), by omega, Back.here (by simp) hsc ?_ ⟨_, rfl, i + 1, by omega, rfl, by simp, ho, rfl⟩⟩
      simp [ziz, AV.sc, AV.scV, AV.scA, AV.scB]
    ·obtain rfl : i = ks.length := by omega
     rw [List.drop_length, zaL] at ho
     rw [← ho] at hO
     simp [zmi]
     exact hO _
  have prim : (k = 1 ∨ k = 2 ∨ k = 3) → Out H.length K (.bool (n == 0 && ks.length == 0)) (H ++ [.cells [.int .i64 k, .int .i64 n, .sl (VT.css ks) .none]]) := by
   intro h
   have hsh : zaO data vars k n ks.length = (n == 0 && ks.length == 0) := by rcases h with rfl | rfl | rfl <;> rfl
   have := hO [.cells [.int .i64 k, .int .i64 n, .sl (VT.css ks) .none]]
   rw [hsh] at this
   cases ks with
   | nil => simpa [zaL] using this
   | cons x l => simpa using this
  by_cases h123 : k = 1 ∨ k = 2 ∨ k = 3
  ·have := prim h123
   cases hn : (n == 0) with
   | false => rw [hn, Bool.false_and] at this; rcases h123 with rfl | rfl | rfl <;> simp [zbP, VT.cs, zbg, hn] <;> exact this
   | true =>
    rw [hn, Bool.true_and] at this
    have e : ((ks.length : Int) == 0) = (ks.length == 0) := by rw [Bool.eq_iff_iff]; simp
    rw [← e] at this
    rcases h123 with rfl | rfl | rfl <;> simp only [zbP, VT.cs] <;> simp [zbg, hn] <;> simpa using this
  by_cases h4 : k = 4
  ·subst h4
   have hsh : zaO data vars 4 n ks.length = (decide (0 ≤ n) && decide (n < vars) && ks.length == 0) := rfl
   have hO' : ∀ J, Out H.length K (.bool (decide (0 ≤ n) && decide (n < vars) && ks.length == 0)) (H ++ J) := fun J => by
    have := hO J
    rw [hsh] at this
    cases ks with
    | nil => simpa [zaL] using this
    | cons x l => simpa using this
   have e : ((ks.length : Int) == 0) = (ks.length == 0) := by rw [Bool.eq_iff_iff]; simp
   rw [← e] at hO'
   by_cases g1 : 0 ≤ n
   ·by_cases g2 : n < vars
    ·simp only [zbP, VT.cs]
     simp [zbg, g1, g2]
     simpa [g1, g2] using hO' _
    ·simp only [zbP, VT.cs]
     simp [zbg, g1, g2]
     simpa [g1, g2] using hO' _
   ·simp only [zbP, VT.cs]
    simp [zbg, g1]
    simpa [g1] using hO' _
  by_cases h5 : k = 5
  ·subst h5
   have hsh : zaO data vars 5 n ks.length = (decide (0 ≤ n) && (match data[n.toNat]? with | some d => (ks.length : Int) == d.vars | none => false)) := rfl
   by_cases g1 : 0 ≤ n
   ·have g1' : ¬ n < 0 := by omega
    by_cases g2 : n < data.length
    ·have hnl : n.toNat < data.length := by omega
     have g2' : ¬ (data.length : Int) ≤ n := by omega
     have hat : (data.map Dat.cs)[n.toNat]?.getD [] = [.str data[n.toNat].name, .int .i64 data[n.toNat].vars, .sl (data[n.toNat].cons.map Con.cs) .none] := by simp [hnl, Dat.cs]
     rw [List.getElem?_eq_getElem hnl] at hsh
     simp only [g1, decide_true, Bool.true_and] at hsh
     cases hv : ((ks.length : Int) == data[n.toNat].vars) with
     | false =>
      rw [hv] at hsh
      have hv' : ((ks.length : Int) != data[n.toNat].vars) = true := by simp [bne, hv]
      simp only [zbP, VT.cs]
      simp [zbg, g1', g2', g1, g2, hnl, Dat.cs, hv']
      exact hF hsh _
     | true =>
      rw [hv] at hsh
      have hv' : ((ks.length : Int) != data[n.toNat].vars) = false := by simp [bne, hv]
      simp only [zbP, VT.cs]
      simp [zbg, g1', g2', g1, g2, hnl, Dat.cs, hv', zdw, zfz]
      exact loop hsh
    ·have g2' : (data.length : Int) ≤ n := by omega
     rw [List.getElem?_eq_none (by omega)] at hsh
     simp only [zbP, VT.cs]
     simp [zbg, g1', g2']
     exact hF (by rw [hsh]; simp) _
   ·have g1' : n < 0 := by omega
    simp only [zbP, VT.cs]
    simp [zbg, g1']
    exact hF (by rw [hsh]; simp [g1]) _
  by_cases h6 : k = 6
  ·subst h6
   have hsh : zaO data vars 6 n ks.length = (n == 0 && decide (2 ≤ ks.length) && decide (ks.length ≤ 6)) := rfl
   simp only [zbP, VT.cs]
   cases hn : (n == 0) with
   | false =>
    have : (n != 0) = true := by simp [bne, hn]
    simp [zbg, this]
    exact hF (by rw [hsh, hn]; rfl) _
   | true =>
    have hn' : (n != 0) = false := by simp [bne, hn]
    by_cases g1 : ks.length < 2
    ·have : (ks.length : Int) < 2 := by omega
     simp [zbg, hn', this]
     exact hF (by rw [hsh]; simp; omega) _
    ·have g1' : ¬ (ks.length : Int) < 2 := by omega
     by_cases g2 : 6 < ks.length
     ·have : (6 : Int) < ks.length := by omega
      simp [zbg, hn', g1', this]
      exact hF (by rw [hsh]; simp; omega) _
     ·have : ¬ (6 : Int) < ks.length := by omega
      simp [zbg, hn', g1', this, zdw, zfz]
      exact loop (by rw [hsh, hn]; simp; omega)
  by_cases h78 : k = 7 ∨ k = 8
  ·have hsh : zaO data vars k n ks.length = (n == 0 && ks.length == 1) := by rcases h78 with rfl | rfl <;> rfl
   cases hn : (n == 0) with
   | false =>
    have : (n != 0) = true := by simp [bne, hn]
    have fin := hF (by rw [hsh, hn]; rfl)
    simp only [zbP, VT.cs]
    rcases h78 with rfl | rfl <;> simp [zbg, zcO, this] <;> exact fin _
   | true =>
    have hn' : (n != 0) = false := by simp [bne, hn]
    by_cases g1 : ks.length = 1
    ·have g1' : ((ks.length : Int) != 1) = false := by simp [g1]
     have fin := loop (by rw [hsh, hn, g1]; rfl)
     simp only [zbP, VT.cs]
     rcases h78 with rfl | rfl <;> simp [zbg, zcO, hn', g1', zdw, zfz] <;> exact fin
    ·have g1' : ((ks.length : Int) != 1) = true := by simp; omega
     have fin := hF (by rw [hsh]; simp [g1])
     simp only [zbP, VT.cs]
     rcases h78 with rfl | rfl <;> simp [zbg, zcO, hn', g1'] <;> exact fin _
  have b1 : (k == 1) = false := by simp; omega
  have b2 : (k == 2) = false := by simp; omega
  have b3 : (k == 3) = false := by simp; omega
  have b4 : (k == 4) = false := by simp; omega
  have b5 : (k == 5) = false := by simp; omega
  have b6 : (k == 6) = false := by simp; omega
  have b7 : (k == 7) = false := by simp; omega
  have b8 : (k == 8) = false := by simp; omega
  by_cases h9 : k = 9
  ·subst h9
   have hsh : zaO data vars 9 n ks.length = (n == 0 && decide (1 ≤ ks.length) && decide (ks.length ≤ 7)) := rfl
   simp only [zbP, VT.cs]
   cases hn : (n == 0) with
   | false =>
    have : (n != 0) = true := by simp [bne, hn]
    simp [zbg, zcO, this]
    exact hF (by rw [hsh, hn]; rfl) _
   | true =>
    have hn' : (n != 0) = false := by simp [bne, hn]
    by_cases g1 : ks.length < 1
    ·have : (ks.length : Int) < 1 := by omega
     simp [zbg, zcO, hn', this]
     exact hF (by rw [hsh]; simp; omega) _
    ·have g1' : ¬ (ks.length : Int) < 1 := by omega
     by_cases g2 : 7 < ks.length
     ·have : (7 : Int) < ks.length := by omega
      simp [zbg, zcO, hn', g1', this]
      exact hF (by rw [hsh]; simp; omega) _
     ·have : ¬ (7 : Int) < ks.length := by omega
      simp [zbg, zcO, hn', g1', this, zdw, zfz]
      exact loop (by rw [hsh, hn]; simp; omega)
  ·have b9 : (k == 9) = false := by simp; omega
   simp only [zbP, VT.cs]
   simp [zbg, zcO, b1, b2, b3, b4, b5, b6, b7, b8, b9]
   exact hF (by unfold zaO; simp [b1, b2, b3, b4, b5, b6, b7, b8, b9]) _
theorem zrg (data : List Dat) (hdl : data.length ≤ 1000000) (vars : Int) (v : VT) (hb : v.nodes ≤ 1000000000) (H : zaa) (K : AV → zaa → Prop) (hK : K (.bool (za6 data vars v)) H) : ACalls tP zgh [.sl (data.map Dat.cs) .none, .agg v.cs, .int .i64 vars] H K := by
 refine ACalls.out (zAK fun hs => ?_)
 have hO : ∀ J, Out H.length K (.bool (za6 data vars v)) (H ++ J) := fun J => Out.bool rfl (Nat.le_refl _) hs hK
 unfold za6 at hO
 simp [zrf]
 refine zqM _ v (Nat.le_refl _) hb _ _ ?_
 by_cases h : v.nodes ≤ 200
 ·have h' : (v.nodes : Int) ≤ 200 := by omega
  simp [h']
  refine zBW data hdl vars _ v (Nat.le_refl _) hb _ _ ?_
  simpa [h] using hO _
 ·have h' : ¬ (v.nodes : Int) ≤ 200 := by omega
  simp [h']
  simpa [h] using hO _
def zbi (es : List (List AV)) (id : Nat) : AV := match es with | [] => .snil | _ => .sl es (.own id)
def zbX (e s : Nat) (n : Nat) : zaa := match n with | 0 => [] | n => [.perm e s n]
theorem zsG (es : List (List AV)) (id : Nat) : WkA (zbi es id) (.sl es .none) := by
 cases es with
 | nil => exact .snil
 | cons e es => exact .sl _ _
theorem zm5 (es : List (List AV)) {id n : Nat} (h : es = [] ∨ id < n) : (zbi es id).scA n = true := by
 cases es with
 | nil => rfl
 | cons e es =>
  rcases h with h | h
  ·cases h
  ·simpa [zbi, AV.scA, AV.scB] using h
theorem zsF (es : List (List AV)) (id : Nat) : (zbi es id).known = true := by cases es <;> rfl
theorem zsE (es : List (List AV)) (id : Nat) : (zbi es id).cs? = some [zbi es id] := by cases es <;> rfl
theorem zsH {e s bytes : Nat} {es : List (List AV)} {y : List AV} {t : Tok} {H : zaa} {K : AV → zaa → Prop} (hy : y.length = s) (hb : (es.length + 1) * bytes ≤ 140737488355328) (hl : es.length + 1 ≤ 9223372036854775807)
  (hk : K (zbi (es ++ [y]) H.length) (H ++ zbX e s (es.length + 1))) : zar e s bytes (zbi es H.length) (.sl [y] t) (H ++ zbX e s es.length) K := by
 unfold zar zaW
 refine ⟨by simpa using hy, ?_⟩
 cases es with
 | nil =>
  unfold zaF
  simp [zbi, zbX] at *
  exact ⟨by omega, hk⟩
 | cons x es =>
  unfold zaF
  simp [zbi, zbX] at *
  refine ⟨⟨by omega, by omega⟩, hk⟩
theorem zm6 {e s bytes id n : Nat} {es : List (List AV)} {y : List AV} {t : Tok} {H0 Hh : zaa} {K : AV → zaa → Prop} (hn : n = es.length) (he : Hh = H0 ++ zbX e s n) (hid : id = H0.length) (hy : y.length = s) (hb : (es.length + 1) * bytes ≤ 140737488355328) (hl : es.length + 1 ≤ 9223372036854775807)
  (hk : K (zbi (es ++ [y]) id) (H0 ++ zbX e s (n + 1))) : zar e s bytes (zbi es id) (.sl [y] t) Hh K := by
 subst he hid hn
 exact zsH hy hb hl hk
@[simp] theorem zF5 (es : List (List AV)) (id : Nat) : (zbi es id).cs? = some [zbi es id] := zsE es id
@[simp] theorem zF6 (es : List (List AV)) (id : Nat) : (zbi es id).known = true := zsF es id
theorem zdD {v : VT} {k : AV → Prop} : zaw 3 [.int .i64 0, .int .i64 0, .snil] 1 [(0, .agg v.cs)] k = k (.sl [v.cs] .full) := by
 cases v
 exact propext Iff.rfl
theorem zeS {l : List VT} {i : Nat} (h : i < l.length) : VT.css (l.take (i + 1)) = VT.css (l.take i) ++ [(l[i]).cs] := by
 rw [VT.css_map, VT.css_map, List.take_succ_eq_append_getElem h, List.map_append]
 rfl
theorem zoq {H J : zaa} {K : AV → zaa → Prop} {k n : Int} {ks : List VT} {id : Nat} (hs : HSc H) (hK : K (.agg (VT.mk k n ks).cs) H) : Out H.length K (.agg [.int .i64 k, .int .i64 n, zbi (VT.css ks) id]) (H ++ J) :=
 Out.at rfl (Nat.le_refl _) hs (WkV.agg (ds := [.int .i64 k, .int .i64 n, .sl (VT.css ks) .none]) ⟨.refl _, .refl _, zsG _ _, trivial⟩) rfl (by simp [AV.scV, AV.scA, AV.scB]) (by simpa [VT.cs] using hK)
theorem zs7 : ∀ (m : Nat) (v : VT), v.nodes ≤ m → v.nodes ≤ 1000000 → ∀ (H : zaa) (K : AV → zaa → Prop), K (.agg v.cs) H → ACalls tP zgj [.agg v.cs] H K := by
 intro m
 induction m with
 | zero => intro v h; have := v.nodes_pos; omega
 | succ m ih =>
  intro v hv hb H K hK
  obtain ⟨k, n, ks⟩ := v
  have hnl : VT.nodesL ks + 1 ≤ 1000000 := by simpa [VT.nodes] using hb
  have hll := VT.len_le ks
  refine ACalls.out (zA2 fun hs => ?_)
  simp [VT.cs, zrk, zav, zaV, Nat.add_assoc]
  refine zA0 (Inv := fun q t4 H' => ∃ i : Nat, i ≤ ks.length ∧ q = ks.length - i ∧ t4 = .int .i64 i ∧ H' = H ++ [.cells [.int .i64 k, .int .i64 n, .sl (VT.css ks) .none], .cells [.int .i64 0, .int .i64 0, .snil], .cells [.int .i64 k, .int .i64 n, zbi (VT.css (ks.take i)) (H.length + 3)]] ++ zbX zaK 3 i) ks.length ?_ ?_
  ·intro _; exact ⟨0, by omega, by omega, rfl, by simp [zbX, zbi, VT.css]⟩
  ·rintro q t4 H' ⟨i, hi, rfl, rfl, rfl⟩ hsc hlen hsF Kb hKb
   by_cases hlt : i < ks.length
   ·have hki := VT.kid_lt (k := k) (n := n) hlt
    simp [zl8, hlt]
    refine zbL (.agg (ks[i]).cs) (fun J => ih ks[i] (by omega) (by omega) _ _ ⟨rfl, rfl⟩) ?_
    rw [zdD]
    refine zm6 (H0 := H ++ [.cells [.int .i64 k, .int .i64 n, .sl (VT.css ks) .none], .cells [.int .i64 0, .int .i64 0, .snil], .cells [.int .i64 k, .int .i64 n, zbi (VT.css (ks.take i)) (H.length + 3)]]) (n := i) (by simp; omega) (by simp) (by simp) (by simp) (by simp; omega) (by simp; omega) ?_
    rw [← zeS hlt]
    simp
    rw [zan (by omega) (by omega)]
    refine hKb _ _ ⟨ks.length - (i + 1), by omega, Back.here (by simp [zbX]) ?_ ?_ ⟨_, rfl, i + 1, by omega, rfl, by simp, by simp⟩⟩
    ·refine hs.append ?_
     simp [AB.sc, zbX, AV.scA, AV.scB]
     exact zm5 _ (.inr (by omega))
    ·simp [zim, AV.sc, AV.scV, AV.scA, AV.scB]
   ·obtain rfl : i = ks.length := by omega
    rw [List.take_length] at *
    simp [zl8]
    exact zoq hs hK
theorem zc2 (args : List VT) : ∀ l : List VT, zaB args l = l.map (subst args)
 | [] => rfl
 | t :: ts => by rw [zaB, zc2 args ts]; rfl
theorem zzk (args : List VT) (ha : ∀ x ∈ args, x.nodes ≤ 1000000) (hal : args.length ≤ 1000000) : ∀ (m : Nat) (v : VT), v.nodes ≤ m → v.nodes ≤ 1000000 → ∀ (H : zaa) (K : AV → zaa → Prop), K (.agg (subst args v).cs) H → ACalls tP zga [.agg v.cs, .sl (VT.css args) .none] H K := by
 intro m
 induction m with
 | zero => intro v h; have := v.nodes_pos; omega
 | succ m ih =>
  intro v hv hb H K hK
  obtain ⟨k, n, ks⟩ := v
  have hnl : VT.nodesL ks + 1 ≤ 1000000 := by simpa [VT.nodes] using hb
  have hll := VT.len_le ks
  refine ACalls.out (zzi fun hs => ?_)
  by_cases hvar : k = 4 ∧ 0 ≤ n ∧ n < args.length
  ·obtain ⟨rfl, h0, h1⟩ := hvar
   have hn : n.toNat < args.length := by omega
   have hK' : K (.agg (args[n.toNat]).cs) H := by
    rw [subst, if_pos ⟨rfl, h0, h1⟩, List.getElem?_eq_getElem hn] at hK
    exact hK
   simp [VT.cs, zlv, h0, h1, hn]
   refine zs7 _ _ (Nat.le_refl _) (ha _ (List.getElem_mem hn)) _ _ ?_
   generalize args[n.toNat] = x at *
   obtain ⟨k', n', ks'⟩ := x
   simp [VT.cs]
   exact Out.at rfl (Nat.le_refl _) hs .rfl' rfl rfl hK'
  ·have hK' : K (.agg (VT.mk k n (zaB args ks)).cs) H := by
    rw [subst, if_neg hvar] at hK
    exact hK
   have go : ∀ H1, H1 = H ++ [.cells [.int .i64 k, .int .i64 n, .sl (VT.css ks) .none], .cells [.int .i64 0, .int .i64 0, .snil], .cells [.int .i64 k, .int .i64 n, .snil]] → zly (.sl (VT.css args) .none) (.ptr H.length 0) (.ptr (H.length + 1) 0) (.ptr (H.length + 2) 0) (.int .i64 0) H1 (Out H.length K) := by
    rintro _ rfl
    refine zzg (Inv := fun q t6 H' => ∃ i : Nat, i ≤ ks.length ∧ q = ks.length - i ∧ t6 = .int .i64 i ∧ H' = H ++ [.cells [.int .i64 k, .int .i64 n, .sl (VT.css ks) .none], .cells [.int .i64 0, .int .i64 0, .snil], .cells [.int .i64 k, .int .i64 n, zbi (VT.css ((zaB args ks).take i)) (H.length + 3)]] ++ zbX zaK 3 i) ks.length ?_ ?_
    ·intro _; exact ⟨0, by omega, by omega, rfl, by simp [zbX, zbi, VT.css]⟩
    ·rintro q t6 H' ⟨i, hi, rfl, rfl, rfl⟩ hsc hlen hsF Kb hKb
     by_cases hlt : i < ks.length
     ·have hki := VT.kid_lt (k := k) (n := n) hlt
      have hlt' : i < (zaB args ks).length := by rw [zc2]; simpa using hlt
      have hsi : (zaB args ks)[i] = subst args ks[i] := by simp [zc2]
      simp [zlw, hlt]
      refine zbL (.agg (subst args ks[i]).cs) (fun J => ih ks[i] (by omega) (by omega) _ _ ⟨rfl, rfl⟩) ?_
      rw [zdD, ← hsi]
      refine zm6 (H0 := H ++ [.cells [.int .i64 k, .int .i64 n, .sl (VT.css ks) .none], .cells [.int .i64 0, .int .i64 0, .snil], .cells [.int .i64 k, .int .i64 n, zbi (VT.css ((zaB args ks).take i)) (H.length + 3)]]) (n := i) (by simp; omega) (by simp) (by simp) (by simp) (by simp; omega) (by simp; omega) ?_
      rw [← zeS hlt']
      simp
      rw [zan (by omega) (by omega)]
      refine hKb _ _ ⟨ks.length - (i + 1), by omega, Back.here (by simp [zbX]) ?_ ?_ ⟨_, rfl, i + 1, by omega, rfl, by simp, by simp⟩⟩
      ·refine hs.append ?_
       simp [AB.sc, zbX, AV.scA, AV.scB]
       exact zm5 _ (.inr (by omega))
      ·simp [zhM, AV.sc, AV.scV, AV.scA, AV.scB]
     ·obtain rfl : i = ks.length := by omega
      have e : (zaB args ks).take ks.length = zaB args ks := List.take_of_length_le (by rw [zc2]; simp)
      rw [e]
      simp [zlw]
      exact zoq hs hK'
   simp only [VT.cs, zlv]
   by_cases h4 : k = 4
   ·subst h4
    by_cases h0 : 0 ≤ n
    ·have h1 : ¬ n < args.length := fun h => hvar ⟨rfl, h0, h⟩
     simp [h0, h1, zav, zaV, Nat.add_assoc]
     exact go _ rfl
    ·simp [h0, zav, zaV, Nat.add_assoc]
     exact go _ rfl
   ·have h4' : (k == 4) = false := by simpa using h4
    simp [h4', zav, zaV, Nat.add_assoc]
    exact go _ rfl
mutual
theorem zo7 {args : List VT} {M : Nat} (h1 : 1 ≤ M) (ha : ∀ x ∈ args, x.nodes ≤ M) : ∀ v : VT, (subst args v).nodes ≤ v.nodes * M
 | .mk k n ks => by
  unfold subst
  split
  ·rename_i h
   have hn : n.toNat < args.length := by omega
   rw [List.getElem?_eq_getElem hn]
   have := ha _ (List.getElem_mem hn)
   have h2 : M ≤ (VT.mk k n ks).nodes * M := by
    have := (VT.mk k n ks).nodes_pos
    exact Nat.le_mul_of_pos_left M this
   simp only [Option.getD_some]
   omega
  ·have := zo4 h1 ha ks
   simp only [VT.nodes, Nat.succ_mul]
   omega
theorem zo4 {args : List VT} {M : Nat} (h1 : 1 ≤ M) (ha : ∀ x ∈ args, x.nodes ≤ M) : ∀ l : List VT, VT.nodesL (zaB args l) ≤ VT.nodesL l * M
 | [] => by simp [zaB, VT.nodesL]
 | t :: ts => by
  have h2 := zo7 h1 ha t
  have h3 := zo4 h1 ha ts
  simp only [zaB, VT.nodesL, Nat.add_mul]
  omega
end
theorem zjt {k n : Int} {ks : List VT} : ∀ x ∈ ks, x.nodes ≤ (VT.mk k n ks).nodes := by
 intro x hx
 obtain ⟨i, hi, rfl⟩ := List.mem_iff_getElem.1 hx
 exact Nat.le_of_lt (VT.kid_lt hi)
theorem zpg {H : zaa} {x y : AB} : H ++ [x, y] = (H ++ [x]) ++ [y] := by simp
theorem zb8 (data : List Dat) (k n : Int) (ks : List VT) (c : Int) : zaU data (.mk k n ks) c = (if k = 5 ∧ 0 ≤ n ∧ 0 ≤ c then
  match data[n.toNat]? with
  | some d => if (ks.length : Int) = d.vars then
    match d.cons[c.toNat]? with
    | some co => if (co.args.map (subst ks)).all (fun x => decide (x.nodes ≤ 200)) = true then some (co.args.map (subst ks)) else none
    | none => none
   else none
  | none => none
 else none) := rfl
def zbM (o : Option (List VT)) : AV := match o with
 | some l => .tup [.sl (VT.css l) .none, .bool true]
 | none => .tup [.sl [] .none, .bool false]
theorem zn6 {α : Type} {l : List α} {i : Nat} (h : i < l.length) {p : α → Prop} (h1 : ∀ x ∈ l.take i, p x) (h2 : p l[i]) : ∀ x ∈ l.take (i + 1), p x := by
 rw [List.take_succ_eq_append_getElem h]
 intro x hx
 rcases List.mem_append.1 hx with hx | hx
 ·exact h1 x hx
 ·simp at hx; subst hx; exact h2
theorem zbf (v : VT) : ∃ a b c, v.cs = [a, b, c] ∧ a.known = true ∧ b.known = true ∧ c.known = true := by
 obtain ⟨k, n, ks⟩ := v; exact ⟨_, _, _, rfl, rfl, rfl, rfl⟩
theorem zpZ (data : List Dat) (hdl : data.length ≤ 1000000) (hda : ∀ d ∈ data, ∀ c ∈ d.cons, c.args.length ≤ 1000 ∧ ∀ x ∈ c.args, x.nodes ≤ 1000) (hdc : ∀ d ∈ data, d.cons.length ≤ 1000000) (t : VT) (ht : t.nodes ≤ 1000) (c : Int) (H : zaa) (K : AV → zaa → Prop) (hK : K (zbM (zaU data t c)) H) :
  ACalls tP zf2 [.sl (data.map Dat.cs) .none, .agg t.cs, .int .i64 c] H K := by
 refine ACalls.out (zw5 fun hs => ?_)
 obtain ⟨k, n, ks⟩ := t
 have hkn : VT.nodesL ks + 1 ≤ 1000 := by simpa [VT.nodes] using ht
 have hkl := VT.len_le ks
 have hF : zaU data (.mk k n ks) c = none → ∀ J, Out H.length K (.tup [.snil, .bool false]) (H ++ J) := fun h J => by
  rw [h] at hK
  exact Out.tup hs hK ⟨zcw, zaM rfl rfl, trivial⟩
 have hFF : ∀ J, zaU data (.mk k n ks) c = none → Out H.length K (.tup [.snil, .bool false]) (H ++ J) := fun J h => hF h J
 simp only [VT.cs, zpU]
 by_cases h5 : k = 5
 case neg =>
  have : (k != 5) = true := by simpa using h5
  simp [this, AV.isV]
  exact hF (by rw [zb8, if_neg (fun h => h5 h.1)]) _
 subst h5
 by_cases h0 : n < 0
 ·simp [h0, AV.isV]
  exact hF (by rw [zb8, if_neg (fun h => by have := h.2.1; omega)]) _
 by_cases h1 : (data.length : Int) ≤ n
 ·simp [h0, h1, AV.isV]
  exact hF (by
   rw [zb8]
   split
   ·rw [List.getElem?_eq_none (by omega)]
   ·rfl) _
 have hn : n.toNat < data.length := by omega
 have h1' : n < data.length := by omega
 have h0' : 0 ≤ n := by omega
 generalize hdd : data[n.toNat] = d at *
 have hd : d ∈ data := by rw [← hdd]; exact List.getElem_mem hn
 have hget : data[n.toNat]? = some d := by rw [List.getElem?_eq_getElem hn, hdd]
 cases hv : ((ks.length : Int) == d.vars) with
 | false =>
  have hv' : ((ks.length : Int) != d.vars) = true := by simp [bne, hv]
  simp [h0, h1, h0', h1', hn, hdd, Dat.cs, hv', AV.isV, hget]
  exact hF (by
   rw [zb8]
   split
   ·rw [hget]
    simp only
    rw [if_neg (by simpa using hv)]
   ·rfl) _
 | true =>
 have hv' : ((ks.length : Int) != d.vars) = false := by simp [bne, hv]
 have hve : (ks.length : Int) = d.vars := by simpa using hv
 by_cases hc0 : c < 0
 ·simp [h0, h1, h0', h1', hn, hdd, Dat.cs, hv', AV.isV, hget, hc0]
  exact hF (by rw [zb8, if_neg (fun h => by have := h.2.2; omega)]) _
 have hfe : ∀ o, (match d.cons[c.toNat]? with | some k => if (k.args.map (subst ks)).all (fun x => decide (x.nodes ≤ 200)) = true then some (k.args.map (subst ks)) else none | none => none) = o → zaU data (.mk 5 n ks) c = o := fun o h => by
  rw [zb8, if_pos ⟨rfl, h0', by omega⟩, hget]
  simp only
  rw [if_pos hve]
  exact h
 by_cases hc1 : (d.cons.length : Int) ≤ c
 ·simp [h0, h1, h0', h1', hn, hdd, Dat.cs, hv', AV.isV, hget, hc0, hc1]
  exact hF (hfe none (by rw [List.getElem?_eq_none (by omega)])) _
 have hcn : c.toNat < d.cons.length := by omega
 have hc1' : c < d.cons.length := by omega
 have hc0' : 0 ≤ c := by omega
 generalize hcc : d.cons[c.toNat] = co at *
 have hco : co ∈ d.cons := by rw [← hcc]; exact List.getElem_mem hcn
 have hgc : d.cons[c.toNat]? = some co := by rw [List.getElem?_eq_getElem hcn, hcc]
 obtain ⟨hal, han⟩ := hda d hd co hco
 have hfe' := fun o => hfe o
 rw [hgc] at hfe'
 simp only at hfe'
 have hsub : ∀ x ∈ co.args, (subst ks x).nodes ≤ 1000000 := fun x hx => by
  have h2 := zo7 (M := 1000) (by omega) (fun y hy => Nat.le_trans (zjt (k := 5) (n := n) y hy) ht) x
  have h3 := han x hx
  have : x.nodes * 1000 ≤ 1000 * 1000 := Nat.mul_le_mul_right _ h3
  omega
 simp [h0, h1, h0', h1', hn, hdd, Dat.cs, hv', AV.isV, hget, hc0, hc1, hc0', hc1', hcn, hcc, Con.cs, hgc]
 have hperm : ∀ m, HSc (H ++ [.cells [.int .i64 5, .int .i64 n, .sl (VT.css ks) .none], .perm zaK 3 m]) := fun m => hs.append rfl
 unfold zhf
 refine ALoop.own 8 zaK 3 rfl ?_
 have hlen1 : (H ++ [AB.cells [.int .i64 5, .int .i64 n, .sl (VT.css ks) .none]]).length = H.length + 1 := by simp
 rw [hlen1, List.append_assoc]
 show zhf (.ptr H.length 0) (.sl [] (.own (H.length + 1))) (.sl (VT.css co.args) .none) (.int .i64 co.args.length) (.int .i64 0) (H ++ [.cells [.int .i64 5, .int .i64 n, .sl (VT.css ks) .none], .perm zaK 3 0]) (Out H.length K)
 refine zw3 (Inv := fun q t8 t65 H' => ∃ i : Nat, i ≤ co.args.length ∧ q = co.args.length - i ∧ t65 = .int .i64 i ∧ t8 = .sl (VT.css ((co.args.map (subst ks)).take i)) (.own (H.length + 1)) ∧ (∀ x ∈ co.args.take i, (subst ks x).nodes ≤ 200) ∧ H' = H ++ [.cells [.int .i64 5, .int .i64 n, .sl (VT.css ks) .none], .perm zaK 3 i]) co.args.length ?_ ?_
 ·intro _; exact ⟨0, by omega, by omega, rfl, by simp [VT.css], by simp, rfl⟩
 ·rintro q t8 t65 H' ⟨i, hi, rfl, rfl, rfl, hall, rfl⟩ hsc hlen hsF Kb hKb
  by_cases hlt : i < co.args.length
  ·have hmem := List.getElem_mem hlt
   have hx3 := hsub _ hmem
   obtain ⟨x, y, z, hvx, hx, hy, hz⟩ := zbf co.args[i]
   simp [zkY, hlt, hvx, hx, hy, hz]
   rw [← hvx]
   refine zzk ks (fun y hy => by have := zjt (k := 5) (n := n) y hy; omega) (by omega) _ co.args[i] (Nat.le_refl _) (by have := han _ hmem; omega) _ _ ?_
   obtain ⟨x', y', z', hvx', hx', hy', hz'⟩ := zbf (subst ks co.args[i])
   simp [hvx', hx', hy', hz']
   rw [← hvx']
   refine zqM _ _ (Nat.le_refl _) (by omega) _ _ ?_
   by_cases h200 : (subst ks co.args[i]).nodes ≤ 200
   ·have h200' : ¬ (200 : Int) < (subst ks co.args[i]).nodes := by omega
    simp [h200']
    rw [zdD]
    simp [zar, zaW, zaF]
    refine ⟨by omega, by omega, ?_⟩
    rw [zan (by omega) (by omega), show min i co.args.length = i by omega]
    refine hKb _ _ ⟨co.args.length - (i + 1), by omega, Back.at (H2 := H ++ [.cells [.int .i64 5, .int .i64 n, .sl (VT.css ks) .none], .perm zaK 3 (i + 1)]) (J := [_, _]) (by simp; exact ⟨rfl, rfl⟩) (by simp) (hperm _) ?_ ⟨_, _, rfl, i + 1, by omega, rfl, by simp, ?_, zn6 hlt hall h200, rfl⟩⟩
    ·simp [zhe, AV.sc, AV.scV, AV.scA, AV.scB]
    ·rw [zeS (by simpa using hlt)]; simp
   ·have h200' : (200 : Int) < (subst ks co.args[i]).nodes := by omega
    simp [h200', AV.isV]
    refine hF (hfe' none ?_) _
    rw [if_neg]
    intro hal2
    have := List.all_eq_true.1 hal2 (subst ks co.args[i]) (List.mem_map.2 ⟨_, hmem, rfl⟩)
    exact h200 (of_decide_eq_true this)
  ·obtain rfl : i = co.args.length := by omega
   rw [List.take_length] at hall
   rw [List.take_of_length_le (by simp)]
   simp [zkY, AV.isV]
   have hfs := hfe' (some (co.args.map (subst ks))) (if_pos (List.all_eq_true.2 fun y hy => by
    obtain ⟨x, hx, rfl⟩ := List.mem_map.1 hy
    exact decide_eq_true (hall x hx)))
   rw [hfs] at hK
   exact Out.tup hs hK ⟨slV, zaM rfl rfl, trivial⟩
end Go.Proofs.YtacebbdfgbfgiaaGreat
namespace Go.Proofs.YtacebbdfgbfgiaaGreat
open Go Go.Abs
set_option maxRecDepth 100000
def zxM (_ : Nat) : List Bool := []
noncomputable def zxN : Code := Tryz.f23.body.getD .skip
def zqd (t0 t1 : AV) (H : zaa) (K : Kt) : Prop :=
 zao t0 H fun t2 H =>
 zao t1 H fun t3 H =>
 zaf 0 t2 fun t5 =>
 zad false 1 t5 H fun t6 =>
 zaf 0 t3 fun t7 =>
 zad false 1 t7 H fun t8 =>
 zac .eql false t6 t8 fun t9 =>
 zab t9 true H (fun K' => zaf 1 t2 (K' · H)) fun t11 H =>
 zab t9 true H (fun K' => zad false 1 t11 H (K' · H)) fun t12 H =>
 zab t9 true H (fun K' => zaf 1 t3 (K' · H)) fun t13 H =>
 zab t9 true H (fun K' => zad false 1 t13 H (K' · H)) fun t14 H =>
 zab t9 true H (fun K' => ACalls tP ze7 [t12, t14] H K') fun t15 H =>
 zai t9 t15 (.bool false) fun t16 =>
 K t16 H
theorem zxO {t0 t1 : AV} {H : zaa} {K : Kt} (h : HSc H → zqd t0 t1 H K) : ACalls tP ze8 [t0, t1] H K :=
 zal (M := zxM) Tryz.func23 (c := zxN) (by kernel_rfl) (fun hs => Eq.mpr (by kernel_rfl) (h hs))
def zhl : Nat → List Bool
 | 4 => rl false [0,2,10,2,13]
 | _ => []
noncomputable def zk5 : Code := Tryz.f19.body.getD .skip
noncomputable def zxL : List ResultVar := Tryz.f19.results.toList
def zhm (t0 t1 t12 t13 : AV) : List AV := t0 :: t1 :: ux 10 (t12 :: t13 :: ux 13 [])
def zxJ : List Bool := zhl 4
noncomputable def zxH : Code := zap [1, 1, 0, 1, 0, 0] zk5
def zxG (K : Kt) : AExit → List AV → zaa → Prop := zaq tP zhl [1, 1, 0, 1, 0] zk5 (zax tP zxL K)
def zqb (t0 t1 t12 t13 : AV) (H : zaa) (K : Kt) : Prop := ALoop tP zxH (zxG K) (zhm t0 t1 t12 t13) H
def zk4 (t0 t1 t12 t13 : AV) (H : zaa) (K : Kt) (Kb4 : Lt) : Prop :=
 zac .lss false t13 t12 fun t14 =>
 zag t14
 (zae H (fun K' => K' t0 H) fun t16 =>
 zae H (fun K' => K' t13 H) fun t17 =>
 zae H (fun K' => zaj 2 t16 t17 (K' · H)) fun t18 =>
 zae H (fun K' => zam true 2 t18 H (K' · H)) fun t19 =>
 zae H (fun K' => K' t1 H) fun t20 =>
 zae H (fun K' => K' t13 H) fun t21 =>
 zae H (fun K' => zaj 2 t20 t21 (K' · H)) fun t22 =>
 zae H (fun K' => zam true 2 t22 H (K' · H)) fun t23 =>
 zbr H (fun H K' => ACalls tP ze8 [t19, t23] H K') fun t24 =>
 zae H (fun K' => aUn .not t24 (K' · H)) fun t25 =>
 zag t25
 (K (.bool false) H)
 (zac .add false t13 (.int .i64 1) fun t26 =>
 Kb4 (zhm t0 t1 t12 t26) H))
 (K (.bool true) H)
def zqa (t0 t1 : AV) (H : zaa) (K : Kt) : Prop :=
 zah 1 t0 fun t7 =>
 zah 1 t1 fun t9 =>
 zac .neq false t7 t9 fun t10 =>
 zag t10
 (K (.bool false) H)
 (zah 1 t0 fun t12 =>
 zqb t0 t1 t12 (.int .i64 0) H K)
theorem zxI {t0 t1 t12 t13 : AV} {H : zaa} {K : Kt} (Inv : Nat → AV → zaa → Prop) (n : Nat) (h0 : HSc H → Inv n t13 H)
  (round : Rd1 (fun t13 => zhm t0 t1 t12 t13) (fun t13 => fun H Kb4 => zk4 t0 t1 t12 t13 H K Kb4) H Inv) : zqb t0 t1 t12 t13 H K :=
 lp1 (M := zhl) zxJ t13 (by kernel_rfl) Inv n h0 round
theorem zxK {t0 t1 : AV} {H : zaa} {K : Kt} (h : HSc H → zqa t0 t1 H K) : ACalls tP ze7 [t0, t1] H K :=
 zal (M := zhl) Tryz.func19 (c := zk5) (by kernel_rfl) (fun hs => Eq.mpr (by kernel_rfl) (h hs))
def zwr (_ : Nat) : List Bool := []
noncomputable def zws : Code := Tryz.f13.body.getD .skip
def zpE (H : zaa) (K : Kt) : Prop :=
 zav [(.str []), .snil] [(0, 1), (1, 1)] [(0, (.str [67]))] fun t4 =>
 zaw 2 [(.str []), .snil] 1 [(0, t4)] fun t5 =>
 zav [(.str []), (.int .i64 0), .snil] [(0, 1), (1, 1), (2, 1)] [(0, (.str [68])), (2, t5)] fun t6 =>
 zaw 3 [(.str []), (.int .i64 0), .snil] 1 [(0, t6)] fun t7 =>
 zav [(.int .i64 0), (.int .i64 0), .snil] [(0, 1), (1, 1), (2, 1)] [(0, (.int .i64 5))] fun t10 =>
 zav [(.int .i64 0), .snil] [(0, 1), (1, 1)] [] fun t11 =>
 zaw 2 [(.int .i64 0), .snil] 1 [(0, t11)] fun t12 =>
 zav [(.int .i64 0), .snil] [(0, 1), (1, 1)] [(1, t12)] fun t13 =>
 ACalls tP zgl [t7, t10, (.int .i64 0), t13] H fun t14 H =>
 zat t14 0 fun t15 =>
 zat t14 1 fun t16 =>
 zac .eql false t16 (.int .i64 0) fun t18 =>
 zab t18 true H (fun K' => K' t15 H) fun t20 H =>
 zab t18 true H (fun K' => zah 1 t20 (K' · H)) fun t21 H =>
 zab t18 true H (fun K' => zac .eql false t21 (.int .i64 1) (K' · H)) fun t22 H =>
 zai t18 t22 (.bool false) fun t23 =>
 zab t23 true H (fun K' => K' t15 H) fun t25 H =>
 zab t23 true H (fun K' => zaj 1 t25 (.int .i64 0) (K' · H)) fun t26 H =>
 zab t23 true H (fun K' => zad false 1 t26 H (K' · H)) fun t27 H =>
 zab t23 true H (fun K' => zah 1 t27 (K' · H)) fun t28 H =>
 zab t23 true H (fun K' => zac .eql false t28 (.int .i64 0) (K' · H)) fun t29 H =>
 zai t23 t29 (.bool false) fun t30 =>
 K t30 H
theorem zwt {H : zaa} {K : Kt} (h : HSc H → zpE H K) : ACalls tP zjx [] H K :=
 zal (M := zwr) Tryz.func13 (c := zws) (by kernel_rfl) (fun hs => Eq.mpr (by kernel_rfl) (h hs))
def zBp (_ : Nat) : List Bool := []
noncomputable def zBq : Code := Tryz.f8.body.getD .skip
def zq6 (t0 t1 : AV) (H : zaa) (K : Kt) : Prop :=
 zao t1 H fun t3 H =>
 ACalls tP zjI [t0] H fun t6 H =>
 zab t6 true H (fun K' => zad true 3 t3 H (K' · H)) fun t8 H =>
 zab t6 true H (fun K' => ACalls tP zjJ [t8] H K') fun t9 H =>
 zai t6 t9 (.bool false) fun t10 =>
 K t10 H
theorem zBr {t0 t1 : AV} {H : zaa} {K : Kt} (h : HSc H → zq6 t0 t1 H K) : ACalls tP zjS [t0, t1] H K :=
 zal (M := zBp) Tryz.func8 (c := zBq) (by kernel_rfl) (fun hs => Eq.mpr (by kernel_rfl) (h hs))
def zzl (_ : Nat) : List Bool := []
noncomputable def zzm : Code := Tryz.f5.body.getD .skip
def zq3 (t0 t1 t2 : AV) (H : zaa) (K : Kt) : Prop :=
 zao t1 H fun t4 H =>
 zao t2 H fun t5 H =>
 zad true 3 t4 H fun t12 =>
 ACalls tP zjS [t0, t12] H fun t13 H =>
 aUn .not t13 fun t14 =>
 zab t14 false H (fun K' => zad true 2 t5 H (K' · H)) fun t16 H =>
 zab t14 false H (fun K' => ACalls tP zjX [t16] H K') fun t17 H =>
 zab t14 false H (fun K' => aUn .not t17 (K' · H)) fun t18 H =>
 zai t14 (.bool true) t18 fun t19 =>
 zag t19
 (K (.bool true) H)
 (zad true 3 t4 H fun t22 =>
 zad true 2 t5 H fun t23 =>
 ACalls tP zjG [t0, t22, t23] H fun t24 H =>
 zat t24 0 fun t25 =>
 zat t24 1 fun t26 =>
 zad true 3 t4 H fun t29 =>
 zad true 2 t5 H fun t30 =>
 ACalls tP zjH [t0, t29, t30] H fun t31 H =>
 zat t31 0 fun t32 =>
 zat t31 1 fun t33 =>
 zac .eql false t26 t33 fun t36 =>
 zab t36 true H (fun K' => K' t25 H) fun t38 H =>
 zab t36 true H (fun K' => K' t32 H) fun t39 H =>
 zab t36 true H (fun K' => ACalls tP ze7 [t38, t39] H K') fun t40 H =>
 zai t36 t40 (.bool false) fun t41 =>
 zab t41 true H (fun K' => ACalls tP zjx [] H K') fun t43 H =>
 zai t41 t43 (.bool false) fun t44 =>
 K t44 H)
theorem zzn {t0 t1 t2 : AV} {H : zaa} {K : Kt} (h : HSc H → zq3 t0 t1 t2 H K) : ACalls tP zjM [t0, t1, t2] H K :=
 zal (M := zzl) Tryz.func5 (c := zzm) (by kernel_rfl) (fun hs => Eq.mpr (by kernel_rfl) (h hs))
def zxy (_ : Nat) : List Bool := []
noncomputable def zxz : Code := Tryz.f17.body.getD .skip
def zp8 (t0 t1 t2 : AV) (H : zaa) (K : Kt) : Prop :=
 zao t1 H fun t4 H =>
 zao t2 H fun t5 H =>
 zad true 3 t4 H fun t9 =>
 zad true 2 t5 H fun t10 =>
 ACalls tP zf7 [t0, t9, t10] H fun t11 H =>
 aUn .not t11 fun t12 =>
 zag t12
 (zas [.snil, (.int .i64 1)] (K · H))
 (zaf 0 t4 fun t13 =>
 zad false 1 t13 H fun t14 =>
 zac .neq false t14 (.int .i64 6) fun t15 =>
 zag t15
 (zas [.snil, (.int .i64 6)] (K · H))
 (zad true 2 t5 H fun t16 =>
 ACalls tP zfa [t16] H fun t17 H =>
 zci false 1 1 t17 fun t18 =>
 zas [t18, (.int .i64 0)] (K · H)))
theorem zxA {t0 t1 t2 : AV} {H : zaa} {K : Kt} (h : HSc H → zp8 t0 t1 t2 H K) : ACalls tP zjG [t0, t1, t2] H K :=
 zal (M := zxy) Tryz.func17 (c := zxz) (by kernel_rfl) (fun hs => Eq.mpr (by kernel_rfl) (h hs))
def zxC (_ : Nat) : List Bool := []
noncomputable def zxD : Code := Tryz.f18.body.getD .skip
def zp9 (t0 t1 t2 : AV) (H : zaa) (K : Kt) : Prop :=
 zao t1 H fun t4 H =>
 zao t2 H fun t5 H =>
 zad true 3 t4 H fun t9 =>
 zad true 2 t5 H fun t10 =>
 ACalls tP zjO [t0, t9, t10] H fun t11 H =>
 aUn .not t11 fun t12 =>
 zag t12
 (zas [.snil, (.int .i64 1)] (K · H))
 (zaf 0 t4 fun t13 =>
 zad false 1 t13 H fun t14 =>
 zac .neq false t14 (.int .i64 6) fun t15 =>
 zag t15
 (zas [.snil, (.int .i64 6)] (K · H))
 (zad true 2 t5 H fun t16 =>
 ACalls tP zgb [t16] H fun t17 H =>
 zci false 1 1 t17 fun t18 =>
 zas [t18, (.int .i64 0)] (K · H)))
theorem zxE {t0 t1 t2 : AV} {H : zaa} {K : Kt} (h : HSc H → zp9 t0 t1 t2 H K) : ACalls tP zjH [t0, t1, t2] H K :=
 zal (M := zxC) Tryz.func18 (c := zxD) (by kernel_rfl) (fun hs => Eq.mpr (by kernel_rfl) (h hs))
def zh3 : Nat → List Bool
 | 4 => rl false [2,2,6,3,12]
 | _ => []
noncomputable def zlV : Code := Tryz.f54.body.getD .skip
noncomputable def zAl : List ResultVar := Tryz.f54.results.toList
def zh4 (t2 t3 t10 t11 t12 : AV) : List AV := ux 2 (t2 :: t3 :: ux 6 (t10 :: t11 :: t12 :: ux 12 []))
def zAj : List Bool := zh3 4
noncomputable def zAh : Code := zap [1, 1, 0, 1, 0, 1, 0, 0] zlV
def zAg (K : Kt) : AExit → List AV → zaa → Prop := zaq tP zh3 [1, 1, 0, 1, 0, 1, 0] zlV (zax tP zAl K)
def zh6 (t2 t3 t10 t11 t12 : AV) (H : zaa) (K : Kt) : Prop := ALoop tP zAh (zAg K) (zh4 t2 t3 t10 t11 t12) H
def zh5 (t2 t3 : AV) (H : zaa) (K : Kt) : Prop :=
 zad true 2 t3 H fun t24 =>
 zak 2 t2 t24 H fun H =>
 zad true 2 t2 H fun r0 =>
 K r0 H
def zlU (t2 t3 t10 t11 t12 : AV) (H : zaa) (K : Kt) (Kb4 : Lt) : Prop :=
 zac .lss false t12 t11 fun t13 =>
 zag t13
 (zaj 3 t10 t12 fun t14 =>
 zad true 3 t14 H fun t15 =>
 zau [(.int .i64 0), (.int .i64 0), .snil] H fun t5 H =>
 zak 3 t5 t15 H fun H =>
 zae H (fun K' => zaf 1 t3 (K' · H)) fun t16 =>
 zae H (fun K' => zam false 1 t16 H (K' · H)) fun t17 =>
 zae H (fun K' => zam true 3 t5 H (K' · H)) fun t18 =>
 zbr H (fun H K' => ACalls tP zge [t18] H K') fun t19 =>
 zae H (fun K' => zaw 2 [(.int .i64 0), .snil] 1 [(0, t19)] (K' · H)) fun t20 =>
 zar zaY 2 32 t17 t20 H fun t21 H =>
 zae H (fun K' => zaf 1 t3 (K' · H)) fun t22 =>
 zak 1 t22 t21 H fun H =>
 zac .add false t12 (.int .i64 1) fun t23 =>
 Kb4 (zh4 t2 t3 t10 t11 t23) H)
 (zh5 t2 t3 H K)
def zq0 (t0 : AV) (H : zaa) (K : Kt) : Prop :=
 zao t0 H fun t1 H =>
 zau [(.int .i64 0), .snil] H fun t2 H =>
 zau [(.int .i64 0), .snil] H fun t3 H =>
 zaf 0 t1 fun t6 =>
 zad false 1 t6 H fun t7 =>
 zac .eql false t7 (.int .i64 6) fun t8 =>
 zag t8
 (zaf 2 t1 fun t9 =>
 zad false 1 t9 H fun t10 =>
 zah 1 t10 fun t11 =>
 zh6 t2 t3 t10 t11 (.int .i64 0) H K)
 (zh5 t2 t3 H K)
theorem zAi {t2 t3 t10 t11 t12 : AV} {H : zaa} {K : Kt} (Inv : Nat → AV → zaa → Prop) (n : Nat) (h0 : HSc H → Inv n t12 H)
  (round : Rd1 (fun t12 => zh4 t2 t3 t10 t11 t12) (fun t12 => fun H Kb4 => zlU t2 t3 t10 t11 t12 H K Kb4) H Inv) : zh6 t2 t3 t10 t11 t12 H K :=
 lp1 (M := zh3) zAj t12 (by kernel_rfl) Inv n h0 round
theorem zAk {t0 : AV} {H : zaa} {K : Kt} (h : HSc H → zq0 t0 H K) : ACalls tP zge [t0] H K :=
 zal (M := zh3) Tryz.func54 (c := zlV) (by kernel_rfl) (fun hs => Eq.mpr (by kernel_rfl) (h hs))
def zyx (_ : Nat) : List Bool := []
noncomputable def zyy : Code := Tryz.f30.body.getD .skip
def zqv (t0 t1 : AV) (H : zaa) (K : Kt) : Prop :=
 zao t1 H fun t3 H =>
 zau [(.int .i64 0), .snil] H fun t4 H =>
 zad true 3 t3 H fun t7 =>
 ACalls tP zfe [t0, t7] H fun t8 H =>
 aUn .not t8 fun t9 =>
 zag t9
 (zav [(.int .i64 0), .snil] [(0, 1), (1, 1)] [] fun t10 =>
 zak 2 t4 t10 H fun H =>
 zad true 2 t4 H fun r0 =>
 zas [r0, (.bool false)] (K · H))
 (zad true 3 t3 H fun t11 =>
 ACalls tP zge [t11] H fun t12 H =>
 zak 2 t4 t12 H fun H =>
 zad true 2 t4 H fun r0 =>
 zas [r0, (.bool true)] (K · H))
theorem zyz {t0 t1 : AV} {H : zaa} {K : Kt} (h : HSc H → zqv t0 t1 H K) : ACalls tP zjL [t0, t1] H K :=
 zal (M := zyx) Tryz.func30 (c := zyy) (by kernel_rfl) (fun hs => Eq.mpr (by kernel_rfl) (h hs))
def zhG : Nat → List Bool
 | 3 => rl false [2,2,6,3,12]
 | _ => []
noncomputable def zlt : Code := Tryz.f36.body.getD .skip
noncomputable def zyY : List ResultVar := Tryz.f36.results.toList
def zhH (t2 t3 t10 t11 t12 : AV) : List AV := ux 2 (t2 :: t3 :: ux 6 (t10 :: t11 :: t12 :: ux 12 []))
def zyW : List Bool := zhG 3
noncomputable def zyU : Code := zap [1, 1, 0, 1, 0, 0] zlt
def zyT (K : Kt) : AExit → List AV → zaa → Prop := zaq tP zhG [1, 1, 0, 1, 0] zlt (zax tP zyY K)
def zhI (t2 t3 t10 t11 t12 : AV) (H : zaa) (K : Kt) : Prop := ALoop tP zyU (zyT K) (zhH t2 t3 t10 t11 t12) H
def zls (t2 t3 t10 t11 t12 : AV) (H : zaa) (K : Kt) (Kb3 : Lt) : Prop :=
 zac .lss false t12 t11 fun t13 =>
 zag t13
 (zaj 2 t10 t12 fun t14 =>
 zad true 2 t14 H fun t15 =>
 zau [(.int .i64 0), .snil] H fun t5 H =>
 zak 2 t5 t15 H fun H =>
 zae H (fun K' => zaf 1 t3 (K' · H)) fun t16 =>
 zae H (fun K' => zam false 1 t16 H (K' · H)) fun t17 =>
 zae H (fun K' => zam true 2 t5 H (K' · H)) fun t18 =>
 zbr H (fun H K' => ACalls tP zfa [t18] H K') fun t19 =>
 zae H (fun K' => zaw 2 [(.int .i64 0), .snil] 1 [(0, t19)] (K' · H)) fun t20 =>
 zar zaY 2 32 t17 t20 H fun t21 H =>
 zae H (fun K' => zaf 1 t3 (K' · H)) fun t22 =>
 zak 1 t22 t21 H fun H =>
 zac .add false t12 (.int .i64 1) fun t23 =>
 Kb3 (zhH t2 t3 t10 t11 t23) H)
 (zad true 2 t3 H fun t24 =>
 zak 2 t2 t24 H fun H =>
 zad true 2 t2 H fun r0 =>
 K r0 H)
def zqF (t0 : AV) (H : zaa) (K : Kt) : Prop :=
 zao t0 H fun t1 H =>
 zau [(.int .i64 0), .snil] H fun t2 H =>
 zaf 0 t1 fun t6 =>
 zad false 1 t6 H fun t7 =>
 zav [(.int .i64 0), .snil] [(0, 1), (1, 1)] [(0, t7)] fun t8 =>
 zau [(.int .i64 0), .snil] H fun t3 H =>
 zak 2 t3 t8 H fun H =>
 zaf 1 t1 fun t9 =>
 zad false 1 t9 H fun t10 =>
 zah 1 t10 fun t11 =>
 zhI t2 t3 t10 t11 (.int .i64 0) H K
theorem zyV {t2 t3 t10 t11 t12 : AV} {H : zaa} {K : Kt} (Inv : Nat → AV → zaa → Prop) (n : Nat) (h0 : HSc H → Inv n t12 H)
  (round : Rd1 (fun t12 => zhH t2 t3 t10 t11 t12) (fun t12 => fun H Kb3 => zls t2 t3 t10 t11 t12 H K Kb3) H Inv) : zhI t2 t3 t10 t11 t12 H K :=
 lp1 (M := zhG) zyW t12 (by kernel_rfl) Inv n h0 round
theorem zyX {t0 : AV} {H : zaa} {K : Kt} (h : HSc H → zqF t0 H K) : ACalls tP zfa [t0] H K :=
 zal (M := zhG) Tryz.func36 (c := zlt) (by kernel_rfl) (fun hs => Eq.mpr (by kernel_rfl) (h hs))
def zhP : Nat → List Bool
 | 3 => rl false [2,2,6,3,12]
 | _ => []
noncomputable def zlC : Code := Tryz.f45.body.getD .skip
noncomputable def zzz : List ResultVar := Tryz.f45.results.toList
def zhQ (t2 t3 t10 t11 t12 : AV) : List AV := ux 2 (t2 :: t3 :: ux 6 (t10 :: t11 :: t12 :: ux 12 []))
def zzx : List Bool := zhP 3
noncomputable def zzv : Code := zap [1, 1, 0, 1, 0, 0] zlC
def zzu (K : Kt) : AExit → List AV → zaa → Prop := zaq tP zhP [1, 1, 0, 1, 0] zlC (zax tP zzz K)
def zhR (t2 t3 t10 t11 t12 : AV) (H : zaa) (K : Kt) : Prop := ALoop tP zzv (zzu K) (zhQ t2 t3 t10 t11 t12) H
def zlB (t2 t3 t10 t11 t12 : AV) (H : zaa) (K : Kt) (Kb3 : Lt) : Prop :=
 zac .lss false t12 t11 fun t13 =>
 zag t13
 (zaj 2 t10 t12 fun t14 =>
 zad true 2 t14 H fun t15 =>
 zau [(.int .i64 0), .snil] H fun t5 H =>
 zak 2 t5 t15 H fun H =>
 zae H (fun K' => zaf 1 t3 (K' · H)) fun t16 =>
 zae H (fun K' => zam false 1 t16 H (K' · H)) fun t17 =>
 zae H (fun K' => zam true 2 t5 H (K' · H)) fun t18 =>
 zbr H (fun H K' => ACalls tP zgb [t18] H K') fun t19 =>
 zae H (fun K' => zaw 2 [(.int .i64 0), .snil] 1 [(0, t19)] (K' · H)) fun t20 =>
 zar zaY 2 32 t17 t20 H fun t21 H =>
 zae H (fun K' => zaf 1 t3 (K' · H)) fun t22 =>
 zak 1 t22 t21 H fun H =>
 zac .add false t12 (.int .i64 1) fun t23 =>
 Kb3 (zhQ t2 t3 t10 t11 t23) H)
 (zad true 2 t3 H fun t24 =>
 zak 2 t2 t24 H fun H =>
 zad true 2 t2 H fun r0 =>
 K r0 H)
def zqN (t0 : AV) (H : zaa) (K : Kt) : Prop :=
 zao t0 H fun t1 H =>
 zau [(.int .i64 0), .snil] H fun t2 H =>
 zaf 0 t1 fun t6 =>
 zad false 1 t6 H fun t7 =>
 zav [(.int .i64 0), .snil] [(0, 1), (1, 1)] [(0, t7)] fun t8 =>
 zau [(.int .i64 0), .snil] H fun t3 H =>
 zak 2 t3 t8 H fun H =>
 zaf 1 t1 fun t9 =>
 zad false 1 t9 H fun t10 =>
 zah 1 t10 fun t11 =>
 zhR t2 t3 t10 t11 (.int .i64 0) H K
theorem zzw {t2 t3 t10 t11 t12 : AV} {H : zaa} {K : Kt} (Inv : Nat → AV → zaa → Prop) (n : Nat) (h0 : HSc H → Inv n t12 H)
  (round : Rd1 (fun t12 => zhQ t2 t3 t10 t11 t12) (fun t12 => fun H Kb3 => zlB t2 t3 t10 t11 t12 H K Kb3) H Inv) : zhR t2 t3 t10 t11 t12 H K :=
 lp1 (M := zhP) zzx t12 (by kernel_rfl) Inv n h0 round
theorem zzy {t0 : AV} {H : zaa} {K : Kt} (h : HSc H → zqN t0 H K) : ACalls tP zgb [t0] H K :=
 zal (M := zhP) Tryz.func45 (c := zlC) (by kernel_rfl) (fun hs => Eq.mpr (by kernel_rfl) (h hs))
def zyH (_ : Nat) : List Bool := []
noncomputable def zyI : Code := Tryz.f33.body.getD .skip
def zqB (t0 t1 : AV) (H : zaa) (K : Kt) : Prop :=
 ACalls tP zf8 [t0, t1, (.fn zej [])] H fun t7 H =>
 K t7 H
theorem zyJ {t0 t1 : AV} {H : zaa} {K : Kt} (h : HSc H → zqB t0 t1 H K) : ACalls tP zjN [t0, t1] H K :=
 zal (M := zyH) Tryz.func33 (c := zyI) (by kernel_rfl) (fun hs => Eq.mpr (by kernel_rfl) (h hs))
def zhE : Nat → List Bool
 | 2 => rl false [0,3,8,3,25]
 | _ => []
noncomputable def zlr : Code := Tryz.f34.body.getD .skip
noncomputable def zyP : List ResultVar := Tryz.f34.results.toList
def zhF (t0 t1 t2 t11 t12 t13 : AV) : List AV := t0 :: t1 :: t2 :: ux 8 (t11 :: t12 :: t13 :: ux 25 [])
def zyN : List Bool := zhE 2
noncomputable def zyL : Code := zap [1, 0, 1, 0, 0] zlr
def zyK (K : Kt) : AExit → List AV → zaa → Prop := zaq tP zhE [1, 0, 1, 0] zlr (zax tP zyP K)
def zqD (t0 t1 t2 t11 t12 t13 : AV) (H : zaa) (K : Kt) : Prop := ALoop tP zyL (zyK K) (zhF t0 t1 t2 t11 t12 t13) H
def zlq (t0 t1 t2 t11 t12 t13 : AV) (H : zaa) (K : Kt) (Kb2 : Lt) : Prop :=
 zac .lss false t13 t12 fun t14 =>
 zag t14
 (zaj 2 t11 t13 fun t16 =>
 zad true 2 t16 H fun t17 =>
 zau [(.int .i64 0), .snil] H fun t8 H =>
 zak 2 t8 t17 H fun H =>
 zah 1 t1 fun t20 =>
 zac .geq false t13 t20 fun t21 =>
 zag t21
 (K (.int .i64 1) H)
 (zaj 2 t1 t13 fun t24 =>
 zad true 2 t24 H fun t25 =>
 zau [(.int .i64 0), .snil] H fun t9 H =>
 zak 2 t9 t25 H fun H =>
 zad true 2 t8 H fun t27 =>
 zad true 2 t9 H fun t28 =>
 aCallV tP t2 [t27, t28] H fun t29 H =>
 zac .neq false t29 (.int .i64 0) fun t31 =>
 zag t31
 (K t29 H)
 (zac .add false t13 (.int .i64 1) fun t33 =>
 Kb2 (zhF t0 t1 t2 t11 t12 t33) H)))
 (zah 1 t0 fun t35 =>
 zah 1 t1 fun t37 =>
 zac .lss false t35 t37 fun t38 =>
 zag t38
 (K (.int .i64 (-1)) H)
 (K (.int .i64 0) H))
def zqC (t0 t1 t2 : AV) (H : zaa) (K : Kt) : Prop :=
 zah 1 t0 fun t12 =>
 zqD t0 t1 t2 t0 t12 (.int .i64 0) H K
theorem zyM {t0 t1 t2 t11 t12 t13 : AV} {H : zaa} {K : Kt} (Inv : Nat → AV → zaa → Prop) (n : Nat) (h0 : HSc H → Inv n t13 H)
  (round : Rd1 (fun t13 => zhF t0 t1 t2 t11 t12 t13) (fun t13 => fun H Kb2 => zlq t0 t1 t2 t11 t12 t13 H K Kb2) H Inv) : zqD t0 t1 t2 t11 t12 t13 H K :=
 lp1 (M := zhE) zyN t13 (by kernel_rfl) Inv n h0 round
theorem zyO {t0 t1 t2 : AV} {H : zaa} {K : Kt} (h : HSc H → zqC t0 t1 t2 H K) : ACalls tP zf8 [t0, t1, t2] H K :=
 zal (M := zhE) Tryz.func34 (c := zlr) (by kernel_rfl) (fun hs => Eq.mpr (by kernel_rfl) (h hs))
def zyQ (_ : Nat) : List Bool := []
noncomputable def zyR : Code := Tryz.f35.body.getD .skip
def zqE (t0 t1 : AV) (H : zaa) (K : Kt) : Prop :=
 zao t0 H fun t2 H =>
 zao t1 H fun t3 H =>
 zae H (fun K' => zaf 0 t2 (K' · H)) fun t6 =>
 zae H (fun K' => zam false 1 t6 H (K' · H)) fun t7 =>
 zae H (fun K' => zaf 0 t3 (K' · H)) fun t8 =>
 zae H (fun K' => zam false 1 t8 H (K' · H)) fun t9 =>
 zbr H (fun H K' => ACalls tP zgg [t7, t9] H K') fun t10 =>
 zae H (fun K' => zaf 1 t2 (K' · H)) fun t11 =>
 zae H (fun K' => zam false 1 t11 H (K' · H)) fun t12 =>
 zae H (fun K' => zah 1 t12 (K' · H)) fun t13 =>
 zae H (fun K' => zaf 1 t3 (K' · H)) fun t14 =>
 zae H (fun K' => zam false 1 t14 H (K' · H)) fun t15 =>
 zae H (fun K' => zah 1 t15 (K' · H)) fun t16 =>
 zbr H (fun H K' => ACalls tP zgg [t13, t16] H K') fun t17 =>
 zae H (fun K' => zaw 1 [(.int .i64 0)] 2 [(0, t10), (1, t17)] (K' · H)) fun t18 =>
 zbr H (fun H K' => ACalls tP zjR [t18] H K') fun t19 =>
 zae H (fun K' => K' t19 H) fun t5 =>
 zac .neq false t5 (.int .i64 0) fun t21 =>
 zag t21
 (K t5 H)
 (zaf 1 t2 fun t23 =>
 zad false 1 t23 H fun t24 =>
 zaf 1 t3 fun t25 =>
 zad false 1 t25 H fun t26 =>
 ACalls tP zf8 [t24, t26, (.fn zej [])] H fun t27 H =>
 K t27 H)
theorem zyS {t0 t1 : AV} {H : zaa} {K : Kt} (h : HSc H → zqE t0 t1 H K) : ACalls tP zej [t0, t1] H K :=
 zal (M := zyQ) Tryz.func35 (c := zyR) (by kernel_rfl) (fun hs => Eq.mpr (by kernel_rfl) (h hs))
def zh8 : Nat → List Bool
 | 3 => rl false [3,1,2,3,9]
 | _ => []
noncomputable def zlW : Code := Tryz.f58.body.getD .skip
noncomputable def zAv : List ResultVar := Tryz.f58.results.toList
def zia (t3 t6 t7 t8 : AV) : List AV := ux 3 (t3 :: ux 2 (t6 :: t7 :: t8 :: ux 9 []))
def zAt : List Bool := zh8 3
noncomputable def zAr : Code := zap [1, 1, 0, 1, 0, 0] zlW
def zAq (K : Kt) : AExit → List AV → zaa → Prop := zaq tP zh8 [1, 1, 0, 1, 0] zlW (zax tP zAv K)
def zq2 (t3 t6 t7 t8 : AV) (H : zaa) (K : Kt) : Prop := ALoop tP zAr (zAq K) (zia t3 t6 t7 t8) H
def zh9 (t3 t6 t7 t8 : AV) (H : zaa) (K : Kt) (Kb3 : Lt) : Prop :=
 zac .lss false t8 t7 fun t9 =>
 zag t9
 (zaj 1 t6 t8 fun t10 =>
 zad false 1 t10 H fun t11 =>
 zac .neq false t11 t3 fun t14 =>
 zag t14
 (K t11 H)
 (zac .add false t8 (.int .i64 1) fun t16 =>
 Kb3 (zia t3 t6 t7 t16) H))
 (K t3 H)
def zq1 (t0 : AV) (H : zaa) (K : Kt) : Prop :=
 zah 1 t0 fun t7 =>
 zq2 (.int .i64 0) t0 t7 (.int .i64 0) H K
theorem zAs {t3 t6 t7 t8 : AV} {H : zaa} {K : Kt} (Inv : Nat → AV → zaa → Prop) (n : Nat) (h0 : HSc H → Inv n t8 H)
  (round : Rd1 (fun t8 => zia t3 t6 t7 t8) (fun t8 => fun H Kb3 => zh9 t3 t6 t7 t8 H K Kb3) H Inv) : zq2 t3 t6 t7 t8 H K :=
 lp1 (M := zh8) zAt t8 (by kernel_rfl) Inv n h0 round
theorem zAu {t0 : AV} {H : zaa} {K : Kt} (h : HSc H → zq1 t0 H K) : ACalls tP zjR [t0] H K :=
 zal (M := zh8) Tryz.func58 (c := zlW) (by kernel_rfl) (fun hs => Eq.mpr (by kernel_rfl) (h hs))
def zAw (_ : Nat) : List Bool := []
noncomputable def zAx : Code := Tryz.f59.body.getD .skip
def zq4 (t0 t1 : AV) (H : zaa) (K : Kt) : Prop :=
 ACalls tP zgm [t0] H fun t8 H =>
 ACalls tP zgm [t1] H fun t10 H =>
 zag t8
 (zag t10
 (K (.int .i64 0) H)
 (K (.int .i64 (-1)) H))
 (zag t10
 (K (.int .i64 1) H)
 (zac .lss false t0 t1 fun t16 =>
 zag t16
 (K (.int .i64 (-1)) H)
 (zac .gtr false t0 t1 fun t19 =>
 zag t19
 (K (.int .i64 1) H)
 (K (.int .i64 0) H))))
theorem zAy {t0 t1 : AV} {H : zaa} {K : Kt} (h : HSc H → zq4 t0 t1 H K) : ACalls tP zgg [t0, t1] H K :=
 zal (M := zAw) Tryz.func59 (c := zAx) (by kernel_rfl) (fun hs => Eq.mpr (by kernel_rfl) (h hs))
def zBw (_ : Nat) : List Bool := []
noncomputable def zBx : Code := Tryz.f82.body.getD .skip
def zrs (t0 : AV) (H : zaa) (K : Kt) : Prop :=
 zac .neq false t0 t0 fun t5 =>
 K t5 H
theorem zBy {t0 : AV} {H : zaa} {K : Kt} (h : HSc H → zrs t0 H K) : ACalls tP zgm [t0] H K :=
 zal (M := zBw) Tryz.func82 (c := zBx) (by kernel_rfl) (fun hs => Eq.mpr (by kernel_rfl) (h hs))
end Go.Proofs.YtacebbdfgbfgiaaGreat
