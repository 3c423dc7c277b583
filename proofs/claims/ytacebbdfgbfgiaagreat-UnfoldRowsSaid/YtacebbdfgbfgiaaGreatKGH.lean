import Derived.Test.YtacebbdfgbfgiaaGreatKNum
import Derived.Test.YtacebbdfgbfgiaaGreatProg
import Derived.KernelRfl
import Derived.Test.YtacebbdfgbfgiaaGreatKGY3
set_option linter.unusedSimpArgs false
set_option linter.unusedVariables false
namespace Go.Proofs.YtacebbdfgbfgiaaGreat
open Go Go.Abs
set_option maxRecDepth 100000
def zed : Nat → List Bool
 | 6 => rl false [0,2,6,1,38,3,56]
 | 10 => rl false [0,2,6,2,37,3,28,3,25]
 | _ => []
noncomputable def zm4 : Code := Tryz.f53.body.getD .skip
noncomputable def zCL : List ResultVar := Tryz.f53.results.toList
def ziN (t0 t1 t8 t47 t48 t49 : AV) : List AV := t0 :: t1 :: ux 6 (t8 :: ux 38 (t47 :: t48 :: t49 :: ux 56 []))
def zsK : List Bool := zed 6
noncomputable def zm5 : Code := zao [1, 1, 1, 1, 0, 1, 0, 0] zm4
def zsI (K : Kt) : AExit → List AV → zaa → Prop := zap tP zed [1, 1, 1, 1, 0, 1, 0] zm4 (zaw tP zCL K)
def zsJ (t0 t1 t8 t47 t48 t49 : AV) (H : zaa) (K : Kt) : Prop := ALoop tP zm5 (zsI K) (ziN t0 t1 t8 t47 t48 t49) H
def ziM (t0 t1 t8 t9 t47 t48 t49 t78 t79 t80 : AV) : List AV := t0 :: t1 :: ux 6 (t8 :: t9 :: ux 37 (t47 :: t48 :: t49 :: ux 28 (t78 :: t79 :: t80 :: ux 25 [])))
def zCJ : List Bool := zed 10
noncomputable def zCG : Code := zao [1, 1, 0, 0, 1, 1, 1, 0, 0] zm5
def zCF (K : Kt) (Kb6 : Lt) : AExit → List AV → zaa → Prop := zap tP zed [1, 1, 0, 0, 1, 1, 1, 0] zm5 (zbm zsK Kb6 (zsI K))
def zm7 (t0 t1 t8 t9 t47 t48 t49 t78 t79 t80 : AV) (H : zaa) (K : Kt) (Kb6 : Lt) : Prop := ALoop tP zCG (zCF K Kb6) (ziM t0 t1 t8 t9 t47 t48 t49 t78 t79 t80) H
def zm6 (t0 t1 t8 t9 t47 t48 t49 t78 t79 t80 : AV) (H : zaa) (K : Kt) (Kb6 : Lt) (Kb10 : Lt) : Prop :=
 zac .add false t80 (.int .i64 1) fun t103 =>
 Kb10 (ziM t0 t1 t8 t9 t47 t48 t49 t78 t79 t103) H
def zeR (t0 t1 t8 t9 t47 t48 t49 t78 t79 t80 : AV) (H : zaa) (K : Kt) (Kb6 : Lt) (Kb10 : Lt) : Prop :=
 zm6 t0 t1 t8 t9 t47 t48 t49 t78 t79 t80 H K Kb6 Kb10
def zeQ (t0 t1 t8 t9 t47 t48 t49 t78 t79 t80 : AV) (H : zaa) (K : Kt) (Kb6 : Lt) (Kb10 : Lt) : Prop :=
 zac .lss false t80 t79 fun t81 =>
 zag t81
 (zai 3 t78 t80 fun t83 =>
 zad true 3 t83 H fun t84 =>
 zau [(.int .i64 0), (.int .i64 0), .snil] H fun t12 H =>
 zak 3 t12 t84 H fun H =>
 zaf 0 t12 fun t85 =>
 zad false 1 t85 H fun t86 =>
 zac .neq false t86 (.int .i64 4) fun t87 =>
 zab t87 false H (fun K' => zaf 1 t12 (K' · H)) fun t89 H =>
 zab t87 false H (fun K' => zad false 1 t89 H (K' · H)) fun t90 H =>
 zab t87 false H (fun K' => K' t80 H) fun t91 H =>
 zab t87 false H (fun K' => zac .neq false t90 t91 (K' · H)) fun t92 H =>
 zaj t87 (.bool true) t92 fun t93 =>
 zab t93 false H (fun K' => zaf 2 t12 (K' · H)) fun t95 H =>
 zab t93 false H (fun K' => zad false 1 t95 H (K' · H)) fun t96 H =>
 zab t93 false H (fun K' => zah 1 t96 (K' · H)) fun t97 H =>
 zab t93 false H (fun K' => zac .gtr false t97 (.int .i64 0) (K' · H)) fun t98 H =>
 zaj t93 (.bool true) t98 fun t99 =>
 zag t99
 (zai 1 t8 t9 fun t102 =>
 zak 1 t102 (.bool false) H fun H =>
 zeR t0 t1 t8 t9 t47 t48 t49 t78 t79 t80 H K Kb6 Kb10)
 (zeR t0 t1 t8 t9 t47 t48 t49 t78 t79 t80 H K Kb6 Kb10))
 (zac .add false t49 (.int .i64 1) fun t104 =>
 Kb6 (ziN t0 t1 t8 t47 t48 t104) H)
def zfX (t0 t1 t8 t47 t48 t49 : AV) (H : zaa) (K : Kt) (Kb6 : Lt) : Prop :=
 zac .lss false t49 t48 fun t50 =>
 zag t50
 (zai 3 t47 t49 fun t52 =>
 zad true 3 t52 H fun t53 =>
 zau [(.int .i64 0), (.int .i64 0), .snil] H fun t10 H =>
 zak 3 t10 t53 H fun H =>
 zae H (fun K' => K' t8 H) fun t54 =>
 zae H (fun K' => K' t49 H) fun t55 =>
 zae H (fun K' => zaf 0 t10 (K' · H)) fun t56 =>
 zae H (fun K' => zan false 1 t56 H (K' · H)) fun t57 =>
 zae H (fun K' => zac .eql false t57 (.int .i64 5) (K' · H)) fun t58 =>
 zae H (fun K' => K' t58 H) fun t59 =>
 zab t59 true H (fun K' => zae H (fun K'' => zaf 1 t10 (K'' · H)) (K' · H)) fun t60 H =>
 zab t59 true H (fun K' => zae H (fun K'' => zan false 1 t60 H (K'' · H)) (K' · H)) fun t61 H =>
 zab t59 true H (fun K' => zae H (fun K'' => K'' t1 H) (K' · H)) fun t62 H =>
 zab t59 true H (fun K' => zae H (fun K'' => zac .eql false t61 t62 (K'' · H)) (K' · H)) fun t63 H =>
 zae H (fun K' => zaj t59 t63 (.bool false) (K' · H)) fun t64 =>
 zae H (fun K' => K' t64 H) fun t65 =>
 zab t65 true H (fun K' => zae H (fun K'' => zaf 2 t10 (K'' · H)) (K' · H)) fun t66 H =>
 zab t65 true H (fun K' => zae H (fun K'' => zan false 1 t66 H (K'' · H)) (K' · H)) fun t67 H =>
 zab t65 true H (fun K' => zae H (fun K'' => zah 1 t67 (K'' · H)) (K' · H)) fun t68 H =>
 zab t65 true H (fun K' => zae H (fun K'' => K'' t0 H) (K' · H)) fun t69 H =>
 zab t65 true H (fun K' => zae H (fun K'' => K'' t1 H) (K' · H)) fun t70 H =>
 zab t65 true H (fun K' => zae H (fun K'' => zai 3 t69 t70 (K'' · H)) (K' · H)) fun t71 H =>
 zab t65 true H (fun K' => zae H (fun K'' => zaf 1 t71 (K'' · H)) (K' · H)) fun t72 H =>
 zab t65 true H (fun K' => zae H (fun K'' => zan false 1 t72 H (K'' · H)) (K' · H)) fun t73 H =>
 zab t65 true H (fun K' => zae H (fun K'' => zac .eql false t68 t73 (K'' · H)) (K' · H)) fun t74 H =>
 zae H (fun K' => zaj t65 t74 (.bool false) (K' · H)) fun t75 =>
 zae H (fun K' => zai 1 t54 t55 (K' · H)) fun t76 =>
 zak 1 t76 t75 H fun H =>
 zaf 2 t10 fun t77 =>
 zad false 1 t77 H fun t78 =>
 zah 1 t78 fun t79 =>
 zm7 t0 t1 t8 t49 t47 t48 t49 t78 t79 (.int .i64 0) H K Kb6)
 (K t8 H)
def zsH (t0 t1 t2 : AV) (H : zaa) (K : Kt) : Prop :=
 zac .lss false t1 (.int .i64 0) fun t14 =>
 zab t14 false H (fun K' => K' t1 H) fun t16 H =>
 zab t14 false H (fun K' => K' t0 H) fun t17 H =>
 zab t14 false H (fun K' => zah 1 t17 (K' · H)) fun t18 H =>
 zab t14 false H (fun K' => zac .geq false t16 t18 (K' · H)) fun t19 H =>
 zaj t14 (.bool true) t19 fun t20 =>
 zab t20 false H (fun K' => K' t2 H) fun t22 H =>
 zab t20 false H (fun K' => zac .lss false t22 (.int .i64 0) (K' · H)) fun t23 H =>
 zaj t20 (.bool true) t23 fun t24 =>
 zab t24 false H (fun K' => K' t2 H) fun t26 H =>
 zab t24 false H (fun K' => K' t0 H) fun t27 H =>
 zab t24 false H (fun K' => K' t1 H) fun t28 H =>
 zab t24 false H (fun K' => zai 3 t27 t28 (K' · H)) fun t29 H =>
 zab t24 false H (fun K' => zaf 2 t29 (K' · H)) fun t30 H =>
 zab t24 false H (fun K' => zad false 1 t30 H (K' · H)) fun t31 H =>
 zab t24 false H (fun K' => zah 1 t31 (K' · H)) fun t32 H =>
 zab t24 false H (fun K' => zac .geq false t26 t32 (K' · H)) fun t33 H =>
 zaj t24 (.bool true) t33 fun t34 =>
 zag t34
 (K .snil H)
 (zai 3 t0 t1 fun t37 =>
 zaf 2 t37 fun t38 =>
 zad false 1 t38 H fun t39 =>
 zai 2 t39 t2 fun t41 =>
 zaf 1 t41 fun t42 =>
 zad false 1 t42 H fun t43 =>
 zah 1 t43 fun t45 =>
 zbo 1 [(.bool false)] t45 t45 H fun t46 H =>
 zah 1 t43 fun t48 =>
 zsJ t0 t1 t46 t43 t48 (.int .i64 0) H K)
theorem zCH {t0 t1 t8 t9 t47 t48 t49 t78 t79 t80 : AV} {H : zaa} {K : Kt} {Kb6 : Lt} (Inv : Nat → AV → zaa → Prop) (n : Nat) (h0 : HSc H → Inv n t80 H)
  (round : Rd1 (fun t80 => ziM t0 t1 t8 t9 t47 t48 t49 t78 t79 t80) (fun t80 => fun H Kb10 => zeQ t0 t1 t8 t9 t47 t48 t49 t78 t79 t80 H K Kb6 Kb10) H Inv) : zm7 t0 t1 t8 t9 t47 t48 t49 t78 t79 t80 H K Kb6 :=
 lp1 (M := zed) zCJ t80 (by kernel_rfl) Inv n h0 round
theorem zCI {t0 t1 t8 t47 t48 t49 : AV} {H : zaa} {K : Kt} (Inv : Nat → AV → zaa → Prop) (n : Nat) (h0 : HSc H → Inv n t49 H)
  (round : Rd1 (fun t49 => ziN t0 t1 t8 t47 t48 t49) (fun t49 => fun H Kb6 => zfX t0 t1 t8 t47 t48 t49 H K Kb6) H Inv) : zsJ t0 t1 t8 t47 t48 t49 H K :=
 lp1 (M := zed) zsK t49 (by kernel_rfl) Inv n h0 round
theorem zCK {t0 t1 t2 : AV} {H : zaa} {K : Kt} (h : HSc H → zsH t0 t1 t2 H K) : ACalls tP zc7 [t0, t1, t2] H K :=
 zam (M := zed) Tryz.func53 (c := zm4) (by kernel_rfl) (fun hs => Eq.mpr (by kernel_rfl) (h hs))
def zyM (_ : Nat) : List Bool := []
noncomputable def zyN : Code := Tryz.f123.body.getD .skip
def zry (t0 t1 : AV) (H : zaa) (K : Kt) : Prop :=
 zaq t0 H fun t2 H =>
 zaq t1 H fun t3 H =>
 zaf 0 t2 fun t5 =>
 zad false 1 t5 H fun t6 =>
 zac .eql false t6 (.int .i64 5) fun t7 =>
 zab t7 true H (fun K' => zaf 1 t2 (K' · H)) fun t9 H =>
 zab t7 true H (fun K' => zad false 1 t9 H (K' · H)) fun t10 H =>
 zab t7 true H (fun K' => zad false 1 t3 H (K' · H)) fun t11 H =>
 zab t7 true H (fun K' => zac .eql false t10 t11 (K' · H)) fun t12 H =>
 zaj t7 t12 (.bool false) fun t13 =>
 zab t13 false H (fun K' => zaf 2 t2 (K' · H)) fun t15 H =>
 zab t13 false H (fun K' => zad false 1 t15 H (K' · H)) fun t16 H =>
 zab t13 false H (fun K' => zb0 zgx [t3] (K' · H)) fun t17 H =>
 zab t13 false H (fun K' => ACalls tP zdX [t16, t17] H K') fun t18 H =>
 zaj t13 (.bool true) t18 fun t19 =>
 K t19 H
theorem zyO {t0 t1 : AV} {H : zaa} {K : Kt} (h : HSc H → zry t0 t1 H K) : ACalls tP zgw [t0, t1] H K :=
 zam (M := zyM) Tryz.func123 (c := zyN) (by kernel_rfl) (fun hs => Eq.mpr (by kernel_rfl) (h hs))
def zy6 (_ : Nat) : List Bool := []
noncomputable def zy7 : Code := Tryz.f137.body.getD .skip
def zrE (t0 t1 : AV) (H : zaa) (K : Kt) : Prop :=
 zaq t0 H fun t2 H =>
 zad true 3 t2 H fun t4 =>
 zad false 1 t1 H fun t5 =>
 ACalls tP zgw [t4, t5] H fun t6 H =>
 K t6 H
theorem zy8 {t0 t1 : AV} {H : zaa} {K : Kt} (h : HSc H → zrE t0 t1 H K) : ACalls tP zgx [t0, t1] H K :=
 zam (M := zy6) Tryz.func137 (c := zy7) (by kernel_rfl) (fun hs => Eq.mpr (by kernel_rfl) (h hs))
def zjn : Nat → List Bool
 | 4 => rl false [3,1,3,1,50]
 | _ => []
noncomputable def znz : Code := Tryz.f84.body.getD .skip
noncomputable def zEt : List ResultVar := Tryz.f84.results.toList
def zjo (t3 t7 : AV) : List AV := ux 3 (t3 :: ux 3 (t7 :: ux 50 []))
def zEr : List Bool := zjn 4
noncomputable def zEp : Code := zao [1, 1, 0, 1, 0, 0] znz
def zEo (K : Kt) : AExit → List AV → zaa → Prop := zap tP zjn [1, 1, 0, 1, 0] znz (zaw tP zEt K)
def ztk (t3 t7 : AV) (H : zaa) (K : Kt) : Prop := ALoop tP zEp (zEo K) (zjo t3 t7) H
def zeS (t3 t7 : AV) (H : zaa) (K : Kt) (Kb4 : Lt) : Prop :=
 zaf 2 t3 fun t25 =>
 zad false 1 t25 H fun t26 =>
 zah 1 t26 fun t27 =>
 zac .lss false t7 t27 fun t28 =>
 zag t28
 (zaf 2 t3 fun t31 =>
 zad false 1 t31 H fun t32 =>
 zai 3 t32 t7 fun t34 =>
 zaf 0 t34 fun t35 =>
 zad false 1 t35 H fun t36 =>
 zac .neq false t36 (.int .i64 4) fun t37 =>
 zab t37 false H (fun K' => zaf 2 t3 (K' · H)) fun t39 H =>
 zab t37 false H (fun K' => zad false 1 t39 H (K' · H)) fun t40 H =>
 zab t37 false H (fun K' => K' t7 H) fun t41 H =>
 zab t37 false H (fun K' => zai 3 t40 t41 (K' · H)) fun t42 H =>
 zab t37 false H (fun K' => zaf 1 t42 (K' · H)) fun t43 H =>
 zab t37 false H (fun K' => zad false 1 t43 H (K' · H)) fun t44 H =>
 zab t37 false H (fun K' => K' t7 H) fun t45 H =>
 zab t37 false H (fun K' => zac .neq false t44 t45 (K' · H)) fun t46 H =>
 zaj t37 (.bool true) t46 fun t47 =>
 zab t47 false H (fun K' => zaf 2 t3 (K' · H)) fun t49 H =>
 zab t47 false H (fun K' => zad false 1 t49 H (K' · H)) fun t50 H =>
 zab t47 false H (fun K' => K' t7 H) fun t51 H =>
 zab t47 false H (fun K' => zai 3 t50 t51 (K' · H)) fun t52 H =>
 zab t47 false H (fun K' => zaf 2 t52 (K' · H)) fun t53 H =>
 zab t47 false H (fun K' => zad false 1 t53 H (K' · H)) fun t54 H =>
 zab t47 false H (fun K' => zah 1 t54 (K' · H)) fun t55 H =>
 zab t47 false H (fun K' => zac .gtr false t55 (.int .i64 0) (K' · H)) fun t56 H =>
 zaj t47 (.bool true) t56 fun t57 =>
 zag t57
 (K (.bool false) H)
 (zac .add false t7 (.int .i64 1) fun t30 =>
 Kb4 (zjo t3 t30) H))
 (K (.bool true) H)
def ztj (t0 t1 t2 : AV) (H : zaa) (K : Kt) : Prop :=
 zaq t0 H fun t3 H =>
 zaf 0 t3 fun t8 =>
 zad false 1 t8 H fun t9 =>
 zac .neq false t9 (.int .i64 5) fun t10 =>
 zab t10 false H (fun K' => zaf 1 t3 (K' · H)) fun t12 H =>
 zab t10 false H (fun K' => zad false 1 t12 H (K' · H)) fun t13 H =>
 zab t10 false H (fun K' => K' t1 H) fun t14 H =>
 zab t10 false H (fun K' => zac .neq false t13 t14 (K' · H)) fun t15 H =>
 zaj t10 (.bool true) t15 fun t16 =>
 zab t16 false H (fun K' => zaf 2 t3 (K' · H)) fun t18 H =>
 zab t16 false H (fun K' => zad false 1 t18 H (K' · H)) fun t19 H =>
 zab t16 false H (fun K' => zah 1 t19 (K' · H)) fun t20 H =>
 zab t16 false H (fun K' => K' t2 H) fun t21 H =>
 zab t16 false H (fun K' => zac .neq false t20 t21 (K' · H)) fun t22 H =>
 zaj t16 (.bool true) t22 fun t23 =>
 zag t23
 (K (.bool false) H)
 (ztk t3 (.int .i64 0) H K)
theorem zEq {t3 t7 : AV} {H : zaa} {K : Kt} (Inv : Nat → AV → zaa → Prop) (n : Nat) (h0 : HSc H → Inv n t7 H)
  (round : Rd1 (fun t7 => zjo t3 t7) (fun t7 => fun H Kb4 => zeS t3 t7 H K Kb4) H Inv) : ztk t3 t7 H K :=
 lp1 (M := zjn) zEr t7 (by kernel_rfl) Inv n h0 round
theorem zEs {t0 t1 t2 : AV} {H : zaa} {K : Kt} (h : HSc H → ztj t0 t1 t2 H K) : ACalls tP zgX [t0, t1, t2] H K :=
 zam (M := zjn) Tryz.func84 (c := znz) (by kernel_rfl) (fun hs => Eq.mpr (by kernel_rfl) (h hs))
end Go.Proofs.YtacebbdfgbfgiaaGreat

namespace Go.Proofs.YtacebbdfgbfgiaaGreat
open Go Go.Abs
set_option maxRecDepth 8000
theorem zsD : ∀ (m : Nat) (v : VT), v.nodes ≤ m → ∀ (left : Int), left ≤ 1000000 → -1 ≤ left → ∀ (H : zaa) (id : Nat), H[id]? = some (.cells [.int .i64 left]) → ∀ (K : AV → zaa → Prop),
  ((v.nodes : Int) ≤ left → K (.bool true) (H.set id (.cells [.int .i64 (left - v.nodes)]))) → (¬ (v.nodes : Int) ≤ left → ∀ l', K (.bool false) (H.set id (.cells [.int .i64 l']))) →
  ACalls tP zft [.agg v.cs, .ptr id 0] H K := by
 intro m
 induction m with
 | zero => intro v h; have := v.nodes_pos; omega
 | succ m ih =>
  intro v hv left hl1 hl0 H id hid K hK hF
  obtain ⟨k, n, ks⟩ := v
  have hlt := zeu hid
  have hnn : (VT.mk k n ks).nodes = VT.nodesL ks + 1 := by simp [VT.nodes]
  refine ACalls.out (zCf fun hs => ?_)
  have hget : (H ++ [AB.cells [.int .i64 k, .int .i64 n, .sl (VT.css ks) .none]])[id]? = some (.cells [.int .i64 left]) := zcD hid
  have bad : (¬ ((VT.mk k n ks).nodes : Int) ≤ left) → ∀ l' H', H' = H.set id (.cells [.int .i64 l']) ++ [.cells [.int .i64 k, .int .i64 n, .sl (VT.css ks) .none]] → Out H.length K (.bool false) H' := by
   intro h l' H' he
   exact Out.bool he (by simp) (hs.set rfl) (hF h l')
  simp [zsB, VT.cs, hget, AV.known]
  rw [zal (by omega) (by omega), zc2 _ hid, zcD (zcy _ hid)]
  by_cases h0 : left - 1 < 0
  ·simp [h0]
   exact bad (by omega) _ _ rfl
  ·simp [h0]
   refine zCd (Inv := fun q t5 H' => ∃ i : Nat, i ≤ ks.length ∧ q = ks.length - i ∧ t5 = .int .i64 i ∧ ((VT.nodesL (ks.take i) : Int) + 1 ≤ left) ∧ H' = H.set id (.cells [.int .i64 (left - 1 - VT.nodesL (ks.take i))]) ++ [.cells [.int .i64 k, .int .i64 n, .sl (VT.css ks) .none]]) ks.length ?_ ?_
   ·intro _; exact ⟨0, by omega, by omega, rfl, by simp [VT.nodesL]; omega, by simp [VT.nodesL]⟩
   ·rintro q t5 H' ⟨i, hi, rfl, rfl, hb, rfl⟩ hsc hlen hsF Kb hKb
    by_cases hil : i < ks.length
    ·have hki := VT.kid_lt (k := k) (n := n) hil
     have h1 := VT.nodesL_take hil
     have h2 := VT.nodesL_take_le ks (i + 1)
     have hll := VT.len_le (ks.take i)
     simp only [List.length_take] at hll
     have hge : (H.set id (.cells [.int .i64 (left - 1 - VT.nodesL (ks.take i))]) ++ [AB.cells [.int .i64 k, .int .i64 n, .sl (VT.css ks) .none]])[id]? = some (.cells [.int .i64 (left - 1 - VT.nodesL (ks.take i))]) := zcD (zcy _ hid)
     simp [zmR, hil]
     refine ih ks[i] (by omega) (left - 1 - VT.nodesL (ks.take i)) (by omega) (by omega) _ id hge _ ?_ ?_
     ·intro hle
      rw [zc2 _ (zcy _ hid), List.set_set]
      simp
      rw [zal (by omega) (by omega)]
      refine hKb _ _ ⟨ks.length - (i + 1), by omega, Back.here (by simp) ((hs.set rfl).snoc rfl) ?_ ⟨_, rfl, i + 1, by omega, rfl, by simp, by omega, ?_⟩⟩
      ·simp [ziE, AV.sc, AV.scV, AV.scA, AV.scB]; omega
      ·rw [h1]; congr 5; omega
     ·intro hle l'
      rw [zc2 _ (zcy _ hid), List.set_set]
      simp
      exact bad (by omega) _ _ rfl
    ·obtain rfl : i = ks.length := by omega
     rw [List.take_length] at hb ⊢
     simp [zmR]
     refine Out.bool rfl (by simp) (hs.set rfl) ?_
     have := hK (by omega)
     rw [hnn] at this
     rw [show left - 1 - (VT.nodesL ks : Int) = left - ((VT.nodesL ks + 1 : Nat) : Int) by omega]
     exact this
theorem zAd (v : VT) (H : zaa) (K : AV → zaa → Prop) (hK : ∀ b, (b = true → v.nodes ≤ 250) → K (.bool b) H) : ACalls tP zkz [.agg v.cs] H K := by
 refine ACalls.out (zAc fun hs => ?_)
 simp [zrX, AV.known]
 refine zsD _ v (Nat.le_refl _) 250 (by omega) (by omega) _ (H.length + 1) (by simp) _ ?_ ?_
 ·intro h
  exact Out.bool (J := [_, _]) (by simp; exact ⟨rfl, rfl⟩) (Nat.le_refl _) hs (hK true fun _ => by omega)
 ·intro h l'
  exact Out.bool (J := [_, _]) (by simp; exact ⟨rfl, rfl⟩) (Nat.le_refl _) hs (hK false fun h => by cases h)
end Go.Proofs.YtacebbdfgbfgiaaGreat
namespace Go.Proofs.YtacebbdfgbfgiaaGreat
open Go Go.Abs
set_option maxRecDepth 8000
theorem zsw : ∀ (m : Nat) (v : VT), v.nodes ≤ m → v.nodes ≤ 1000000000 → ∀ (H : zaa) (K : AV → zaa → Prop), K (.int .i64 v.nodes) H → ACalls tP zfr [.agg v.cs] H K := by
 intro m
 induction m with
 | zero => intro v h; have := v.nodes_pos; omega
 | succ m ih =>
  intro v hv hb H K hK
  obtain ⟨k, n, ks⟩ := v
  have hnl : VT.nodesL ks + 1 ≤ 1000000000 := by simpa [VT.nodes] using hb
  have hll := VT.len_le ks
  refine ACalls.out (zBT fun hs => ?_)
  simp [VT.cs, zsu]
  refine zBR (Inv := fun q t3 t4 H' => ∃ i : Nat, i ≤ ks.length ∧ q = ks.length - i ∧ t4 = .int .i64 i ∧ t3 = .int .i64 (1 + VT.nodesL (ks.take i) : Nat) ∧ H' = H ++ [.cells [.int .i64 k, .int .i64 n, .sl (VT.css ks) .none]]) ks.length ?_ ?_
  ·intro _; exact ⟨0, by omega, by omega, rfl, by simp [VT.nodesL], rfl⟩
  ·rintro q t3 t4 H' ⟨i, hi, rfl, rfl, rfl, rfl⟩ hsc hlen hsF Kb hKb
   by_cases hlt : i < ks.length
   ·have hki := VT.kid_lt (k := k) (n := n) hlt
    have h1 := VT.nodesL_take hlt
    have h2 := VT.nodesL_take_le ks (i + 1)
    simp [zmM, hlt]
    refine ih ks[i] (by omega) (by omega) _ _ ?_
    simp
    rw [zal (by omega) (by omega), zal (by omega) (by omega)]
    refine hKb _ _ ⟨ks.length - (i + 1), by omega, Back.here (by simp) hsc ?_ ⟨_, _, rfl, i + 1, by omega, rfl, by simp, ?_, rfl⟩⟩
    ·simp [ziz, AV.sc, AV.scV, AV.scA, AV.scB]
    ·rw [h1]; congr 1; omega
   ·obtain rfl : i = ks.length := by omega
    simp [zmM]
    refine Out.int rfl (Nat.le_refl _) hs ?_
    simpa [VT.nodes, Int.add_comm] using hK
theorem zEI (data : List Dat) (hdl : data.length ≤ 1000000) (vars : Int) : ∀ (m : Nat) (v : VT), v.nodes ≤ m → v.nodes ≤ 1000000000 → ∀ (H : zaa) (K : AV → zaa → Prop), K (.bool (zaK data vars v)) H → ACalls tP zgY [.sl (data.map Dat.cs) .none, .agg v.cs, .int .i64 vars] H K := by
 intro m
 induction m with
 | zero => intro v h; have := v.nodes_pos; omega
 | succ m ih =>
  intro v hv hb H K hK
  obtain ⟨k, n, ks⟩ := v
  have hnl : VT.nodesL ks + 1 ≤ 1000000000 := by simpa [VT.nodes] using hb
  have hll := VT.len_le ks
  refine ACalls.out (zEG fun hs => ?_)
  have hO : ∀ J, Out H.length K (.bool (zaS data vars k n ks.length && zaQ data vars ks)) (H ++ J) := fun J => Out.bool rfl (Nat.le_refl _) hs (by simpa [zaK] using hK)
  have hF : zaS data vars k n ks.length = false → ∀ J, Out H.length K (.bool false) (H ++ J) := fun h J => by have := hO J; rwa [h, Bool.false_and] at this
  have loop : zaS data vars k n ks.length = true → znG (.sl (data.map Dat.cs) .none) (.int .i64 vars) (.ptr H.length 0) (.int .i64 ks.length) (.int .i64 0) (H ++ [.cells [.int .i64 k, .int .i64 n, .sl (VT.css ks) .none]]) (Out H.length K) := by
   intro hsh
   rw [hsh] at hO
   simp only [Bool.true_and] at hO
   refine zEE (Inv := fun q t8 H' => ∃ i : Nat, i ≤ ks.length ∧ q = ks.length - i ∧ t8 = .int .i64 i ∧ zaQ data vars (ks.drop i) = zaQ data vars ks ∧ H' = H ++ [.cells [.int .i64 k, .int .i64 n, .sl (VT.css ks) .none]]) ks.length ?_ ?_
   ·intro _; exact ⟨0, by omega, by omega, rfl, by simp, rfl⟩
   ·rintro q t8 H' ⟨i, hi, rfl, rfl, ho, rfl⟩ hsc hlen hsF Kb hKb
    by_cases hlt : i < ks.length
    ·have hki := VT.kid_lt (k := k) (n := n) hlt
     rw [List.drop_eq_getElem_cons hlt, zaQ] at ho
     simp [znE, hlt]
     refine ih ks[i] (by omega) (by omega) _ _ ?_
     cases hb : zaK data vars ks[i] with
     | false =>
      rw [hb, Bool.false_and] at ho
      rw [← ho] at hO
      simp
      exact hO _
     | true =>
      rw [hb, Bool.true_and] at ho
      simp
      rw [zal (by omega) (by omega)]
      refine hKb _ _ ⟨ks.length - (i + 1), by omega, Back.here (by simp) hsc ?_ ⟨_, rfl, i + 1, by omega, rfl, by simp, ho, rfl⟩⟩
      simp [zjs, AV.sc, AV.scV, AV.scA, AV.scB]
    ·obtain rfl : i = ks.length := by omega
     rw [List.drop_length, zaQ] at ho
     rw [← ho] at hO
     simp [znE]
     exact hO _
  have prim : (k = 1 ∨ k = 2 ∨ k = 3) → Out H.length K (.bool (n == 0 && ks.length == 0)) (H ++ [.cells [.int .i64 k, .int .i64 n, .sl (VT.css ks) .none]]) := by
   intro h
   have hsh : zaS data vars k n ks.length = (n == 0 && ks.length == 0) := by rcases h with rfl | rfl | rfl <;> rfl
   have := hO [.cells [.int .i64 k, .int .i64 n, .sl (VT.css ks) .none]]
   rw [hsh] at this
   cases ks with
   | nil => simpa [zaQ] using this
   | cons x l => simpa using this
  by_cases h123 : k = 1 ∨ k = 2 ∨ k = 3
  ·have := prim h123
   cases hn : (n == 0) with
   | false => rw [hn, Bool.false_and] at this; rcases h123 with rfl | rfl | rfl <;> simp [zbZ, VT.cs, zbn, hn] <;> exact this
   | true =>
    rw [hn, Bool.true_and] at this
    have e : ((ks.length : Int) == 0) = (ks.length == 0) := by rw [Bool.eq_iff_iff]; simp
    rw [← e] at this
    rcases h123 with rfl | rfl | rfl <;> simp only [zbZ, VT.cs] <;> simp [zbn, hn] <;> simpa using this
  by_cases h4 : k = 4
  ·subst h4
   have hsh : zaS data vars 4 n ks.length = (decide (0 ≤ n) && decide (n < vars) && ks.length == 0) := rfl
   have hO' : ∀ J, Out H.length K (.bool (decide (0 ≤ n) && decide (n < vars) && ks.length == 0)) (H ++ J) := fun J => by
    have := hO J
    rw [hsh] at this
    cases ks with
    | nil => simpa [zaQ] using this
    | cons x l => simpa using this
   have e : ((ks.length : Int) == 0) = (ks.length == 0) := by rw [Bool.eq_iff_iff]; simp
   rw [← e] at hO'
   by_cases g1 : 0 ≤ n
   ·by_cases g2 : n < vars
    ·simp only [zbZ, VT.cs]
     simp [zbn, g1, g2]
     simpa [g1, g2] using hO' _
    ·simp only [zbZ, VT.cs]
     simp [zbn, g1, g2]
     simpa [g1, g2] using hO' _
   ·simp only [zbZ, VT.cs]
    simp [zbn, g1]
    simpa [g1] using hO' _
  by_cases h5 : k = 5
  ·subst h5
   have hsh : zaS data vars 5 n ks.length = (decide (0 ≤ n) && (match data[n.toNat]? with | some d => (ks.length : Int) == d.vars | none => false)) := rfl
   by_cases g1 : 0 ≤ n
   ·have g1' : ¬ n < 0 := by omega
    by_cases g2 : n < data.length
    ·have hnl : n.toNat < data.length := by omega
     have g2' : ¬ (data.length : Int) ≤ n := by omega
     have hat : (data.map Dat.cs)[n.toNat]?.getD [] = [.str data[n.toNat].name, .int .i64 data[n.toNat].vars, .sl (data[n.toNat].cons.map Con.cs) .none] := by simp [hnl, Dat.cs]
     rw [List.getElem?_eq_getElem hnl] at hsh
     simp only [g1, decide_true, Bool.true_and] at hsh
     cases hv : ((ks.length : Int) == data[n.toNat].vars) with
     | false =>
      rw [hv] at hsh
      have hv' : ((ks.length : Int) != data[n.toNat].vars) = true := by simp [bne, hv]
      simp only [zbZ, VT.cs]
      simp [zbn, g1', g2', g1, g2, hnl, Dat.cs, hv']
      exact hF hsh _
     | true =>
      rw [hv] at hsh
      have hv' : ((ks.length : Int) != data[n.toNat].vars) = false := by simp [bne, hv]
      simp only [zbZ, VT.cs]
      simp [zbn, g1', g2', g1, g2, hnl, Dat.cs, hv', zdJ, zfY]
      exact loop hsh
    ·have g2' : (data.length : Int) ≤ n := by omega
     rw [List.getElem?_eq_none (by omega)] at hsh
     simp only [zbZ, VT.cs]
     simp [zbn, g1', g2']
     exact hF (by rw [hsh]; simp) _
   ·have g1' : n < 0 := by omega
    simp only [zbZ, VT.cs]
    simp [zbn, g1']
    exact hF (by rw [hsh]; simp [g1]) _
  by_cases h6 : k = 6
  ·subst h6
   have hsh : zaS data vars 6 n ks.length = (n == 0 && decide (2 ≤ ks.length) && decide (ks.length ≤ 6)) := rfl
   simp only [zbZ, VT.cs]
   cases hn : (n == 0) with
   | false =>
    have : (n != 0) = true := by simp [bne, hn]
    simp [zbn, this]
    exact hF (by rw [hsh, hn]; rfl) _
   | true =>
    have hn' : (n != 0) = false := by simp [bne, hn]
    by_cases g1 : ks.length < 2
    ·have : (ks.length : Int) < 2 := by omega
     simp [zbn, hn', this]
     exact hF (by rw [hsh]; simp; omega) _
    ·have g1' : ¬ (ks.length : Int) < 2 := by omega
     by_cases g2 : 6 < ks.length
     ·have : (6 : Int) < ks.length := by omega
      simp [zbn, hn', g1', this]
      exact hF (by rw [hsh]; simp; omega) _
     ·have : ¬ (6 : Int) < ks.length := by omega
      simp [zbn, hn', g1', this, zdJ, zfY]
      exact loop (by rw [hsh, hn]; simp; omega)
  by_cases h78 : k = 7 ∨ k = 8
  ·have hsh : zaS data vars k n ks.length = (n == 0 && ks.length == 1) := by rcases h78 with rfl | rfl <;> rfl
   cases hn : (n == 0) with
   | false =>
    have : (n != 0) = true := by simp [bne, hn]
    have fin := hF (by rw [hsh, hn]; rfl)
    simp only [zbZ, VT.cs]
    rcases h78 with rfl | rfl <;> simp [zbn, zcZ, this] <;> exact fin _
   | true =>
    have hn' : (n != 0) = false := by simp [bne, hn]
    by_cases g1 : ks.length = 1
    ·have g1' : ((ks.length : Int) != 1) = false := by simp [g1]
     have fin := loop (by rw [hsh, hn, g1]; rfl)
     simp only [zbZ, VT.cs]
     rcases h78 with rfl | rfl <;> simp [zbn, zcZ, hn', g1', zdJ, zfY] <;> exact fin
    ·have g1' : ((ks.length : Int) != 1) = true := by simp; omega
     have fin := hF (by rw [hsh]; simp [g1])
     simp only [zbZ, VT.cs]
     rcases h78 with rfl | rfl <;> simp [zbn, zcZ, hn', g1'] <;> exact fin _
  have b1 : (k == 1) = false := by simp; omega
  have b2 : (k == 2) = false := by simp; omega
  have b3 : (k == 3) = false := by simp; omega
  have b4 : (k == 4) = false := by simp; omega
  have b5 : (k == 5) = false := by simp; omega
  have b6 : (k == 6) = false := by simp; omega
  have b7 : (k == 7) = false := by simp; omega
  have b8 : (k == 8) = false := by simp; omega
  by_cases h9 : k = 9
  ·subst h9
   have hsh : zaS data vars 9 n ks.length = (n == 0 && decide (1 ≤ ks.length) && decide (ks.length ≤ 7)) := rfl
   simp only [zbZ, VT.cs]
   cases hn : (n == 0) with
   | false =>
    have : (n != 0) = true := by simp [bne, hn]
    simp [zbn, zcZ, this]
    exact hF (by rw [hsh, hn]; rfl) _
   | true =>
    have hn' : (n != 0) = false := by simp [bne, hn]
    by_cases g1 : ks.length < 1
    ·have : (ks.length : Int) < 1 := by omega
     simp [zbn, zcZ, hn', this]
     exact hF (by rw [hsh]; simp; omega) _
    ·have g1' : ¬ (ks.length : Int) < 1 := by omega
     by_cases g2 : 7 < ks.length
     ·have : (7 : Int) < ks.length := by omega
      simp [zbn, zcZ, hn', g1', this]
      exact hF (by rw [hsh]; simp; omega) _
     ·have : ¬ (7 : Int) < ks.length := by omega
      simp [zbn, zcZ, hn', g1', this, zdJ, zfY]
      exact loop (by rw [hsh, hn]; simp; omega)
  ·have b9 : (k == 9) = false := by simp; omega
   simp only [zbZ, VT.cs]
   simp [zbn, zcZ, b1, b2, b3, b4, b5, b6, b7, b8, b9]
   exact hF (by unfold zaS; simp [b1, b2, b3, b4, b5, b6, b7, b8, b9]) _
theorem zs3 (data : List Dat) (hdl : data.length ≤ 1000000) (vars : Int) (v : VT) (hb : v.nodes ≤ 1000000000) (H : zaa) (K : AV → zaa → Prop) (hK : K (.bool (zbe data vars v)) H) : ACalls tP zgQ [.sl (data.map Dat.cs) .none, .agg v.cs, .int .i64 vars] H K := by
 refine ACalls.out (zDx fun hs => ?_)
 have hO : ∀ J, Out H.length K (.bool (zbe data vars v)) (H ++ J) := fun J => Out.bool rfl (Nat.le_refl _) hs hK
 unfold zbe at hO
 simp [zs2]
 refine zsw _ v (Nat.le_refl _) hb _ _ ?_
 by_cases h : v.nodes ≤ 200
 ·have h' : (v.nodes : Int) ≤ 200 := by omega
  simp [h']
  refine zEI data hdl vars _ v (Nat.le_refl _) hb _ _ ?_
  simpa [h] using hO _
 ·have h' : ¬ (v.nodes : Int) ≤ 200 := by omega
  simp [h']
  simpa [h] using hO _
def zbr (es : List (List AV)) (id : Nat) : AV := match es with | [] => .snil | _ => .sl es (.own id)
def zb8 (e s : Nat) (n : Nat) : zaa := match n with | 0 => [] | n => [.perm e s n]
theorem zuz (es : List (List AV)) (id : Nat) : WkA (zbr es id) (.sl es .none) := by
 cases es with
 | nil => exact .snil
 | cons e es => exact .sl _ _
theorem zor (es : List (List AV)) {id n : Nat} (h : es = [] ∨ id < n) : (zbr es id).scA n = true := by
 cases es with
 | nil => rfl
 | cons e es =>
  rcases h with h | h
  ·cases h
  ·simpa [zbr, AV.scA, AV.scB] using h
theorem zuy (es : List (List AV)) (id : Nat) : (zbr es id).known = true := by cases es <;> rfl
theorem zux (es : List (List AV)) (id : Nat) : (zbr es id).cs? = some [zbr es id] := by cases es <;> rfl
theorem zuA {e s bytes : Nat} {es : List (List AV)} {y : List AV} {t : Tok} {H : zaa} {K : AV → zaa → Prop} (hy : y.length = s) (hb : (es.length + 1) * bytes ≤ 140737488355328) (hl : es.length + 1 ≤ 9223372036854775807)
  (hk : K (zbr (es ++ [y]) H.length) (H ++ zb8 e s (es.length + 1))) : zar e s bytes (zbr es H.length) (.sl [y] t) (H ++ zb8 e s es.length) K := by
 unfold zar zaW
 refine ⟨by simpa using hy, ?_⟩
 cases es with
 | nil =>
  unfold zaI
  simp [zbr, zb8] at *
  exact ⟨by omega, hk⟩
 | cons x es =>
  unfold zaI
  simp [zbr, zb8] at *
  refine ⟨⟨by omega, by omega⟩, hk⟩
theorem zos {e s bytes id n : Nat} {es : List (List AV)} {y : List AV} {t : Tok} {H0 Hh : zaa} {K : AV → zaa → Prop} (hn : n = es.length) (he : Hh = H0 ++ zb8 e s n) (hid : id = H0.length) (hy : y.length = s) (hb : (es.length + 1) * bytes ≤ 140737488355328) (hl : es.length + 1 ≤ 9223372036854775807)
  (hk : K (zbr (es ++ [y]) id) (H0 ++ zb8 e s (n + 1))) : zar e s bytes (zbr es id) (.sl [y] t) Hh K := by
 subst he hid hn
 exact zuA hy hb hl hk
@[simp] theorem zIS (es : List (List AV)) (id : Nat) : (zbr es id).cs? = some [zbr es id] := zux es id
@[simp] theorem zIT (es : List (List AV)) (id : Nat) : (zbr es id).known = true := zuy es id
theorem zdQ {v : VT} {k : AV → Prop} : zaA 3 [.int .i64 0, .int .i64 0, .snil] 1 [(0, .agg v.cs)] k = k (.sl [v.cs] .full) := by
 cases v
 exact propext Iff.rfl
theorem ze6 {l : List VT} {i : Nat} (h : i < l.length) : VT.css (l.take (i + 1)) = VT.css (l.take i) ++ [(l[i]).cs] := by
 rw [VT.css_map, VT.css_map, List.take_succ_eq_append_getElem h, List.map_append]
 rfl
theorem zpU {H J : zaa} {K : AV → zaa → Prop} {k n : Int} {ks : List VT} {id : Nat} (hs : HSc H) (hK : K (.agg (VT.mk k n ks).cs) H) : Out H.length K (.agg [.int .i64 k, .int .i64 n, zbr (VT.css ks) id]) (H ++ J) :=
 Out.at rfl (Nat.le_refl _) hs (WkV.agg (ds := [.int .i64 k, .int .i64 n, .sl (VT.css ks) .none]) ⟨.refl _, .refl _, zuz _ _, trivial⟩) rfl (by simp [AV.scV, AV.scA, AV.scB]) (by simpa [VT.cs] using hK)
theorem zu0 : ∀ (m : Nat) (v : VT), v.nodes ≤ m → v.nodes ≤ 1000000 → ∀ (H : zaa) (K : AV → zaa → Prop), K (.agg v.cs) H → ACalls tP zgS [.agg v.cs] H K := by
 intro m
 induction m with
 | zero => intro v h; have := v.nodes_pos; omega
 | succ m ih =>
  intro v hv hb H K hK
  obtain ⟨k, n, ks⟩ := v
  have hnl : VT.nodesL ks + 1 ≤ 1000000 := by simpa [VT.nodes] using hb
  have hll := VT.len_le ks
  refine ACalls.out (zDP fun hs => ?_)
  simp [VT.cs, zs7, zav, zaU, Nat.add_assoc]
  refine zDN (Inv := fun q t4 H' => ∃ i : Nat, i ≤ ks.length ∧ q = ks.length - i ∧ t4 = .int .i64 i ∧ H' = H ++ [.cells [.int .i64 k, .int .i64 n, .sl (VT.css ks) .none], .cells [.int .i64 0, .int .i64 0, .snil], .cells [.int .i64 k, .int .i64 n, zbr (VT.css (ks.take i)) (H.length + 3)]] ++ zb8 zaP 3 i) ks.length ?_ ?_
  ·intro _; exact ⟨0, by omega, by omega, rfl, by simp [zb8, zbr, VT.css]⟩
  ·rintro q t4 H' ⟨i, hi, rfl, rfl, rfl⟩ hsc hlen hsF Kb hKb
   by_cases hlt : i < ks.length
   ·have hki := VT.kid_lt (k := k) (n := n) hlt
    simp [znu, hlt]
    refine zbE (.agg (ks[i]).cs) (fun J => ih ks[i] (by omega) (by omega) _ _ ⟨rfl, rfl⟩) ?_
    rw [zdQ]
    refine zos (H0 := H ++ [.cells [.int .i64 k, .int .i64 n, .sl (VT.css ks) .none], .cells [.int .i64 0, .int .i64 0, .snil], .cells [.int .i64 k, .int .i64 n, zbr (VT.css (ks.take i)) (H.length + 3)]]) (n := i) (by simp; omega) (by simp) (by simp) (by simp) (by simp; omega) (by simp; omega) ?_
    rw [← ze6 hlt]
    simp
    rw [zal (by omega) (by omega)]
    refine hKb _ _ ⟨ks.length - (i + 1), by omega, Back.here (by simp [zb8]) ?_ ?_ ⟨_, rfl, i + 1, by omega, rfl, by simp, by simp⟩⟩
    ·refine hs.append ?_
     simp [AB.sc, zb8, AV.scA, AV.scB]
     exact zor _ (.inr (by omega))
    ·simp [zjf, AV.sc, AV.scV, AV.scA, AV.scB]
   ·obtain rfl : i = ks.length := by omega
    rw [List.take_length] at *
    simp [znu]
    exact zpU hs hK
theorem zde (args : List VT) : ∀ l : List VT, zaC args l = l.map (subst args)
 | [] => rfl
 | t :: ts => by rw [zaC, zde args ts]; rfl
theorem zBO (args : List VT) (ha : ∀ x ∈ args, x.nodes ≤ 1000000) (hal : args.length ≤ 1000000) : ∀ (m : Nat) (v : VT), v.nodes ≤ m → v.nodes ≤ 1000000 → ∀ (H : zaa) (K : AV → zaa → Prop), K (.agg (subst args v).cs) H → ACalls tP zgG [.agg v.cs, .sl (VT.css args) .none] H K := by
 intro m
 induction m with
 | zero => intro v h; have := v.nodes_pos; omega
 | succ m ih =>
  intro v hv hb H K hK
  obtain ⟨k, n, ks⟩ := v
  have hnl : VT.nodesL ks + 1 ≤ 1000000 := by simpa [VT.nodes] using hb
  have hll := VT.len_le ks
  refine ACalls.out (zBM fun hs => ?_)
  by_cases hvar : k = 4 ∧ 0 ≤ n ∧ n < args.length
  ·obtain ⟨rfl, h0, h1⟩ := hvar
   have hn : n.toNat < args.length := by omega
   have hK' : K (.agg (args[n.toNat]).cs) H := by
    rw [subst, if_pos ⟨rfl, h0, h1⟩, List.getElem?_eq_getElem hn] at hK
    exact hK
   simp [VT.cs, zmI, h0, h1, hn]
   refine zu0 _ _ (Nat.le_refl _) (ha _ (List.getElem_mem hn)) _ _ ?_
   generalize args[n.toNat] = x at *
   obtain ⟨k', n', ks'⟩ := x
   simp [VT.cs]
   exact Out.at rfl (Nat.le_refl _) hs .rfl' rfl rfl hK'
  ·have hK' : K (.agg (VT.mk k n (zaC args ks)).cs) H := by
    rw [subst, if_neg hvar] at hK
    exact hK
   have go : ∀ H1, H1 = H ++ [.cells [.int .i64 k, .int .i64 n, .sl (VT.css ks) .none], .cells [.int .i64 0, .int .i64 0, .snil], .cells [.int .i64 k, .int .i64 n, .snil]] → zmL (.sl (VT.css args) .none) (.ptr H.length 0) (.ptr (H.length + 1) 0) (.ptr (H.length + 2) 0) (.int .i64 0) H1 (Out H.length K) := by
    rintro _ rfl
    refine zBK (Inv := fun q t6 H' => ∃ i : Nat, i ≤ ks.length ∧ q = ks.length - i ∧ t6 = .int .i64 i ∧ H' = H ++ [.cells [.int .i64 k, .int .i64 n, .sl (VT.css ks) .none], .cells [.int .i64 0, .int .i64 0, .snil], .cells [.int .i64 k, .int .i64 n, zbr (VT.css ((zaC args ks).take i)) (H.length + 3)]] ++ zb8 zaP 3 i) ks.length ?_ ?_
    ·intro _; exact ⟨0, by omega, by omega, rfl, by simp [zb8, zbr, VT.css]⟩
    ·rintro q t6 H' ⟨i, hi, rfl, rfl, rfl⟩ hsc hlen hsF Kb hKb
     by_cases hlt : i < ks.length
     ·have hki := VT.kid_lt (k := k) (n := n) hlt
      have hlt' : i < (zaC args ks).length := by rw [zde]; simpa using hlt
      have hsi : (zaC args ks)[i] = subst args ks[i] := by simp [zde]
      simp [zmJ, hlt]
      refine zbE (.agg (subst args ks[i]).cs) (fun J => ih ks[i] (by omega) (by omega) _ _ ⟨rfl, rfl⟩) ?_
      rw [zdQ, ← hsi]
      refine zos (H0 := H ++ [.cells [.int .i64 k, .int .i64 n, .sl (VT.css ks) .none], .cells [.int .i64 0, .int .i64 0, .snil], .cells [.int .i64 k, .int .i64 n, zbr (VT.css ((zaC args ks).take i)) (H.length + 3)]]) (n := i) (by simp; omega) (by simp) (by simp) (by simp) (by simp; omega) (by simp; omega) ?_
      rw [← ze6 hlt']
      simp
      rw [zal (by omega) (by omega)]
      refine hKb _ _ ⟨ks.length - (i + 1), by omega, Back.here (by simp [zb8]) ?_ ?_ ⟨_, rfl, i + 1, by omega, rfl, by simp, by simp⟩⟩
      ·refine hs.append ?_
       simp [AB.sc, zb8, AV.scA, AV.scB]
       exact zor _ (.inr (by omega))
      ·simp [zix, AV.sc, AV.scV, AV.scA, AV.scB]
     ·obtain rfl : i = ks.length := by omega
      have e : (zaC args ks).take ks.length = zaC args ks := List.take_of_length_le (by rw [zde]; simp)
      rw [e]
      simp [zmJ]
      exact zpU hs hK'
   simp only [VT.cs, zmI]
   by_cases h4 : k = 4
   ·subst h4
    by_cases h0 : 0 ≤ n
    ·have h1 : ¬ n < args.length := fun h => hvar ⟨rfl, h0, h⟩
     simp [h0, h1, zav, zaU, Nat.add_assoc]
     exact go _ rfl
    ·simp [h0, zav, zaU, Nat.add_assoc]
     exact go _ rfl
   ·have h4' : (k == 4) = false := by simpa using h4
    simp [h4', zav, zaU, Nat.add_assoc]
    exact go _ rfl
mutual
theorem zqD {args : List VT} {M : Nat} (h1 : 1 ≤ M) (ha : ∀ x ∈ args, x.nodes ≤ M) : ∀ v : VT, (subst args v).nodes ≤ v.nodes * M
 | .mk k n ks => by
  unfold subst
  split
  ·rename_i h
   have hn : n.toNat < args.length := by omega
   rw [List.getElem?_eq_getElem hn]
   have := ha _ (List.getElem_mem hn)
   have h2 : M ≤ (VT.mk k n ks).nodes * M := by
    have := (VT.mk k n ks).nodes_pos
    exact Nat.le_mul_of_pos_left M this
   simp only [Option.getD_some]
   omega
  ·have := zqA h1 ha ks
   simp only [VT.nodes, Nat.succ_mul]
   omega
theorem zqA {args : List VT} {M : Nat} (h1 : 1 ≤ M) (ha : ∀ x ∈ args, x.nodes ≤ M) : ∀ l : List VT, VT.nodesL (zaC args l) ≤ VT.nodesL l * M
 | [] => by simp [zaC, VT.nodesL]
 | t :: ts => by
  have h2 := zqD h1 ha t
  have h3 := zqA h1 ha ts
  simp only [zaC, VT.nodesL, Nat.add_mul]
  omega
end
theorem zkk {k n : Int} {ks : List VT} : ∀ x ∈ ks, x.nodes ≤ (VT.mk k n ks).nodes := by
 intro x hx
 obtain ⟨i, hi, rfl⟩ := List.mem_iff_getElem.1 hx
 exact Nat.le_of_lt (VT.kid_lt hi)
theorem zqM {H : zaa} {x y : AB} : H ++ [x, y] = (H ++ [x]) ++ [y] := by simp
theorem zcj (data : List Dat) (k n : Int) (ks : List VT) (c : Int) : zaL data (.mk k n ks) c = (if k = 5 ∧ 0 ≤ n ∧ 0 ≤ c then
  match data[n.toNat]? with
  | some d => if (ks.length : Int) = d.vars then
    match d.cons[c.toNat]? with
    | some co => if (co.args.map (subst ks)).all (fun x => decide (x.nodes ≤ 200)) = true then some (co.args.map (subst ks)) else none
    | none => none
   else none
  | none => none
 else none) := rfl
def zbK (o : Option (List VT)) : AV := match o with
 | some l => .tup [.sl (VT.css l) .none, .bool true]
 | none => .tup [.sl [] .none, .bool false]
theorem zpz {α : Type} {l : List α} {i : Nat} (h : i < l.length) {p : α → Prop} (h1 : ∀ x ∈ l.take i, p x) (h2 : p l[i]) : ∀ x ∈ l.take (i + 1), p x := by
 rw [List.take_succ_eq_append_getElem h]
 intro x hx
 rcases List.mem_append.1 hx with hx | hx
 ·exact h1 x hx
 ·simp at hx; subst hx; exact h2
theorem zbj (v : VT) : ∃ a b c, v.cs = [a, b, c] ∧ a.known = true ∧ b.known = true ∧ c.known = true := by
 obtain ⟨k, n, ks⟩ := v; exact ⟨_, _, _, rfl, rfl, rfl, rfl⟩
theorem zhR (data : List Dat) (hdl : data.length ≤ 1000000) (hda : ∀ d ∈ data, ∀ c ∈ d.cons, c.args.length ≤ 1000 ∧ ∀ x ∈ c.args, x.nodes ≤ 1000) (hdc : ∀ d ∈ data, d.cons.length ≤ 1000000) (t : VT) (ht : t.nodes ≤ 1000) (c : Int) (H : zaa) (K : AV → zaa → Prop) (hK : K (zbK (zaL data t c)) H) :
  ACalls tP zfl [.sl (data.map Dat.cs) .none, .agg t.cs, .int .i64 c] H K := by
 refine ACalls.out (zzg fun hs => ?_)
 obtain ⟨k, n, ks⟩ := t
 have hkn : VT.nodesL ks + 1 ≤ 1000 := by simpa [VT.nodes] using ht
 have hkl := VT.len_le ks
 have hF : zaL data (.mk k n ks) c = none → ∀ J, Out H.length K (.tup [.snil, .bool false]) (H ++ J) := fun h J => by
  rw [h] at hK
  exact Out.tup hs hK ⟨zd5, za4 rfl rfl, trivial⟩
 have hFF : ∀ J, zaL data (.mk k n ks) c = none → Out H.length K (.tup [.snil, .bool false]) (H ++ J) := fun J h => hF h J
 simp only [VT.cs, zrB]
 by_cases h5 : k = 5
 case neg =>
  have : (k != 5) = true := by simpa using h5
  simp [this, AV.isV]
  exact hF (by rw [zcj, if_neg (fun h => h5 h.1)]) _
 subst h5
 by_cases h0 : n < 0
 ·simp [h0, AV.isV]
  exact hF (by rw [zcj, if_neg (fun h => by have := h.2.1; omega)]) _
 by_cases h1 : (data.length : Int) ≤ n
 ·simp [h0, h1, AV.isV]
  exact hF (by
   rw [zcj]
   split
   ·rw [List.getElem?_eq_none (by omega)]
   ·rfl) _
 have hn : n.toNat < data.length := by omega
 have h1' : n < data.length := by omega
 have h0' : 0 ≤ n := by omega
 generalize hdd : data[n.toNat] = d at *
 have hd : d ∈ data := by rw [← hdd]; exact List.getElem_mem hn
 have hget : data[n.toNat]? = some d := by rw [List.getElem?_eq_getElem hn, hdd]
 cases hv : ((ks.length : Int) == d.vars) with
 | false =>
  have hv' : ((ks.length : Int) != d.vars) = true := by simp [bne, hv]
  simp [h0, h1, h0', h1', hn, hdd, Dat.cs, hv', AV.isV, hget]
  exact hF (by
   rw [zcj]
   split
   ·rw [hget]
    simp only
    rw [if_neg (by simpa using hv)]
   ·rfl) _
 | true =>
 have hv' : ((ks.length : Int) != d.vars) = false := by simp [bne, hv]
 have hve : (ks.length : Int) = d.vars := by simpa using hv
 by_cases hc0 : c < 0
 ·simp [h0, h1, h0', h1', hn, hdd, Dat.cs, hv', AV.isV, hget, hc0]
  exact hF (by rw [zcj, if_neg (fun h => by have := h.2.2; omega)]) _
 have hfe : ∀ o, (match d.cons[c.toNat]? with | some k => if (k.args.map (subst ks)).all (fun x => decide (x.nodes ≤ 200)) = true then some (k.args.map (subst ks)) else none | none => none) = o → zaL data (.mk 5 n ks) c = o := fun o h => by
  rw [zcj, if_pos ⟨rfl, h0', by omega⟩, hget]
  simp only
  rw [if_pos hve]
  exact h
 by_cases hc1 : (d.cons.length : Int) ≤ c
 ·simp [h0, h1, h0', h1', hn, hdd, Dat.cs, hv', AV.isV, hget, hc0, hc1]
  exact hF (hfe none (by rw [List.getElem?_eq_none (by omega)])) _
 have hcn : c.toNat < d.cons.length := by omega
 have hc1' : c < d.cons.length := by omega
 have hc0' : 0 ≤ c := by omega
 generalize hcc : d.cons[c.toNat] = co at *
 have hco : co ∈ d.cons := by rw [← hcc]; exact List.getElem_mem hcn
 have hgc : d.cons[c.toNat]? = some co := by rw [List.getElem?_eq_getElem hcn, hcc]
 obtain ⟨hal, han⟩ := hda d hd co hco
 have hfe' := fun o => hfe o
 rw [hgc] at hfe'
 simp only at hfe'
 have hsub : ∀ x ∈ co.args, (subst ks x).nodes ≤ 1000000 := fun x hx => by
  have h2 := zqD (M := 1000) (by omega) (fun y hy => Nat.le_trans (zkk (k := 5) (n := n) y hy) ht) x
  have h3 := han x hx
  have : x.nodes * 1000 ≤ 1000 * 1000 := Nat.mul_le_mul_right _ h3
  omega
 simp [h0, h1, h0', h1', hn, hdd, Dat.cs, hv', AV.isV, hget, hc0, hc1, hc0', hc1', hcn, hcc, Con.cs, hgc]
 have hperm : ∀ m, HSc (H ++ [.cells [.int .i64 5, .int .i64 n, .sl (VT.css ks) .none], .perm zaP 3 m]) := fun m => hs.append rfl
 unfold zhQ
 refine ALoop.own 8 zaP 3 rfl ?_
 have hlen1 : (H ++ [AB.cells [.int .i64 5, .int .i64 n, .sl (VT.css ks) .none]]).length = H.length + 1 := by simp
 rw [hlen1, List.append_assoc]
 show zhQ (.ptr H.length 0) (.sl [] (.own (H.length + 1))) (.sl (VT.css co.args) .none) (.int .i64 co.args.length) (.int .i64 0) (H ++ [.cells [.int .i64 5, .int .i64 n, .sl (VT.css ks) .none], .perm zaP 3 0]) (Out H.length K)
 refine zze (Inv := fun q t8 t65 H' => ∃ i : Nat, i ≤ co.args.length ∧ q = co.args.length - i ∧ t65 = .int .i64 i ∧ t8 = .sl (VT.css ((co.args.map (subst ks)).take i)) (.own (H.length + 1)) ∧ (∀ x ∈ co.args.take i, (subst ks x).nodes ≤ 200) ∧ H' = H ++ [.cells [.int .i64 5, .int .i64 n, .sl (VT.css ks) .none], .perm zaP 3 i]) co.args.length ?_ ?_
 ·intro _; exact ⟨0, by omega, by omega, rfl, by simp [VT.css], by simp, rfl⟩
 ·rintro q t8 t65 H' ⟨i, hi, rfl, rfl, rfl, hall, rfl⟩ hsc hlen hsF Kb hKb
  by_cases hlt : i < co.args.length
  ·have hmem := List.getElem_mem hlt
   have hx3 := hsub _ hmem
   obtain ⟨x, y, z, hvx, hx, hy, hz⟩ := zbj co.args[i]
   simp [zlU, hlt, hvx, hx, hy, hz]
   rw [← hvx]
   refine zBO ks (fun y hy => by have := zkk (k := 5) (n := n) y hy; omega) (by omega) _ co.args[i] (Nat.le_refl _) (by have := han _ hmem; omega) _ _ ?_
   obtain ⟨x', y', z', hvx', hx', hy', hz'⟩ := zbj (subst ks co.args[i])
   simp [hvx', hx', hy', hz']
   rw [← hvx']
   refine zsw _ _ (Nat.le_refl _) (by omega) _ _ ?_
   by_cases h200 : (subst ks co.args[i]).nodes ≤ 200
   ·have h200' : ¬ (200 : Int) < (subst ks co.args[i]).nodes := by omega
    simp [h200']
    rw [zdQ]
    simp [zar, zaW, zaI]
    refine ⟨by omega, by omega, ?_⟩
    rw [zal (by omega) (by omega), show min i co.args.length = i by omega]
    refine hKb _ _ ⟨co.args.length - (i + 1), by omega, Back.at (H2 := H ++ [.cells [.int .i64 5, .int .i64 n, .sl (VT.css ks) .none], .perm zaP 3 (i + 1)]) (J := [_, _]) (by simp; exact ⟨rfl, rfl⟩) (by simp) (hperm _) ?_ ⟨_, _, rfl, i + 1, by omega, rfl, by simp, ?_, zpz hlt hall h200, rfl⟩⟩
    ·simp [zhP, AV.sc, AV.scV, AV.scA, AV.scB]
    ·rw [ze6 (by simpa using hlt)]; simp
   ·have h200' : (200 : Int) < (subst ks co.args[i]).nodes := by omega
    simp [h200', AV.isV]
    refine hF (hfe' none ?_) _
    rw [if_neg]
    intro hal2
    have := List.all_eq_true.1 hal2 (subst ks co.args[i]) (List.mem_map.2 ⟨_, hmem, rfl⟩)
    exact h200 (of_decide_eq_true this)
  ·obtain rfl : i = co.args.length := by omega
   rw [List.take_length] at hall
   rw [List.take_of_length_le (by simp)]
   simp [zlU, AV.isV]
   have hfs := hfe' (some (co.args.map (subst ks))) (if_pos (List.all_eq_true.2 fun y hy => by
    obtain ⟨x, hx, rfl⟩ := List.mem_map.1 hy
    exact decide_eq_true (hall x hx)))
   rw [hfs] at hK
   exact Out.tup hs hK ⟨slV, za4 rfl rfl, trivial⟩
end Go.Proofs.YtacebbdfgbfgiaaGreat
namespace Go.Proofs.YtacebbdfgbfgiaaGreat
open Go Go.Abs
set_option maxRecDepth 100000
def zzY (_ : Nat) : List Bool := []
noncomputable def zzZ : Code := Tryz.f23.body.getD .skip
def zl6 (t0 t1 : AV) (H : zaa) (K : Kt) : Prop :=
 zaq t0 H fun t2 H =>
 zaq t1 H fun t3 H =>
 zaf 0 t2 fun t5 =>
 zad false 1 t5 H fun t6 =>
 zaf 0 t3 fun t7 =>
 zad false 1 t7 H fun t8 =>
 zac .eql false t6 t8 fun t9 =>
 zab t9 true H (fun K' => zaf 1 t2 (K' · H)) fun t11 H =>
 zab t9 true H (fun K' => zad false 1 t11 H (K' · H)) fun t12 H =>
 zab t9 true H (fun K' => zaf 1 t3 (K' · H)) fun t13 H =>
 zab t9 true H (fun K' => zad false 1 t13 H (K' · H)) fun t14 H =>
 zab t9 true H (fun K' => ACalls tP zfp [t12, t14] H K') fun t15 H =>
 zaj t9 t15 (.bool false) fun t16 =>
 K t16 H
theorem zz0 {t0 t1 : AV} {H : zaa} {K : Kt} (h : HSc H → zl6 t0 t1 H K) : ACalls tP zgA [t0, t1] H K :=
 zam (M := zzY) Tryz.func23 (c := zzZ) (by kernel_rfl) (fun hs => Eq.mpr (by kernel_rfl) (h hs))
def zhZ : Nat → List Bool
 | 4 => rl false [0,2,10,2,13]
 | _ => []
noncomputable def zl5 : Code := Tryz.f19.body.getD .skip
noncomputable def zzU : List ResultVar := Tryz.f19.results.toList
def zh0 (t0 t1 t12 t13 : AV) : List AV := t0 :: t1 :: ux 10 (t12 :: t13 :: ux 13 [])
def zzS : List Bool := zhZ 4
noncomputable def zzQ : Code := zao [1, 1, 0, 1, 0, 0] zl5
def zzP (K : Kt) : AExit → List AV → zaa → Prop := zap tP zhZ [1, 1, 0, 1, 0] zl5 (zaw tP zzU K)
def zrP (t0 t1 t12 t13 : AV) (H : zaa) (K : Kt) : Prop := ALoop tP zzQ (zzP K) (zh0 t0 t1 t12 t13) H
def zl4 (t0 t1 t12 t13 : AV) (H : zaa) (K : Kt) (Kb4 : Lt) : Prop :=
 zac .lss false t13 t12 fun t14 =>
 zag t14
 (zae H (fun K' => K' t0 H) fun t16 =>
 zae H (fun K' => K' t13 H) fun t17 =>
 zae H (fun K' => zai 2 t16 t17 (K' · H)) fun t18 =>
 zae H (fun K' => zan true 2 t18 H (K' · H)) fun t19 =>
 zae H (fun K' => K' t1 H) fun t20 =>
 zae H (fun K' => K' t13 H) fun t21 =>
 zae H (fun K' => zai 2 t20 t21 (K' · H)) fun t22 =>
 zae H (fun K' => zan true 2 t22 H (K' · H)) fun t23 =>
 zbl H (fun H K' => ACalls tP zgA [t19, t23] H K') fun t24 =>
 zae H (fun K' => aUn .not t24 (K' · H)) fun t25 =>
 zag t25
 (K (.bool false) H)
 (zac .add false t13 (.int .i64 1) fun t26 =>
 Kb4 (zh0 t0 t1 t12 t26) H))
 (K (.bool true) H)
def zl3 (t0 t1 : AV) (H : zaa) (K : Kt) : Prop :=
 zah 1 t0 fun t7 =>
 zah 1 t1 fun t9 =>
 zac .neq false t7 t9 fun t10 =>
 zag t10
 (K (.bool false) H)
 (zah 1 t0 fun t12 =>
 zrP t0 t1 t12 (.int .i64 0) H K)
theorem zzR {t0 t1 t12 t13 : AV} {H : zaa} {K : Kt} (Inv : Nat → AV → zaa → Prop) (n : Nat) (h0 : HSc H → Inv n t13 H)
  (round : Rd1 (fun t13 => zh0 t0 t1 t12 t13) (fun t13 => fun H Kb4 => zl4 t0 t1 t12 t13 H K Kb4) H Inv) : zrP t0 t1 t12 t13 H K :=
 lp1 (M := zhZ) zzS t13 (by kernel_rfl) Inv n h0 round
theorem zzT {t0 t1 : AV} {H : zaa} {K : Kt} (h : HSc H → zl3 t0 t1 H K) : ACalls tP zfp [t0, t1] H K :=
 zam (M := zhZ) Tryz.func19 (c := zl5) (by kernel_rfl) (fun hs => Eq.mpr (by kernel_rfl) (h hs))
def zhy : Nat → List Bool
 | 4 => rl false [0,2,10,2,13]
 | _ => []
noncomputable def zlF : Code := Tryz.f12.body.getD .skip
noncomputable def zx7 : List ResultVar := Tryz.f12.results.toList
def zhz (t0 t1 t12 t13 : AV) : List AV := t0 :: t1 :: ux 10 (t12 :: t13 :: ux 13 [])
def zx5 : List Bool := zhy 4
noncomputable def zx3 : Code := zao [1, 1, 0, 1, 0, 0] zlF
def zx2 (K : Kt) : AExit → List AV → zaa → Prop := zap tP zhy [1, 1, 0, 1, 0] zlF (zaw tP zx7 K)
def zrk (t0 t1 t12 t13 : AV) (H : zaa) (K : Kt) : Prop := ALoop tP zx3 (zx2 K) (zhz t0 t1 t12 t13) H
def zlE (t0 t1 t12 t13 : AV) (H : zaa) (K : Kt) (Kb4 : Lt) : Prop :=
 zac .lss false t13 t12 fun t14 =>
 zag t14
 (zae H (fun K' => K' t0 H) fun t16 =>
 zae H (fun K' => K' t13 H) fun t17 =>
 zae H (fun K' => zai 1 t16 t17 (K' · H)) fun t18 =>
 zae H (fun K' => zan false 1 t18 H (K' · H)) fun t19 =>
 zae H (fun K' => K' t1 H) fun t20 =>
 zae H (fun K' => K' t13 H) fun t21 =>
 zae H (fun K' => zai 1 t20 t21 (K' · H)) fun t22 =>
 zae H (fun K' => zan false 1 t22 H (K' · H)) fun t23 =>
 zbl H (fun H K' => ACalls tP zfp [t19, t23] H K') fun t24 =>
 zae H (fun K' => aUn .not t24 (K' · H)) fun t25 =>
 zag t25
 (K (.bool false) H)
 (zac .add false t13 (.int .i64 1) fun t26 =>
 Kb4 (zhz t0 t1 t12 t26) H))
 (K (.bool true) H)
def zrd (t0 t1 : AV) (H : zaa) (K : Kt) : Prop :=
 zah 1 t0 fun t7 =>
 zah 1 t1 fun t9 =>
 zac .neq false t7 t9 fun t10 =>
 zag t10
 (K (.bool false) H)
 (zah 1 t0 fun t12 =>
 zrk t0 t1 t12 (.int .i64 0) H K)
theorem zx4 {t0 t1 t12 t13 : AV} {H : zaa} {K : Kt} (Inv : Nat → AV → zaa → Prop) (n : Nat) (h0 : HSc H → Inv n t13 H)
  (round : Rd1 (fun t13 => zhz t0 t1 t12 t13) (fun t13 => fun H Kb4 => zlE t0 t1 t12 t13 H K Kb4) H Inv) : zrk t0 t1 t12 t13 H K :=
 lp1 (M := zhy) zx5 t13 (by kernel_rfl) Inv n h0 round
theorem zx6 {t0 t1 : AV} {H : zaa} {K : Kt} (h : HSc H → zrd t0 t1 H K) : ACalls tP zgr [t0, t1] H K :=
 zam (M := zhy) Tryz.func12 (c := zlF) (by kernel_rfl) (fun hs => Eq.mpr (by kernel_rfl) (h hs))
def zyC (_ : Nat) : List Bool := []
noncomputable def zyD : Code := Tryz.f13.body.getD .skip
def zrl (H : zaa) (K : Kt) : Prop :=
 zav [(.str []), .snil] [(0, 1), (1, 1)] [(0, (.str [67]))] fun t4 =>
 zaA 2 [(.str []), .snil] 1 [(0, t4)] fun t5 =>
 zav [(.str []), (.int .i64 0), .snil] [(0, 1), (1, 1), (2, 1)] [(0, (.str [68])), (2, t5)] fun t6 =>
 zaA 3 [(.str []), (.int .i64 0), .snil] 1 [(0, t6)] fun t7 =>
 zav [(.int .i64 0), (.int .i64 0), .snil] [(0, 1), (1, 1), (2, 1)] [(0, (.int .i64 5))] fun t10 =>
 zav [(.int .i64 0), .snil] [(0, 1), (1, 1)] [] fun t11 =>
 zaA 2 [(.int .i64 0), .snil] 1 [(0, t11)] fun t12 =>
 zav [(.int .i64 0), .snil] [(0, 1), (1, 1)] [(1, t12)] fun t13 =>
 ACalls tP zfx [t7, t10, (.int .i64 0), t13] H fun t14 H =>
 zas t14 0 fun t15 =>
 zas t14 1 fun t16 =>
 zac .eql false t16 (.int .i64 0) fun t18 =>
 zab t18 true H (fun K' => K' t15 H) fun t20 H =>
 zab t18 true H (fun K' => zah 1 t20 (K' · H)) fun t21 H =>
 zab t18 true H (fun K' => zac .eql false t21 (.int .i64 1) (K' · H)) fun t22 H =>
 zaj t18 t22 (.bool false) fun t23 =>
 zab t23 true H (fun K' => K' t15 H) fun t25 H =>
 zab t23 true H (fun K' => zai 1 t25 (.int .i64 0) (K' · H)) fun t26 H =>
 zab t23 true H (fun K' => zad false 1 t26 H (K' · H)) fun t27 H =>
 zab t23 true H (fun K' => zah 1 t27 (K' · H)) fun t28 H =>
 zab t23 true H (fun K' => zac .eql false t28 (.int .i64 0) (K' · H)) fun t29 H =>
 zaj t23 t29 (.bool false) fun t30 =>
 K t30 H
theorem zyE {H : zaa} {K : Kt} (h : HSc H → zrl H K) : ACalls tP zkp [] H K :=
 zam (M := zyC) Tryz.func13 (c := zyD) (by kernel_rfl) (fun hs => Eq.mpr (by kernel_rfl) (h hs))
def zEb (_ : Nat) : List Bool := []
noncomputable def zEc : Code := Tryz.f8.body.getD .skip
def zq6 (t0 t1 : AV) (H : zaa) (K : Kt) : Prop :=
 zaq t1 H fun t3 H =>
 ACalls tP zky [t0] H fun t6 H =>
 zab t6 true H (fun K' => zad true 3 t3 H (K' · H)) fun t8 H =>
 zab t6 true H (fun K' => ACalls tP zkz [t8] H K') fun t9 H =>
 zaj t6 t9 (.bool false) fun t10 =>
 K t10 H
theorem zEd {t0 t1 : AV} {H : zaa} {K : Kt} (h : HSc H → zq6 t0 t1 H K) : ACalls tP zkJ [t0, t1] H K :=
 zam (M := zEb) Tryz.func8 (c := zEc) (by kernel_rfl) (fun hs => Eq.mpr (by kernel_rfl) (h hs))
def zzV (_ : Nat) : List Bool := []
noncomputable def zzW : Code := Tryz.f3.body.getD .skip
def zq1 (t0 t1 t2 t3 : AV) (H : zaa) (K : Kt) : Prop :=
 zaq t1 H fun t5 H =>
 zaq t3 H fun t7 H =>
 zad true 3 t5 H fun t14 =>
 ACalls tP zkJ [t0, t14] H fun t15 H =>
 aUn .not t15 fun t16 =>
 zab t16 false H (fun K' => zad true 2 t7 H (K' · H)) fun t18 H =>
 zab t16 false H (fun K' => ACalls tP zkN [t18] H K') fun t19 H =>
 zab t16 false H (fun K' => aUn .not t19 (K' · H)) fun t20 H =>
 zaj t16 (.bool true) t20 fun t21 =>
 zag t21
 (K (.bool true) H)
 (zad true 3 t5 H fun t24 =>
 zad true 2 t7 H fun t26 =>
 ACalls tP zfx [t0, t24, t2, t26] H fun t27 H =>
 zas t27 0 fun t28 =>
 zas t27 1 fun t29 =>
 zad true 3 t5 H fun t32 =>
 zad true 2 t7 H fun t34 =>
 ACalls tP zkR [t0, t32, t2, t34] H fun t35 H =>
 zas t35 0 fun t36 =>
 zas t35 1 fun t37 =>
 zac .eql false t29 t37 fun t40 =>
 zab t40 true H (fun K' => K' t28 H) fun t42 H =>
 zab t40 true H (fun K' => K' t36 H) fun t43 H =>
 zab t40 true H (fun K' => ACalls tP zgr [t42, t43] H K') fun t44 H =>
 zaj t40 t44 (.bool false) fun t45 =>
 zab t45 true H (fun K' => ACalls tP zkp [] H K') fun t47 H =>
 zaj t45 t47 (.bool false) fun t48 =>
 K t48 H)
theorem zzX {t0 t1 t2 t3 : AV} {H : zaa} {K : Kt} (h : HSc H → zq1 t0 t1 t2 t3 H K) : ACalls tP zkm [t0, t1, t2, t3] H K :=
 zam (M := zzV) Tryz.func3 (c := zzW) (by kernel_rfl) (fun hs => Eq.mpr (by kernel_rfl) (h hs))
def ziO : Nat → List Bool
 | 4 => rl false [2,2,6,3,12]
 | _ => []
noncomputable def zna : Code := Tryz.f54.body.getD .skip
noncomputable def zCR : List ResultVar := Tryz.f54.results.toList
def ziP (t2 t3 t10 t11 t12 : AV) : List AV := ux 2 (t2 :: t3 :: ux 6 (t10 :: t11 :: t12 :: ux 12 []))
def zCP : List Bool := ziO 4
noncomputable def zCN : Code := zao [1, 1, 0, 1, 0, 1, 0, 0] zna
def zCM (K : Kt) : AExit → List AV → zaa → Prop := zap tP ziO [1, 1, 0, 1, 0, 1, 0] zna (zaw tP zCR K)
def ziR (t2 t3 t10 t11 t12 : AV) (H : zaa) (K : Kt) : Prop := ALoop tP zCN (zCM K) (ziP t2 t3 t10 t11 t12) H
def ziQ (t2 t3 : AV) (H : zaa) (K : Kt) : Prop :=
 zad true 2 t3 H fun t24 =>
 zak 2 t2 t24 H fun H =>
 zad true 2 t2 H fun r0 =>
 K r0 H
def zm9 (t2 t3 t10 t11 t12 : AV) (H : zaa) (K : Kt) (Kb4 : Lt) : Prop :=
 zac .lss false t12 t11 fun t13 =>
 zag t13
 (zai 3 t10 t12 fun t14 =>
 zad true 3 t14 H fun t15 =>
 zau [(.int .i64 0), (.int .i64 0), .snil] H fun t5 H =>
 zak 3 t5 t15 H fun H =>
 zae H (fun K' => zaf 1 t3 (K' · H)) fun t16 =>
 zae H (fun K' => zan false 1 t16 H (K' · H)) fun t17 =>
 zae H (fun K' => zan true 3 t5 H (K' · H)) fun t18 =>
 zbl H (fun H K' => ACalls tP zgL [t18] H K') fun t19 =>
 zae H (fun K' => zaA 2 [(.int .i64 0), .snil] 1 [(0, t19)] (K' · H)) fun t20 =>
 zar zaO 2 32 t17 t20 H fun t21 H =>
 zae H (fun K' => zaf 1 t3 (K' · H)) fun t22 =>
 zak 1 t22 t21 H fun H =>
 zac .add false t12 (.int .i64 1) fun t23 =>
 Kb4 (ziP t2 t3 t10 t11 t23) H)
 (ziQ t2 t3 H K)
def zsL (t0 : AV) (H : zaa) (K : Kt) : Prop :=
 zaq t0 H fun t1 H =>
 zau [(.int .i64 0), .snil] H fun t2 H =>
 zau [(.int .i64 0), .snil] H fun t3 H =>
 zaf 0 t1 fun t6 =>
 zad false 1 t6 H fun t7 =>
 zac .eql false t7 (.int .i64 6) fun t8 =>
 zag t8
 (zaf 2 t1 fun t9 =>
 zad false 1 t9 H fun t10 =>
 zah 1 t10 fun t11 =>
 ziR t2 t3 t10 t11 (.int .i64 0) H K)
 (ziQ t2 t3 H K)
theorem zCO {t2 t3 t10 t11 t12 : AV} {H : zaa} {K : Kt} (Inv : Nat → AV → zaa → Prop) (n : Nat) (h0 : HSc H → Inv n t12 H)
  (round : Rd1 (fun t12 => ziP t2 t3 t10 t11 t12) (fun t12 => fun H Kb4 => zm9 t2 t3 t10 t11 t12 H K Kb4) H Inv) : ziR t2 t3 t10 t11 t12 H K :=
 lp1 (M := ziO) zCP t12 (by kernel_rfl) Inv n h0 round
theorem zCQ {t0 : AV} {H : zaa} {K : Kt} (h : HSc H → zsL t0 H K) : ACalls tP zgL [t0] H K :=
 zam (M := ziO) Tryz.func54 (c := zna) (by kernel_rfl) (fun hs => Eq.mpr (by kernel_rfl) (h hs))
def zAJ (_ : Nat) : List Bool := []
noncomputable def zAK : Code := Tryz.f30.body.getD .skip
def zr6 (t0 t1 : AV) (H : zaa) (K : Kt) : Prop :=
 zaq t1 H fun t3 H =>
 zau [(.int .i64 0), .snil] H fun t4 H =>
 zad true 3 t3 H fun t7 =>
 ACalls tP zfv [t0, t7] H fun t8 H =>
 aUn .not t8 fun t9 =>
 zag t9
 (zav [(.int .i64 0), .snil] [(0, 1), (1, 1)] [] fun t10 =>
 zak 2 t4 t10 H fun H =>
 zad true 2 t4 H fun r0 =>
 zax [r0, (.bool false)] (K · H))
 (zad true 3 t3 H fun t11 =>
 ACalls tP zgL [t11] H fun t12 H =>
 zak 2 t4 t12 H fun H =>
 zad true 2 t4 H fun r0 =>
 zax [r0, (.bool true)] (K · H))
theorem zAL {t0 t1 : AV} {H : zaa} {K : Kt} (h : HSc H → zr6 t0 t1 H K) : ACalls tP zkC [t0, t1] H K :=
 zam (M := zAJ) Tryz.func30 (c := zAK) (by kernel_rfl) (fun hs => Eq.mpr (by kernel_rfl) (h hs))
def zi0 : Nat → List Bool
 | 4 => rl false [2,2,7,3,12]
 | _ => []
noncomputable def zni : Code := Tryz.f62.body.getD .skip
noncomputable def zDk : List ResultVar := Tryz.f62.results.toList
def zi1 (t2 t3 t11 t12 t13 : AV) : List AV := ux 2 (t2 :: t3 :: ux 7 (t11 :: t12 :: t13 :: ux 12 []))
def zDi : List Bool := zi0 4
noncomputable def zDg : Code := zao [1, 1, 0, 1, 0, 1, 0, 0] zni
def zDf (K : Kt) : AExit → List AV → zaa → Prop := zap tP zi0 [1, 1, 0, 1, 0, 1, 0] zni (zaw tP zDk K)
def zi3 (t2 t3 t11 t12 t13 : AV) (H : zaa) (K : Kt) : Prop := ALoop tP zDg (zDf K) (zi1 t2 t3 t11 t12 t13) H
def zi2 (t2 t3 : AV) (H : zaa) (K : Kt) : Prop :=
 zad true 2 t3 H fun t25 =>
 zak 2 t2 t25 H fun H =>
 zad true 2 t2 H fun r0 =>
 K r0 H
def znh (t2 t3 t11 t12 t13 : AV) (H : zaa) (K : Kt) (Kb4 : Lt) : Prop :=
 zac .lss false t13 t12 fun t14 =>
 zag t14
 (zai 3 t11 t13 fun t15 =>
 zad true 3 t15 H fun t16 =>
 zau [(.int .i64 0), (.int .i64 0), .snil] H fun t5 H =>
 zak 3 t5 t16 H fun H =>
 zae H (fun K' => zaf 1 t3 (K' · H)) fun t17 =>
 zae H (fun K' => zan false 1 t17 H (K' · H)) fun t18 =>
 zae H (fun K' => zan true 3 t5 H (K' · H)) fun t19 =>
 zbl H (fun H K' => ACalls tP zgP [t19] H K') fun t20 =>
 zae H (fun K' => zaA 2 [(.int .i64 0), .snil] 1 [(0, t20)] (K' · H)) fun t21 =>
 zar zaO 2 32 t18 t21 H fun t22 H =>
 zae H (fun K' => zaf 1 t3 (K' · H)) fun t23 =>
 zak 1 t23 t22 H fun H =>
 zac .add false t13 (.int .i64 1) fun t24 =>
 Kb4 (zi1 t2 t3 t11 t12 t24) H)
 (zi2 t2 t3 H K)
def zsU (t0 : AV) (H : zaa) (K : Kt) : Prop :=
 zaq t0 H fun t1 H =>
 zau [(.int .i64 0), .snil] H fun t2 H =>
 zav [(.int .i64 0), .snil] [(0, 1), (1, 1)] [] fun t6 =>
 zau [(.int .i64 0), .snil] H fun t3 H =>
 zak 2 t3 t6 H fun H =>
 zaf 0 t1 fun t7 =>
 zad false 1 t7 H fun t8 =>
 zac .eql false t8 (.int .i64 6) fun t9 =>
 zag t9
 (zaf 2 t1 fun t10 =>
 zad false 1 t10 H fun t11 =>
 zah 1 t11 fun t12 =>
 zi3 t2 t3 t11 t12 (.int .i64 0) H K)
 (zi2 t2 t3 H K)
theorem zDh {t2 t3 t11 t12 t13 : AV} {H : zaa} {K : Kt} (Inv : Nat → AV → zaa → Prop) (n : Nat) (h0 : HSc H → Inv n t13 H)
  (round : Rd1 (fun t13 => zi1 t2 t3 t11 t12 t13) (fun t13 => fun H Kb4 => znh t2 t3 t11 t12 t13 H K Kb4) H Inv) : zi3 t2 t3 t11 t12 t13 H K :=
 lp1 (M := zi0) zDi t13 (by kernel_rfl) Inv n h0 round
theorem zDj {t0 : AV} {H : zaa} {K : Kt} (h : HSc H → zsU t0 H K) : ACalls tP zgP [t0] H K :=
 zam (M := zi0) Tryz.func62 (c := zni) (by kernel_rfl) (fun hs => Eq.mpr (by kernel_rfl) (h hs))
def zik : Nat → List Bool
 | 3 => rl false [2,2,6,3,12]
 | _ => []
noncomputable def zmu : Code := Tryz.f36.body.getD .skip
noncomputable def zBa : List ResultVar := Tryz.f36.results.toList
def zil (t2 t3 t10 t11 t12 : AV) : List AV := ux 2 (t2 :: t3 :: ux 6 (t10 :: t11 :: t12 :: ux 12 []))
def zA8 : List Bool := zik 3
noncomputable def zA6 : Code := zao [1, 1, 0, 1, 0, 0] zmu
def zA5 (K : Kt) : AExit → List AV → zaa → Prop := zap tP zik [1, 1, 0, 1, 0] zmu (zaw tP zBa K)
def zim (t2 t3 t10 t11 t12 : AV) (H : zaa) (K : Kt) : Prop := ALoop tP zA6 (zA5 K) (zil t2 t3 t10 t11 t12) H
def zmt (t2 t3 t10 t11 t12 : AV) (H : zaa) (K : Kt) (Kb3 : Lt) : Prop :=
 zac .lss false t12 t11 fun t13 =>
 zag t13
 (zai 2 t10 t12 fun t14 =>
 zad true 2 t14 H fun t15 =>
 zau [(.int .i64 0), .snil] H fun t5 H =>
 zak 2 t5 t15 H fun H =>
 zae H (fun K' => zaf 1 t3 (K' · H)) fun t16 =>
 zae H (fun K' => zan false 1 t16 H (K' · H)) fun t17 =>
 zae H (fun K' => zan true 2 t5 H (K' · H)) fun t18 =>
 zbl H (fun H K' => ACalls tP zgD [t18] H K') fun t19 =>
 zae H (fun K' => zaA 2 [(.int .i64 0), .snil] 1 [(0, t19)] (K' · H)) fun t20 =>
 zar zaO 2 32 t17 t20 H fun t21 H =>
 zae H (fun K' => zaf 1 t3 (K' · H)) fun t22 =>
 zak 1 t22 t21 H fun H =>
 zac .add false t12 (.int .i64 1) fun t23 =>
 Kb3 (zil t2 t3 t10 t11 t23) H)
 (zad true 2 t3 H fun t24 =>
 zak 2 t2 t24 H fun H =>
 zad true 2 t2 H fun r0 =>
 K r0 H)
def zsg (t0 : AV) (H : zaa) (K : Kt) : Prop :=
 zaq t0 H fun t1 H =>
 zau [(.int .i64 0), .snil] H fun t2 H =>
 zaf 0 t1 fun t6 =>
 zad false 1 t6 H fun t7 =>
 zav [(.int .i64 0), .snil] [(0, 1), (1, 1)] [(0, t7)] fun t8 =>
 zau [(.int .i64 0), .snil] H fun t3 H =>
 zak 2 t3 t8 H fun H =>
 zaf 1 t1 fun t9 =>
 zad false 1 t9 H fun t10 =>
 zah 1 t10 fun t11 =>
 zim t2 t3 t10 t11 (.int .i64 0) H K
theorem zA7 {t2 t3 t10 t11 t12 : AV} {H : zaa} {K : Kt} (Inv : Nat → AV → zaa → Prop) (n : Nat) (h0 : HSc H → Inv n t12 H)
  (round : Rd1 (fun t12 => zil t2 t3 t10 t11 t12) (fun t12 => fun H Kb3 => zmt t2 t3 t10 t11 t12 H K Kb3) H Inv) : zim t2 t3 t10 t11 t12 H K :=
 lp1 (M := zik) zA8 t12 (by kernel_rfl) Inv n h0 round
theorem zA9 {t0 : AV} {H : zaa} {K : Kt} (h : HSc H → zsg t0 H K) : ACalls tP zgD [t0] H K :=
 zam (M := zik) Tryz.func36 (c := zmu) (by kernel_rfl) (fun hs => Eq.mpr (by kernel_rfl) (h hs))
def ziA : Nat → List Bool
 | 3 => rl false [2,2,6,3,12]
 | _ => []
noncomputable def zmQ : Code := Tryz.f45.body.getD .skip
noncomputable def zB6 : List ResultVar := Tryz.f45.results.toList
def ziB (t2 t3 t10 t11 t12 : AV) : List AV := ux 2 (t2 :: t3 :: ux 6 (t10 :: t11 :: t12 :: ux 12 []))
def zB4 : List Bool := ziA 3
noncomputable def zB2 : Code := zao [1, 1, 0, 1, 0, 0] zmQ
def zB1 (K : Kt) : AExit → List AV → zaa → Prop := zap tP ziA [1, 1, 0, 1, 0] zmQ (zaw tP zB6 K)
def ziC (t2 t3 t10 t11 t12 : AV) (H : zaa) (K : Kt) : Prop := ALoop tP zB2 (zB1 K) (ziB t2 t3 t10 t11 t12) H
def zmP (t2 t3 t10 t11 t12 : AV) (H : zaa) (K : Kt) (Kb3 : Lt) : Prop :=
 zac .lss false t12 t11 fun t13 =>
 zag t13
 (zai 2 t10 t12 fun t14 =>
 zad true 2 t14 H fun t15 =>
 zau [(.int .i64 0), .snil] H fun t5 H =>
 zak 2 t5 t15 H fun H =>
 zae H (fun K' => zaf 1 t3 (K' · H)) fun t16 =>
 zae H (fun K' => zan false 1 t16 H (K' · H)) fun t17 =>
 zae H (fun K' => zan true 2 t5 H (K' · H)) fun t18 =>
 zbl H (fun H K' => ACalls tP zfs [t18] H K') fun t19 =>
 zae H (fun K' => zaA 2 [(.int .i64 0), .snil] 1 [(0, t19)] (K' · H)) fun t20 =>
 zar zaO 2 32 t17 t20 H fun t21 H =>
 zae H (fun K' => zaf 1 t3 (K' · H)) fun t22 =>
 zak 1 t22 t21 H fun H =>
 zac .add false t12 (.int .i64 1) fun t23 =>
 Kb3 (ziB t2 t3 t10 t11 t23) H)
 (zad true 2 t3 H fun t24 =>
 zak 2 t2 t24 H fun H =>
 zad true 2 t2 H fun r0 =>
 K r0 H)
def zsy (t0 : AV) (H : zaa) (K : Kt) : Prop :=
 zaq t0 H fun t1 H =>
 zau [(.int .i64 0), .snil] H fun t2 H =>
 zaf 0 t1 fun t6 =>
 zad false 1 t6 H fun t7 =>
 zav [(.int .i64 0), .snil] [(0, 1), (1, 1)] [(0, t7)] fun t8 =>
 zau [(.int .i64 0), .snil] H fun t3 H =>
 zak 2 t3 t8 H fun H =>
 zaf 1 t1 fun t9 =>
 zad false 1 t9 H fun t10 =>
 zah 1 t10 fun t11 =>
 ziC t2 t3 t10 t11 (.int .i64 0) H K
theorem zB3 {t2 t3 t10 t11 t12 : AV} {H : zaa} {K : Kt} (Inv : Nat → AV → zaa → Prop) (n : Nat) (h0 : HSc H → Inv n t12 H)
  (round : Rd1 (fun t12 => ziB t2 t3 t10 t11 t12) (fun t12 => fun H Kb3 => zmP t2 t3 t10 t11 t12 H K Kb3) H Inv) : ziC t2 t3 t10 t11 t12 H K :=
 lp1 (M := ziA) zB4 t12 (by kernel_rfl) Inv n h0 round
theorem zB5 {t0 : AV} {H : zaa} {K : Kt} (h : HSc H → zsy t0 H K) : ACalls tP zfs [t0] H K :=
 zam (M := ziA) Tryz.func45 (c := zmQ) (by kernel_rfl) (fun hs => Eq.mpr (by kernel_rfl) (h hs))
def zAT (_ : Nat) : List Bool := []
noncomputable def zAU : Code := Tryz.f33.body.getD .skip
def zsc (t0 t1 : AV) (H : zaa) (K : Kt) : Prop :=
 ACalls tP zgC [t0, t1, (.fn zex [])] H fun t7 H =>
 K t7 H
theorem zAV {t0 t1 : AV} {H : zaa} {K : Kt} (h : HSc H → zsc t0 t1 H K) : ACalls tP zkD [t0, t1] H K :=
 zam (M := zAT) Tryz.func33 (c := zAU) (by kernel_rfl) (fun hs => Eq.mpr (by kernel_rfl) (h hs))
def zii : Nat → List Bool
 | 2 => rl false [0,3,8,3,25]
 | _ => []
noncomputable def zms : Code := Tryz.f34.body.getD .skip
noncomputable def zA1 : List ResultVar := Tryz.f34.results.toList
def zij (t0 t1 t2 t11 t12 t13 : AV) : List AV := t0 :: t1 :: t2 :: ux 8 (t11 :: t12 :: t13 :: ux 25 [])
def zAZ : List Bool := zii 2
noncomputable def zAX : Code := zao [1, 0, 1, 0, 0] zms
def zAW (K : Kt) : AExit → List AV → zaa → Prop := zap tP zii [1, 0, 1, 0] zms (zaw tP zA1 K)
def zse (t0 t1 t2 t11 t12 t13 : AV) (H : zaa) (K : Kt) : Prop := ALoop tP zAX (zAW K) (zij t0 t1 t2 t11 t12 t13) H
def zmr (t0 t1 t2 t11 t12 t13 : AV) (H : zaa) (K : Kt) (Kb2 : Lt) : Prop :=
 zac .lss false t13 t12 fun t14 =>
 zag t14
 (zai 2 t11 t13 fun t16 =>
 zad true 2 t16 H fun t17 =>
 zau [(.int .i64 0), .snil] H fun t8 H =>
 zak 2 t8 t17 H fun H =>
 zah 1 t1 fun t20 =>
 zac .geq false t13 t20 fun t21 =>
 zag t21
 (K (.int .i64 1) H)
 (zai 2 t1 t13 fun t24 =>
 zad true 2 t24 H fun t25 =>
 zau [(.int .i64 0), .snil] H fun t9 H =>
 zak 2 t9 t25 H fun H =>
 zad true 2 t8 H fun t27 =>
 zad true 2 t9 H fun t28 =>
 aCallV tP t2 [t27, t28] H fun t29 H =>
 zac .neq false t29 (.int .i64 0) fun t31 =>
 zag t31
 (K t29 H)
 (zac .add false t13 (.int .i64 1) fun t33 =>
 Kb2 (zij t0 t1 t2 t11 t12 t33) H)))
 (zah 1 t0 fun t35 =>
 zah 1 t1 fun t37 =>
 zac .lss false t35 t37 fun t38 =>
 zag t38
 (K (.int .i64 (-1)) H)
 (K (.int .i64 0) H))
def zsd (t0 t1 t2 : AV) (H : zaa) (K : Kt) : Prop :=
 zah 1 t0 fun t12 =>
 zse t0 t1 t2 t0 t12 (.int .i64 0) H K
theorem zAY {t0 t1 t2 t11 t12 t13 : AV} {H : zaa} {K : Kt} (Inv : Nat → AV → zaa → Prop) (n : Nat) (h0 : HSc H → Inv n t13 H)
  (round : Rd1 (fun t13 => zij t0 t1 t2 t11 t12 t13) (fun t13 => fun H Kb2 => zmr t0 t1 t2 t11 t12 t13 H K Kb2) H Inv) : zse t0 t1 t2 t11 t12 t13 H K :=
 lp1 (M := zii) zAZ t13 (by kernel_rfl) Inv n h0 round
theorem zA0 {t0 t1 t2 : AV} {H : zaa} {K : Kt} (h : HSc H → zsd t0 t1 t2 H K) : ACalls tP zgC [t0, t1, t2] H K :=
 zam (M := zii) Tryz.func34 (c := zms) (by kernel_rfl) (fun hs => Eq.mpr (by kernel_rfl) (h hs))
def zA2 (_ : Nat) : List Bool := []
noncomputable def zA3 : Code := Tryz.f35.body.getD .skip
def zsf (t0 t1 : AV) (H : zaa) (K : Kt) : Prop :=
 zaq t0 H fun t2 H =>
 zaq t1 H fun t3 H =>
 zae H (fun K' => zaf 0 t2 (K' · H)) fun t6 =>
 zae H (fun K' => zan false 1 t6 H (K' · H)) fun t7 =>
 zae H (fun K' => zaf 0 t3 (K' · H)) fun t8 =>
 zae H (fun K' => zan false 1 t8 H (K' · H)) fun t9 =>
 zbl H (fun H K' => ACalls tP zgN [t7, t9] H K') fun t10 =>
 zae H (fun K' => zaf 1 t2 (K' · H)) fun t11 =>
 zae H (fun K' => zan false 1 t11 H (K' · H)) fun t12 =>
 zae H (fun K' => zah 1 t12 (K' · H)) fun t13 =>
 zae H (fun K' => zaf 1 t3 (K' · H)) fun t14 =>
 zae H (fun K' => zan false 1 t14 H (K' · H)) fun t15 =>
 zae H (fun K' => zah 1 t15 (K' · H)) fun t16 =>
 zbl H (fun H K' => ACalls tP zgN [t13, t16] H K') fun t17 =>
 zae H (fun K' => zaA 1 [(.int .i64 0)] 2 [(0, t10), (1, t17)] (K' · H)) fun t18 =>
 zbl H (fun H K' => ACalls tP zkH [t18] H K') fun t19 =>
 zae H (fun K' => K' t19 H) fun t5 =>
 zac .neq false t5 (.int .i64 0) fun t21 =>
 zag t21
 (K t5 H)
 (zaf 1 t2 fun t23 =>
 zad false 1 t23 H fun t24 =>
 zaf 1 t3 fun t25 =>
 zad false 1 t25 H fun t26 =>
 ACalls tP zgC [t24, t26, (.fn zex [])] H fun t27 H =>
 K t27 H)
theorem zA4 {t0 t1 : AV} {H : zaa} {K : Kt} (h : HSc H → zsf t0 t1 H K) : ACalls tP zex [t0, t1] H K :=
 zam (M := zA2) Tryz.func35 (c := zA3) (by kernel_rfl) (fun hs => Eq.mpr (by kernel_rfl) (h hs))
def ziT : Nat → List Bool
 | 3 => rl false [3,1,2,3,9]
 | _ => []
noncomputable def znb : Code := Tryz.f58.body.getD .skip
noncomputable def zC1 : List ResultVar := Tryz.f58.results.toList
def ziV (t3 t6 t7 t8 : AV) : List AV := ux 3 (t3 :: ux 2 (t6 :: t7 :: t8 :: ux 9 []))
def zCZ : List Bool := ziT 3
noncomputable def zCX : Code := zao [1, 1, 0, 1, 0, 0] znb
def zCW (K : Kt) : AExit → List AV → zaa → Prop := zap tP ziT [1, 1, 0, 1, 0] znb (zaw tP zC1 K)
def zsN (t3 t6 t7 t8 : AV) (H : zaa) (K : Kt) : Prop := ALoop tP zCX (zCW K) (ziV t3 t6 t7 t8) H
def ziU (t3 t6 t7 t8 : AV) (H : zaa) (K : Kt) (Kb3 : Lt) : Prop :=
 zac .lss false t8 t7 fun t9 =>
 zag t9
 (zai 1 t6 t8 fun t10 =>
 zad false 1 t10 H fun t11 =>
 zac .neq false t11 t3 fun t14 =>
 zag t14
 (K t11 H)
 (zac .add false t8 (.int .i64 1) fun t16 =>
 Kb3 (ziV t3 t6 t7 t16) H))
 (K t3 H)
def zsM (t0 : AV) (H : zaa) (K : Kt) : Prop :=
 zah 1 t0 fun t7 =>
 zsN (.int .i64 0) t0 t7 (.int .i64 0) H K
theorem zCY {t3 t6 t7 t8 : AV} {H : zaa} {K : Kt} (Inv : Nat → AV → zaa → Prop) (n : Nat) (h0 : HSc H → Inv n t8 H)
  (round : Rd1 (fun t8 => ziV t3 t6 t7 t8) (fun t8 => fun H Kb3 => ziU t3 t6 t7 t8 H K Kb3) H Inv) : zsN t3 t6 t7 t8 H K :=
 lp1 (M := ziT) zCZ t8 (by kernel_rfl) Inv n h0 round
theorem zC0 {t0 : AV} {H : zaa} {K : Kt} (h : HSc H → zsM t0 H K) : ACalls tP zkH [t0] H K :=
 zam (M := ziT) Tryz.func58 (c := znb) (by kernel_rfl) (fun hs => Eq.mpr (by kernel_rfl) (h hs))
def zC2 (_ : Nat) : List Bool := []
noncomputable def zC3 : Code := Tryz.f59.body.getD .skip
def zsO (t0 t1 : AV) (H : zaa) (K : Kt) : Prop :=
 ACalls tP zgV [t0] H fun t8 H =>
 ACalls tP zgV [t1] H fun t10 H =>
 zag t8
 (zag t10
 (K (.int .i64 0) H)
 (K (.int .i64 (-1)) H))
 (zag t10
 (K (.int .i64 1) H)
 (zac .lss false t0 t1 fun t16 =>
 zag t16
 (K (.int .i64 (-1)) H)
 (zac .gtr false t0 t1 fun t19 =>
 zag t19
 (K (.int .i64 1) H)
 (K (.int .i64 0) H))))
theorem zC4 {t0 t1 : AV} {H : zaa} {K : Kt} (h : HSc H → zsO t0 t1 H K) : ACalls tP zgN [t0, t1] H K :=
 zam (M := zC2) Tryz.func59 (c := zC3) (by kernel_rfl) (fun hs => Eq.mpr (by kernel_rfl) (h hs))
def zEi (_ : Nat) : List Bool := []
noncomputable def zEj : Code := Tryz.f82.body.getD .skip
def ztg (t0 : AV) (H : zaa) (K : Kt) : Prop :=
 zac .neq false t0 t0 fun t5 =>
 K t5 H
theorem zEk {t0 : AV} {H : zaa} {K : Kt} (h : HSc H → ztg t0 H K) : ACalls tP zgV [t0] H K :=
 zam (M := zEi) Tryz.func82 (c := zEj) (by kernel_rfl) (fun hs => Eq.mpr (by kernel_rfl) (h hs))
def zBV (_ : Nat) : List Bool := []
noncomputable def zBW : Code := Tryz.f43.body.getD .skip
def zsx (t0 : AV) (H : zaa) (K : Kt) : Prop :=
 zag t0
 (K (.int .i64 (-1)) H)
 (K (.int .i64 1) H)
theorem zBX {t0 : AV} {H : zaa} {K : Kt} (h : HSc H → zsx t0 H K) : ACalls tP zgH [t0] H K :=
 zam (M := zBV) Tryz.func43 (c := zBW) (by kernel_rfl) (fun hs => Eq.mpr (by kernel_rfl) (h hs))
def zBY (_ : Nat) : List Bool := []
noncomputable def zBZ : Code := Tryz.f44.body.getD .skip
def zmO (t0 t1 : AV) (H : zaa) (K : Kt) : Prop :=
 zaq t0 H fun t2 H =>
 zaq t1 H fun t3 H =>
 zaf 0 t2 fun t5 =>
 zad false 1 t5 H fun t6 =>
 zaf 0 t3 fun t7 =>
 zad false 1 t7 H fun t8 =>
 zac .neq false t6 t8 fun t9 =>
 zag t9
 (zaf 0 t2 fun t10 =>
 zad false 1 t10 H fun t11 =>
 zaf 0 t3 fun t12 =>
 zad false 1 t12 H fun t13 =>
 zac .lss false t11 t13 fun t14 =>
 ACalls tP zgH [t14] H fun t15 H =>
 K t15 H)
 (zaf 1 t2 fun t16 =>
 zad false 1 t16 H fun t17 =>
 zaf 1 t3 fun t18 =>
 zad false 1 t18 H fun t19 =>
 ACalls tP zdY [t17, t19] H fun t20 H =>
 K t20 H)
theorem zB0 {t0 t1 : AV} {H : zaa} {K : Kt} (h : HSc H → zmO t0 t1 H K) : ACalls tP zgI [t0, t1] H K :=
 zam (M := zBY) Tryz.func44 (c := zBZ) (by kernel_rfl) (fun hs => Eq.mpr (by kernel_rfl) (h hs))
def zhX : Nat → List Bool
 | 4 => rl false [0,2,17,2,15]
 | _ => []
noncomputable def zl2 : Code := Tryz.f16.body.getD .skip
noncomputable def zzO : List ResultVar := Tryz.f16.results.toList
def zhY (t0 t1 t19 t20 : AV) : List AV := t0 :: t1 :: ux 17 (t19 :: t20 :: ux 15 [])
def zzM : List Bool := zhX 4
noncomputable def zzK : Code := zao [1, 1, 0, 1, 0, 0] zl2
def zzJ (K : Kt) : AExit → List AV → zaa → Prop := zap tP zhX [1, 1, 0, 1, 0] zl2 (zaw tP zzO K)
def zrO (t0 t1 t19 t20 : AV) (H : zaa) (K : Kt) : Prop := ALoop tP zzK (zzJ K) (zhY t0 t1 t19 t20) H
def zl1 (t0 t1 t19 t20 : AV) (H : zaa) (K : Kt) (Kb4 : Lt) : Prop :=
 zac .lss false t20 t19 fun t21 =>
 zag t21
 (zae H (fun K' => K' t0 H) fun t23 =>
 zae H (fun K' => K' t20 H) fun t24 =>
 zae H (fun K' => zai 2 t23 t24 (K' · H)) fun t25 =>
 zae H (fun K' => zan true 2 t25 H (K' · H)) fun t26 =>
 zae H (fun K' => K' t1 H) fun t27 =>
 zae H (fun K' => K' t20 H) fun t28 =>
 zae H (fun K' => zai 2 t27 t28 (K' · H)) fun t29 =>
 zae H (fun K' => zan true 2 t29 H (K' · H)) fun t30 =>
 zbl H (fun H K' => ACalls tP zgI [t26, t30] H K') fun t31 =>
 zae H (fun K' => K' t31 H) fun t6 =>
 zac .neq false t6 (.int .i64 0) fun t33 =>
 zag t33
 (K t6 H)
 (zac .add false t20 (.int .i64 1) fun t35 =>
 Kb4 (zhY t0 t1 t19 t35) H))
 (K (.int .i64 0) H)
def zlW (t0 t1 : AV) (H : zaa) (K : Kt) : Prop :=
 zah 1 t0 fun t8 =>
 zah 1 t1 fun t10 =>
 zac .neq false t8 t10 fun t11 =>
 zag t11
 (zah 1 t0 fun t13 =>
 zah 1 t1 fun t15 =>
 zac .lss false t13 t15 fun t16 =>
 ACalls tP zgH [t16] H fun t17 H =>
 K t17 H)
 (zah 1 t0 fun t19 =>
 zrO t0 t1 t19 (.int .i64 0) H K)
theorem zzL {t0 t1 t19 t20 : AV} {H : zaa} {K : Kt} (Inv : Nat → AV → zaa → Prop) (n : Nat) (h0 : HSc H → Inv n t20 H)
  (round : Rd1 (fun t20 => zhY t0 t1 t19 t20) (fun t20 => fun H Kb4 => zl1 t0 t1 t19 t20 H K Kb4) H Inv) : zrO t0 t1 t19 t20 H K :=
 lp1 (M := zhX) zzM t20 (by kernel_rfl) Inv n h0 round
theorem zzN {t0 t1 : AV} {H : zaa} {K : Kt} (h : HSc H → zlW t0 t1 H K) : ACalls tP zdY [t0, t1] H K :=
 zam (M := zhX) Tryz.func16 (c := zl2) (by kernel_rfl) (fun hs => Eq.mpr (by kernel_rfl) (h hs))
end Go.Proofs.YtacebbdfgbfgiaaGreat
