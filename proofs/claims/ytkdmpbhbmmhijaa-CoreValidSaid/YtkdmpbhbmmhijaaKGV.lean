/- The shallow forms of functions of the program, printed by a program (absgen.py) off the translation, each tied to the model by the kernel. -/
import Derived.Test.YtkdmpbhbmmhijaaKNum
import Derived.Test.YtkdmpbhbmmhijaaProg
import Derived.KernelRfl
namespace Go.Proofs.Ytkdmpbhbmmhijaa
open Go Go.Abs
set_option linter.unusedVariables false
set_option maxRecDepth 100000

/-! ### 3: amortcostlaw09.CoreValid -/
def zq1_M (_ : Nat) : List Bool := []
noncomputable def zq1_c : Code := Try.f3.body.getD .skip
noncomputable def zq1_r : List ResultVar := Try.f3.results.toList
def zq1 (t0 : AV) (H : Heap) (K : Kt) : Prop :=
 aBox t0 H fun t1 H =>
 aLoad true 4 t1 H fun t3 =>
 ACalls Try.prog n_zq10 [t3] H fun t4 H =>
 aUn .not t4 fun t5 =>
 aTest t5
 (K (.bool true) H)
 (aPure H (fun K' => aLoad true 4 t1 H (K' · H)) fun t6 =>
 aPureX H (fun H K' => ACalls Try.prog n_zq11 [t6] H K') fun t7 =>
 aPure H (fun K' => aLoad true 4 t1 H (K' · H)) fun t8 =>
 aPureX H (fun H K' => ACalls Try.prog n_zq12 [t8] H K') fun t9 =>
 aPure H (fun K' => aBin .eql true t7 t9 (K' · H)) fun t10 =>
 aPure H (fun K' => K' t10 H) fun t11 =>
 aGuardJ t11 true H (fun K' => aPureX H (fun H K'' => ACalls Try.prog n_zq13 [] H K'') (K' · H)) fun t12 H =>
 aPure H (fun K' => aPick t11 t12 (.bool false) (K' · H)) fun t13 =>
 aPure H (fun K' => K' t13 H) fun t2 =>
 K t2 H)
theorem zq1_eq (t0 : AV) (H : Heap) (K : Kt) : awp Try.prog zq1_M zq1_c (retQ Try.prog zq1_r K) (t0 :: List.replicate 13 .unk) H = zq1 t0 H K := by kernel_rfl
theorem zq1_ok {t0 : AV} {H : Heap} {K : Kt} (h : HSc H → zq1 t0 H K) : ACalls Try.prog n_zq1 [t0] H K :=
 acalls_body (M := zq1_M) Try.func3 (c := zq1_c) (by kernel_rfl) (fun hs => (zq1_eq t0 H K).mpr (h hs))

/-! ### 15: amortcostlaw09.awake -/
def zq13_M (_ : Nat) : List Bool := []
noncomputable def zq13_c : Code := Try.f15.body.getD .skip
noncomputable def zq13_r : List ResultVar := Try.f15.results.toList
def zq13 (H : Heap) (K : Kt) : Prop :=
 ACalls Try.prog n_zq18 [] H fun t2 H =>
 aNew [.snil, .snil, .snil, .snil] H fun t1 H =>
 aStore 4 t1 t2 H fun H =>
 aFld 3 t1 fun t3 =>
 aLoad false 1 t3 H fun t4 =>
 aIdxA 8 t4 (.int .i64 0) fun t5 =>
 aFld 1 t5 fun t6 =>
 aStore 1 t6 (.int .i64 1073741824) H fun H =>
 ACalls Try.prog n_zq18 [] H fun t7 H =>
 ACalls Try.prog n_zq11 [t7] H fun t8 H =>
 aGuardJ t8 true H (fun K' => aLoad true 4 t1 H (K' · H)) fun t10 H =>
 aGuardJ t8 true H (fun K' => ACalls Try.prog n_zq11 [t10] H K') fun t11 H =>
 aGuardJ t8 true H (fun K' => aUn .not t11 (K' · H)) fun t12 H =>
 aPick t8 t12 (.bool false) fun t13 =>
 K t13 H
theorem zq13_eq (H : Heap) (K : Kt) : awp Try.prog zq13_M zq13_c (retQ Try.prog zq13_r K) (List.replicate 14 .unk) H = zq13 H K := by kernel_rfl
theorem zq13_ok {H : Heap} {K : Kt} (h : HSc H → zq13 H K) : ACalls Try.prog n_zq13 [] H K :=
 acalls_body (M := zq13_M) Try.func15 (c := zq13_c) (by kernel_rfl) (fun hs => (zq13_eq H K).mpr (h hs))

/-! ### 20: amortcostlaw09.one -/
def zq18_M (_ : Nat) : List Bool := []
noncomputable def zq18_c : Code := Try.f20.body.getD .skip
noncomputable def zq18_r : List ResultVar := Try.f20.results.toList
def zq18 (H : Heap) (K : Kt) : Prop :=
 aNew [.snil, .snil, .snil, .snil] H fun t0 H =>
 aBuild [(.int .i64 0), (.int .i64 0), .snil] [(0, 1), (1, 1), (2, 1)] [(0, (.int .i64 1))] fun t2 =>
 aNew [(.int .i64 0), (.int .i64 0), .snil] H fun t1 H =>
 aStore 3 t1 t2 H fun H =>
 aLoad true 3 t1 H fun t3 =>
 aBuild [(.str []), .snil, .snil, (.int .i64 0), (.int .i64 0), .snil, (.int .i64 0)] [(0, 1), (1, 1), (2, 1), (3, 3), (6, 1)] [(0, (.str [102])), (3, t3)] fun t4 =>
 aBuildS 7 [(.str []), .snil, .snil, (.int .i64 0), (.int .i64 0), .snil, (.int .i64 0)] 1 [(0, t4)] fun t5 =>
 aLoad true 3 t1 H fun t6 =>
 aBuild [(.int .i64 0), (.int .i64 0), .snil, .snil, .snil, (.int .i64 0), (.int .i64 0), .snil] [(0, 1), (1, 1), (2, 1), (3, 1), (4, 1), (5, 3)] [(0, (.int .i64 3)), (1, (.int .i64 1)), (5, t6)] fun t7 =>
 aBuildS 8 [(.int .i64 0), (.int .i64 0), .snil, .snil, .snil, (.int .i64 0), (.int .i64 0), .snil] 1 [(0, t7)] fun t8 =>
 aBuild [.snil, .snil, .snil, .snil] [(0, 1), (1, 1), (2, 1), (3, 1)] [(1, t5), (3, t8)] fun t9 =>
 aStore 4 t0 t9 H fun H =>
 aLoad true 4 t0 H fun r0 =>
 K r0 H
theorem zq18_eq (H : Heap) (K : Kt) : awp Try.prog zq18_M zq18_c (retQ Try.prog zq18_r K) (List.replicate 10 .unk) H = zq18 H K := by kernel_rfl
theorem zq18_ok {H : Heap} {K : Kt} (h : HSc H → zq18 H K) : ACalls Try.prog n_zq18 [] H K :=
 acalls_body (M := zq18_M) Try.func20 (c := zq18_c) (by kernel_rfl) (fun hs => (zq18_eq H K).mpr (h hs))

end Go.Proofs.Ytkdmpbhbmmhijaa

