/- The shallow forms of functions of the program, printed by a program (absgen.py) off the translation, each tied to the model by the kernel. -/
import Derived.Test.YtkdmpbhbmmhijaaKNum
import Derived.Test.YtkdmpbhbmmhijaaProg
import Derived.KernelRfl
namespace Go.Proofs.Ytkdmpbhbmmhijaa
open Go Go.Abs
set_option linter.unusedVariables false
set_option maxRecDepth 100000
def zq18_M (_ : Nat) : List Bool := []
noncomputable def zq18_c : Code := Try.f20.body.getD .skip
noncomputable def zq18_r : List ResultVar := Try.f20.results.toList
def zq18 (H : Heap) (K : Kt) : Prop :=
 aNew [.snil, .snil, .snil, .snil] H fun t0 H =>
 aBuild [(.int .i64 0), (.int .i64 0), .snil] [(0, 1), (1, 1), (2, 1)] [(0, (.int .i64 1))] fun t2 =>
 aNew [(.int .i64 0), (.int .i64 0), .snil] H fun t1 H =>
 aStore 3 t1 t2 H fun H =>
 aLoad true 3 t1 H fun t3 =>
 aBuild [(.str []), .snil, .snil, (.int .i64 0), (.int .i64 0), .snil, (.int .i64 0)] [(0, 1), (1, 1), (2, 1), (3, 3), (6, 1)] [(0, (.str [102])), (3, t3)] fun t4 =>
 aBuildS 7 [(.str []), .snil, .snil, (.int .i64 0), (.int .i64 0), .snil, (.int .i64 0)] 1 [(0, t4)] fun t5 =>
 aLoad true 3 t1 H fun t6 =>
 aBuild [(.int .i64 0), (.int .i64 0), .snil, .snil, .snil, (.int .i64 0), (.int .i64 0), .snil] [(0, 1), (1, 1), (2, 1), (3, 1), (4, 1), (5, 3)] [(0, (.int .i64 3)), (1, (.int .i64 1)), (5, t6)] fun t7 =>
 aBuildS 8 [(.int .i64 0), (.int .i64 0), .snil, .snil, .snil, (.int .i64 0), (.int .i64 0), .snil] 1 [(0, t7)] fun t8 =>
 aBuild [.snil, .snil, .snil, .snil] [(0, 1), (1, 1), (2, 1), (3, 1)] [(1, t5), (3, t8)] fun t9 =>
 aStore 4 t0 t9 H fun H =>
 aLoad true 4 t0 H fun r0 =>
 K r0 H
theorem zq18_eq (H : Heap) (K : Kt) : awp tP zq18_M zq18_c (retQ tP zq18_r K) (List.replicate 10 .unk) H = zq18 H K := by kernel_rfl
theorem zq18_ok {H : Heap} {K : Kt} (h : HSc H → zq18 H K) : ACalls tP n_zq18 [] H K :=
 acalls_body (M := zq18_M) Try.func20 (c := zq18_c) (by kernel_rfl) (fun hs => (zq18_eq H K).mpr (h hs))
end Go.Proofs.Ytkdmpbhbmmhijaa
