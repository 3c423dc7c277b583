/- The shallow forms of functions of the program, printed by a program (absgen.py) off the translation, each tied to the model by the kernel. -/
import Derived.Test.YtfpmdpldabopjaaGreatDoorKNum
import Derived.Test.YtfpmdpldabopjaaGreatDoorProg
import Derived.KernelRfl
namespace Go.Proofs.YtfpmdpldabopjaaGreatDoor
open Go Go.Abs
set_option linter.unusedVariables false
set_option maxRecDepth 100000
def zq204_M (_ : Nat) : List Bool := []
noncomputable def zq204_c : Code := Tryz.f207.body.getD .skip
noncomputable def zq204_r : List ResultVar := Tryz.f207.results.toList
def zq204 (t0 : AV) (H : Heap) (K : Kt) : Prop :=
 aBin .lss false t0 (.int .i64 10) fun t4 =>
 aTest t4
 (aBin .add false t0 (.int .i64 1) fun t7 =>
 aSlice 0 0 (.str [48, 49, 50, 51, 52, 53, 54, 55, 56, 57, 97, 98, 99, 100, 101, 102, 103, 104, 105, 106, 107, 108, 109, 110, 111, 112, 113, 114, 115, 116, 117, 118, 119, 120, 121, 122]) (some t0) (some t7) fun t8 =>
 K t8 H)
 (aBin .mul false t0 (.int .i64 2) fun t10 =>
 aBin .mul false t0 (.int .i64 2) fun t12 =>
 aBin .add false t12 (.int .i64 2) fun t13 =>
 aSlice 0 0 (.str [48, 48, 48, 49, 48, 50, 48, 51, 48, 52, 48, 53, 48, 54, 48, 55, 48, 56, 48, 57, 49, 48, 49, 49, 49, 50, 49, 51, 49, 52, 49, 53, 49, 54, 49, 55, 49, 56, 49, 57, 50, 48, 50, 49, 50, 50, 50, 51, 50, 52, 50, 53, 50, 54, 50, 55, 50, 56, 50, 57, 51, 48, 51, 49, 51, 50, 51, 51, 51, 52, 51, 53, 51, 54, 51, 55, 51, 56, 51, 57, 52, 48, 52, 49, 52, 50, 52, 51, 52, 52, 52, 53, 52, 54, 52, 55, 52, 56, 52, 57, 53, 48, 53, 49, 53, 50, 53, 51, 53, 52, 53, 53, 53, 54, 53, 55, 53, 56, 53, 57, 54, 48, 54, 49, 54, 50, 54, 51, 54, 52, 54, 53, 54, 54, 54, 55, 54, 56, 54, 57, 55, 48, 55, 49, 55, 50, 55, 51, 55, 52, 55, 53, 55, 54, 55, 55, 55, 56, 55, 57, 56, 48, 56, 49, 56, 50, 56, 51, 56, 52, 56, 53, 56, 54, 56, 55, 56, 56, 56, 57, 57, 48, 57, 49, 57, 50, 57, 51, 57, 52, 57, 53, 57, 54, 57, 55, 57, 56, 57, 57]) (some t10) (some t13) fun t14 =>
 K t14 H)
theorem zq204_eq (t0 : AV) (H : Heap) (K : Kt) : awp Tryz.prog zq204_M zq204_c (retQ Tryz.prog zq204_r K) (t0 :: List.replicate 14 .unk) H = zq204 t0 H K := by kernel_rfl
theorem zq204_ok {t0 : AV} {H : Heap} {K : Kt} (h : HSc H → zq204 t0 H K) : ACalls Tryz.prog n_zq204 [t0] H K :=
 acalls_body (M := zq204_M) Tryz.func207 (c := zq204_c) (by kernel_rfl) (fun hs => (zq204_eq t0 H K).mpr (h hs))
def zq110_M (_ : Nat) : List Bool := []
noncomputable def zq110_c : Code := Tryz.f112.body.getD .skip
noncomputable def zq110_r : List ResultVar := Tryz.f112.results.toList
def zq110 (t0 : AV) (H : Heap) (K : Kt) : Prop :=
 ACalls Tryz.prog n_zq165 [t0] H fun t4 H =>
 K t4 H
theorem zq110_eq (t0 : AV) (H : Heap) (K : Kt) : awp Tryz.prog zq110_M zq110_c (retQ Tryz.prog zq110_r K) (t0 :: List.replicate 4 .unk) H = zq110 t0 H K := by kernel_rfl
theorem zq110_ok {t0 : AV} {H : Heap} {K : Kt} (h : HSc H → zq110 t0 H K) : ACalls Tryz.prog n_zq110 [t0] H K :=
 acalls_body (M := zq110_M) Tryz.func112 (c := zq110_c) (by kernel_rfl) (fun hs => (zq110_eq t0 H K).mpr (h hs))
def zq165_M (_ : Nat) : List Bool := []
noncomputable def zq165_c : Code := Tryz.f167.body.getD .skip
noncomputable def zq165_r : List ResultVar := Tryz.f167.results.toList
def zq165 (t0 : AV) (H : Heap) (K : Kt) : Prop :=
 ACalls Tryz.prog n_zq163 [t0, (.int .i64 10)] H fun t4 H =>
 K t4 H
theorem zq165_eq (t0 : AV) (H : Heap) (K : Kt) : awp Tryz.prog zq165_M zq165_c (retQ Tryz.prog zq165_r K) (t0 :: List.replicate 4 .unk) H = zq165 t0 H K := by kernel_rfl
theorem zq165_ok {t0 : AV} {H : Heap} {K : Kt} (h : HSc H → zq165 t0 H K) : ACalls Tryz.prog n_zq165 [t0] H K :=
 acalls_body (M := zq165_M) Tryz.func167 (c := zq165_c) (by kernel_rfl) (fun hs => (zq165_eq t0 H K).mpr (h hs))
end Go.Proofs.YtfpmdpldabopjaaGreatDoor
