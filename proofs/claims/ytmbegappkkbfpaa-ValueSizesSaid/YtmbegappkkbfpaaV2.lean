/- ValueSizes: the arguments, and the claim. -/
import Derived.Test.YtmbegappkkbfpaaV1
import Derived.Test.YtmbegappkkbfpaaAbsT
import Derived.Test.YtmbegappkkbfpaaRows
import Derived.WalkKit
import Derived.ProofKit
import Derived.OpenShut
import Derived.ShutString
import Derived.ChangeOld
import Derived.Below
namespace Go.Proofs.Ytmbegappkkbfpaa
open Go Go.Abs
theorem valTypes : plainTypes Try.prog [25, 2, 3, 23] = true := by kernel_rfl
theorem vt_of : ∀ (n : Nat) (l : List AV), TyAV Try.prog n 25 l → ∃ v : VT, l = v.cs := by
  intro n
  induction n using Nat.strongRecOn with
  | _ n ih =>
    intro l h
    obtain ⟨n', hn, hl, hf⟩ := ty_struct Try.underlying25 h
    have hc : Try.prog.cellsOf 25 = 3 := by kernel_rfl
    have hc3 : Try.prog.cellsOf 3 = 1 := by kernel_rfl
    have hc2 : Try.prog.cellsOf 2 = 1 := by kernel_rfl
    have hc23 : Try.prog.cellsOf 23 = 1 := by kernel_rfl
    rw [hc] at hl
    match l, hl with
    | [a, b, c], _ =>
      simp [hc3, hc2, hc23] at hf
      obtain ⟨h1, h2, h3⟩ := hf
      obtain ⟨k, hk, _⟩ := ty_int Try.underlying3 h1
      obtain ⟨m, hm, _⟩ := ty_int Try.underlying2 h2
      obtain ⟨es, n2, hn2, hes, _, hel⟩ := ty_slice Try.underlying23 h3
      obtain ⟨ks, hks⟩ := list_of (cs := VT.cs) (fun c hc => ih n2 (by omega) c (hel c hc))
      simp at hk hm hes
      exact ⟨.mk k m ks, by simp [VT.cs, VT.css_map, hk, hm, hes, hks]⟩

namespace valueSizes
open Go.ChangeShapes Go.WideShapes Go.ChangeAt Go.RowKit
theorem own : ownKnob Try.prog.godebug = none := by kernel_rfl
theorem laidOut : laidOutB Try.prog = true := by kernel_rfl
set_option maxRecDepth 100000 in
theorem lifted (os : Os) (started : os.Started) (H : Type) (enc : TypeId × Value → H) :
    ReturnsInHanded {} Try.checked os 4 .any (Rows.valueSizesSpec.pre6 enc Try.prog Try.f4 Rows.valueSizesRow.domain false) (Rows.valueSizesSpec.post enc Try.prog Try.f4 false true false false) := by
  refine returnsInHanded_of_change (C := Try.checked) own started (by kernel_rfl) Try.func4
    (ChangeSpec.witness6 (enc := enc) (C := Try.checked) false ⟨#[], #[.agg #[.int .i64 0, .int .i64 0, .slice none 0 0]], []⟩ 8 (by kernel_rfl) (by kernel_rfl) (by kernel_rfl) (by kernel_rfl)) ?_
  intro W base args ds gs before hval0 hW hcnd _
  have hval : ∀ (j : Nat) t v, Try.f4.params[j]? = some t → args[j]? = some v → Value.okWide Try.prog W .any base t v := hval0
  have hW' := hW
  obtain ⟨p, q, hA0, hV, rfl, hfz, hnd⟩ := hW
  have hA : DataW.TrodAll enc Try.prog W 0 (fun _ => true) true Try.f4.params.toList args.toList ds p := hA0
  rw [Try.params4] at hA hval
  obtain ⟨v0, vs0, d0, ds0, p0, q0, hargs, rfl, rfl, h0, r0⟩ := trodAll_cons hA
  obtain ⟨rfl, rfl, rfl⟩ := trodAll_nil r0
  obtain rfl : args = #[v0] := by cases args; simp_all
  obtain ⟨rfl, rfl⟩ := trodVars_none hV
  have k0 := h0
  have lt0 : ∀ x ∈ p0, x.block < W.heap.size := by obtain ⟨m, hm⟩ := k0; exact DataW.trod_lt m _ _ _ hm
  obtain ⟨c0, rfl, _⟩ := okWide_struct Try.underlying25 (hval 0 25 v0 rfl rfl)
  obtain ⟨n0, l0, ht0, hr0⟩ := param_struct valTypes (by decide) h0
  obtain ⟨x0, rfl⟩ := vt_of n0 l0 ht0
  refine (top_of (sizes_law x0) W #[.agg c0] ⟨hr0, trivial⟩).mono fun e W' ⟨he, bel⟩ => ?_
  subst he
  exact ⟨_, rfl, _, _, _, [], _, [], hW', trodAll_mk1 (shut_bool Try.underlying4 _), (trodAll_cons_mk (Below.trod laidOut (by kernel_rfl) (of_decide_eq_true (by kernel_rfl)) k0 bel lt0) trodAll_mk0), rfl, bel.frame _, fun h => by cases h⟩

theorem over : Rows.valueSizesRow.holds Try.pinned (OpenSpec.ofChange Rows.valueSizesSpec) :=
  OpenClaim.holds_of_wide 4 Try.f4 rfl rfl rfl rfl rfl rfl rfl ⟨rfl, rfl, rfl, rfl, rfl⟩ rfl rfl rfl rfl rfl (by kernel_rfl) Try.func4 (by kernel_rfl)
    (of_decide_eq_true (by kernel_rfl)) (by unfold Func.isWrapper; first | (rw [if_pos (by decide +kernel)]; kernel_rfl) | (rw [if_neg (by decide +kernel)]; exact ⟨rfl, rfl⟩))
    (fun os started H enc _ => lifted os started H enc)
theorem proved : Rows.ValueSizesSaid := over
#print axioms proved
end valueSizes
end Go.Proofs.Ytmbegappkkbfpaa
