/- Indices read off the arguments' data. -/
import Derived.Test.YtmbegappkkbfpaaIT
import Derived.Test.YtmbegappkkbfpaaAbsT
import Derived.Test.YtmbegappkkbfpaaProg
import Derived.KernelRfl
namespace Go.Proofs.Ytmbegappkkbfpaa
open Go Go.Abs
theorem indTypes : plainTypes Try.prog [33, 3, 31] = true := by kernel_rfl
theorem it_of : ∀ (n : Nat) (l : List AV), TyAV Try.prog n 33 l → ∃ v : IT, l = v.cs := by
  intro n
  induction n using Nat.strongRecOn with
  | _ n ih =>
    intro l h
    obtain ⟨n', hn, hl, hf⟩ := ty_struct Try.underlying33 h
    have hc : Try.prog.cellsOf 33 = 2 := by kernel_rfl
    have hc3 : Try.prog.cellsOf 3 = 1 := by kernel_rfl
    have hc31 : Try.prog.cellsOf 31 = 1 := by kernel_rfl
    rw [hc] at hl
    match l, hl with
    | [b, c], _ =>
      simp [hc3, hc31] at hf
      obtain ⟨h2, h3⟩ := hf
      obtain ⟨m, hm, _⟩ := ty_int Try.underlying3 h2
      obtain ⟨es, n2, hn2, hes, _, hel⟩ := ty_slice Try.underlying31 h3
      obtain ⟨ks, hks⟩ := list_of (cs := IT.cs) (fun c hc => ih n2 (by omega) c (hel c hc))
      simp at hm hes
      exact ⟨.mk m ks, by simp [IT.cs, IT.css_map, hm, hes, hks]⟩
end Go.Proofs.Ytmbegappkkbfpaa
