/- Values read off the arguments' data. -/
import Derived.Test.YtmbegappkkbfpaaVT
import Derived.Test.YtmbegappkkbfpaaAbsT
import Derived.Test.YtmbegappkkbfpaaProg
import Derived.KernelRfl
namespace Go.Proofs.Ytmbegappkkbfpaa
open Go Go.Abs
theorem valTypes : plainTypes Try.prog [25, 2, 3, 23] = true := by kernel_rfl
theorem vt_of : ∀ (n : Nat) (l : List AV), TyAV Try.prog n 25 l → ∃ v : VT, l = v.cs := by
  intro n
  induction n using Nat.strongRecOn with
  | _ n ih =>
    intro l h
    obtain ⟨n', hn, hl, hf⟩ := ty_struct Try.underlying25 h
    have hc : Try.prog.cellsOf 25 = 3 := by kernel_rfl
    have hc3 : Try.prog.cellsOf 3 = 1 := by kernel_rfl
    have hc2 : Try.prog.cellsOf 2 = 1 := by kernel_rfl
    have hc23 : Try.prog.cellsOf 23 = 1 := by kernel_rfl
    rw [hc] at hl
    match l, hl with
    | [a, b, c], _ =>
      simp [hc3, hc2, hc23] at hf
      obtain ⟨h1, h2, h3⟩ := hf
      obtain ⟨k, hk, _⟩ := ty_int Try.underlying3 h1
      obtain ⟨m, hm, _⟩ := ty_int Try.underlying2 h2
      obtain ⟨es, n2, hn2, hes, _, hel⟩ := ty_slice Try.underlying23 h3
      obtain ⟨ks, hks⟩ := list_of (cs := VT.cs) (fun c hc => ih n2 (by omega) c (hel c hc))
      simp at hk hm hes
      exact ⟨.mk k m ks, by simp [VT.cs, VT.css_map, hk, hm, hes, hks]⟩

end Go.Proofs.Ytmbegappkkbfpaa
