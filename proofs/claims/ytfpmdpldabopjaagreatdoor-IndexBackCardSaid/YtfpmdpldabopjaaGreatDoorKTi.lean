/- Indices read off the arguments' data. -/
import Derived.Test.YtfpmdpldabopjaaGreatDoorIT
import Derived.Test.YtfpmdpldabopjaaGreatDoorKTz
namespace Go.Proofs.YtfpmdpldabopjaaGreatDoor
open Go Go.Abs
set_option maxRecDepth 100000
theorem indTypes : plainTypes Tryz.prog [37, 3, 35] = true := by kernel_rfl
theorem it_of : ∀ (n : Nat) (l : List AV), TyAV Tryz.prog n 37 l → ∃ v : IT, l = v.cs := by
  intro n
  induction n using Nat.strongRecOn with
  | _ n ih =>
    intro l h
    obtain ⟨n', hn, hl, hf⟩ := ty_struct Tryz.underlying37 h
    have hc : Tryz.prog.cellsOf 37 = 2 := by kernel_rfl
    have hc3 : Tryz.prog.cellsOf 3 = 1 := by kernel_rfl
    have hc35 : Tryz.prog.cellsOf 35 = 1 := by kernel_rfl
    rw [hc] at hl
    match l, hl with
    | [b, c], _ =>
      simp [hc3, hc35] at hf
      obtain ⟨h2, h3⟩ := hf
      obtain ⟨m, hm, _⟩ := ty_int Tryz.underlying3 h2
      obtain ⟨es, n2, hn2, hes, _, hel⟩ := ty_slice Tryz.underlying35 h3
      obtain ⟨ks, hks⟩ := list_of (cs := IT.cs) (fun c hc => ih n2 (by omega) c (hel c hc))
      simp at hm hes
      exact ⟨.mk m ks, by simp [IT.cs, IT.css_map, hm, hes, hks]⟩
end Go.Proofs.YtfpmdpldabopjaaGreatDoor
