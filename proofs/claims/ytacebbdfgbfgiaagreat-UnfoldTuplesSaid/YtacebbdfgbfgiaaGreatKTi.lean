import Derived.Test.YtacebbdfgbfgiaaGreatIT
import Derived.Test.YtacebbdfgbfgiaaGreatKTz
namespace Go.Proofs.YtacebbdfgbfgiaaGreat
open Go Go.Abs
set_option maxRecDepth 100000
theorem ztp : zfk tP [28, 3, 26] = true := by kernel_rfl
theorem ztt : ∀ (n : Nat) (l : List AV), za9 tP n 28 l → ∃ v : IT, l = v.cs := by
 intro n
 induction n using Nat.strongRecOn with
 | _ n ih =>
  intro l h
  obtain ⟨n', hn, hl, hf⟩ := zgK Tryz.underlying28 h
  have hc : tP.cellsOf 28 = 2 := by kernel_rfl
  have hc3 : tP.cellsOf 3 = 1 := by kernel_rfl
  have hcx : tP.cellsOf 26 = 1 := by kernel_rfl
  rw [hc] at hl
  match l, hl with
  | [b, c], _ =>
   simp [hc3, hcx] at hf
   obtain ⟨h2, h3⟩ := hf
   obtain ⟨m, hm, _⟩ := zgJ Tryz.underlying3 h2
   obtain ⟨es, n2, hn2, hes, _, hel⟩ := zfr Tryz.underlying26 h3
   obtain ⟨ks, hks⟩ := zef (cs := IT.cs) (fun c hc => ih n2 (by omega) c (hel c hc))
   simp at hm hes
   exact ⟨.mk m ks, by simp [IT.cs, IT.css_map, hm, hes, hks]⟩
end Go.Proofs.YtacebbdfgbfgiaaGreat
