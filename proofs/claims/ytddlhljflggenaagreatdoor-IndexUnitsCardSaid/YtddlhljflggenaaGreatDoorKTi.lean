import Derived.Test.YtddlhljflggenaaGreatDoorIT
import Derived.Test.YtddlhljflggenaaGreatDoorKTz
set_option linter.unusedSimpArgs false
set_option linter.unusedVariables false
namespace Go.Proofs.YtddlhljflggenaaGreatDoor
open Go Go.Abs
set_option maxRecDepth 100000
theorem zzP : zgy tP [35, 3, 27] = true := by kernel_rfl
theorem zzV : ∀ (n : Nat) (l : List AV), zbg tP n 35 l → ∃ v : IT, l = v.cs := by
 intro n
 induction n using Nat.strongRecOn with
 | _ n ih =>
  intro l h
  obtain ⟨n', hn, hl, hf⟩ := ziG Tryz.underlying35 h
  have hc : tP.cellsOf 35 = 2 := by kernel_rfl
  have hc3 : tP.cellsOf 3 = 1 := by kernel_rfl
  have hcx : tP.cellsOf 27 = 1 := by kernel_rfl
  rw [hc] at hl
  match l, hl with
  | [b, c], _ =>
   simp [hc3, hcx] at hf
   obtain ⟨h2, h3⟩ := hf
   obtain ⟨m, hm, _⟩ := zff Tryz.underlying3 h2
   obtain ⟨es, n2, hn2, hes, _, hel⟩ := zgG Tryz.underlying27 h3
   obtain ⟨ks, hks⟩ := zeT (cs := IT.cs) (fun c hc => ih n2 (by omega) c (hel c hc))
   simp at hm hes
   exact ⟨.mk m ks, by simp [IT.cs, IT.css_map, hm, hes, hks]⟩
end Go.Proofs.YtddlhljflggenaaGreatDoor
