import Derived.Test.YtacebbdfgbfgiaaGreatIT
import Derived.Test.YtacebbdfgbfgiaaGreatKTz
set_option linter.unusedSimpArgs false
set_option linter.unusedVariables false
namespace Go.Proofs.YtacebbdfgbfgiaaGreat
open Go Go.Abs
set_option maxRecDepth 100000
theorem zo4 : zfN tP [28, 3, 26] = true := by kernel_rfl
theorem zu7 : ∀ (n : Nat) (l : List AV), zbe tP n 28 l → ∃ v : IT, l = v.cs := by
 intro n
 induction n using Nat.strongRecOn with
 | _ n ih =>
  intro l h
  obtain ⟨n', hn, hl, hf⟩ := zhs Tryz.underlying28 h
  have hc : tP.cellsOf 28 = 2 := by kernel_rfl
  have hc3 : tP.cellsOf 3 = 1 := by kernel_rfl
  have hcx : tP.cellsOf 26 = 1 := by kernel_rfl
  rw [hc] at hl
  match l, hl with
  | [b, c], _ =>
   simp [hc3, hcx] at hf
   obtain ⟨h2, h3⟩ := hf
   obtain ⟨m, hm, _⟩ := zeP Tryz.underlying3 h2
   obtain ⟨es, n2, hn2, hes, _, hel⟩ := zeQ Tryz.underlying26 h3
   obtain ⟨ks, hks⟩ := zdZ (cs := IT.cs) (fun c hc => ih n2 (by omega) c (hel c hc))
   simp at hm hes
   exact ⟨.mk m ks, by simp [IT.cs, IT.css_map, hm, hes, hks]⟩
theorem zo8 (n : Nat) (a : AV) (h : zbe tP n 26 [a]) : ∃ x : {l : List IT // l.length ≤ 9223372036854775807}, a = .sl (IT.css x.1) .none := by
 obtain ⟨es, n1, _, hes, hm, hel⟩ := zeQ Tryz.underlying26 h
 obtain ⟨k, hk⟩ := zdZ (cs := IT.cs) (fun c hc => zu7 n1 c (hel c hc))
 simp at hes
 refine ⟨⟨k, ?_⟩, by rw [hes, hk, IT.css_map]⟩
 rw [hk] at hm
 simpa [maxLen] using hm
end Go.Proofs.YtacebbdfgbfgiaaGreat
