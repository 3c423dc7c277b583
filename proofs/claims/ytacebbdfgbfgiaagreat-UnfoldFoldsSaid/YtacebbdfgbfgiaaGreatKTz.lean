import Derived.Test.YtacebbdfgbfgiaaGreatAbsQ1
import Derived.Test.YtacebbdfgbfgiaaGreatAbsT
import Derived.Test.YtacebbdfgbfgiaaGreatKNum
import Derived.Test.YtacebbdfgbfgiaaGreatProg
import Derived.KernelRfl
set_option linter.unusedSimpArgs false
set_option linter.unusedVariables false
namespace Go.Proofs.YtacebbdfgbfgiaaGreat
open Go Go.Abs
set_option maxRecDepth 100000
theorem zeR : zfN tP [22, 57, 55, 70, 25, 23, 3, 9] = true := by kernel_rfl
theorem ce3 : tP.cellsOf 3 = 1 := by kernel_rfl
theorem ce9 : tP.cellsOf 9 = 1 := by kernel_rfl
theorem zoq : tP.cellsOf 23 = 1 := by kernel_rfl
theorem zuy : tP.cellsOf 55 = 1 := by kernel_rfl
theorem zux : tP.cellsOf 25 = 3 := by kernel_rfl
theorem zuz : tP.cellsOf 57 = 3 := by kernel_rfl
theorem zuA : tP.cellsOf 70 = 2 := by kernel_rfl
theorem zlp : ∀ (n : Nat) (l : List AV), zbe tP n 25 l → ∃ v : VT, l = v.cs := by
 intro n
 induction n using Nat.strongRecOn with
 | _ n ih =>
  intro l h
  obtain ⟨n', hn, hl, hf⟩ := zhs Tryz.underlying25 h
  rw [zux] at hl
  match l, hl with
  | [a, b, c], _ =>
   simp [ce3, zoq] at hf
   obtain ⟨h1, h2, h3⟩ := hf
   obtain ⟨k, hk, _⟩ := zeP Tryz.underlying3 h1
   obtain ⟨m, hm, _⟩ := zeP Tryz.underlying3 h2
   obtain ⟨es, n2, hn2, hes, _, hel⟩ := zeQ Tryz.underlying23 h3
   obtain ⟨ks, hks⟩ := zdZ (cs := VT.cs) (fun c hc => ih n2 (by omega) c (hel c hc))
   simp at hk hm hes
   exact ⟨.mk k m ks, by simp [VT.cs, VT.css_map, hk, hm, hes, hks]⟩
theorem zuF (n : Nat) (l : List AV) (h : zbe tP n 70 l) : ∃ c : Con, l = c.cs := by
 obtain ⟨n', hn, hl, hf⟩ := zhs Tryz.underlying70 h
 rw [zuA] at hl
 match l, hl with
 | [a, b], _ =>
  simp [ce9, zoq] at hf
  obtain ⟨h1, h2⟩ := hf
  obtain ⟨s, hs, _⟩ := zqH Tryz.underlying9 h1
  obtain ⟨es, n2, hn2, hes, _, hel⟩ := zeQ Tryz.underlying23 h2
  obtain ⟨ks, hks⟩ := zdZ (cs := VT.cs) (fun c hc => zlp n2 c (hel c hc))
  simp at hs hes
  exact ⟨⟨s, ks⟩, by simp [Con.cs, VT.css_map, hs, hes, hks]⟩
theorem zuJ (n : Nat) (l : List AV) (h : zbe tP n 57 l) : ∃ d : Dat, l = d.cs := by
 obtain ⟨n', hn, hl, hf⟩ := zhs Tryz.underlying57 h
 rw [zuz] at hl
 match l, hl with
 | [a, b, c], _ =>
  simp [ce9, ce3, zuy] at hf
  obtain ⟨h1, h2, h3⟩ := hf
  obtain ⟨s, hs, _⟩ := zqH Tryz.underlying9 h1
  obtain ⟨m, hm, _⟩ := zeP Tryz.underlying3 h2
  obtain ⟨es, n2, hn2, hes, _, hel⟩ := zeQ Tryz.underlying55 h3
  obtain ⟨ks, hks⟩ := zdZ (cs := Con.cs) (fun c hc => zuF n2 c (hel c hc))
  simp at hs hm hes
  exact ⟨⟨s, m, ks⟩, by simp [Dat.cs, hs, hm, hes, hks]⟩
theorem zoD (n : Nat) (a : AV) (h : zbe tP n 22 [a]) : ∃ x : {l : List Dat // l.length ≤ 9223372036854775807}, a = .sl (x.1.map Dat.cs) .none := by
 obtain ⟨es, n1, _, hes, hm, hel⟩ := zeQ Tryz.underlying22 h
 obtain ⟨k, hk⟩ := zdZ (cs := Dat.cs) (fun c hc => zuJ n1 c (hel c hc))
 simp at hes
 refine ⟨⟨k, ?_⟩, by rw [hes, hk]⟩
 rw [hk] at hm
 simpa [maxLen] using hm
end Go.Proofs.YtacebbdfgbfgiaaGreat
