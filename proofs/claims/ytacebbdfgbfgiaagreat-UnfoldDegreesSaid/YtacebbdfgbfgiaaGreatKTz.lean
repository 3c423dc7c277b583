import Derived.Test.YtacebbdfgbfgiaaGreatAbsQ1
import Derived.Test.YtacebbdfgbfgiaaGreatAbsT
import Derived.Test.YtacebbdfgbfgiaaGreatKNum
import Derived.Test.YtacebbdfgbfgiaaGreatProg
import Derived.KernelRfl
set_option linter.unusedSimpArgs false
set_option linter.unusedVariables false
namespace Go.Proofs.YtacebbdfgbfgiaaGreat
open Go Go.Abs
set_option maxRecDepth 100000
theorem zkO : zfv tP [22, 57, 55, 70, 25, 23, 3, 9] = true := by kernel_rfl
theorem ce3 : tP.cellsOf 3 = 1 := by kernel_rfl
theorem ce9 : tP.cellsOf 9 = 1 := by kernel_rfl
theorem znH : tP.cellsOf 23 = 1 := by kernel_rfl
theorem ztB : tP.cellsOf 55 = 1 := by kernel_rfl
theorem ztA : tP.cellsOf 25 = 3 := by kernel_rfl
theorem ztC : tP.cellsOf 57 = 3 := by kernel_rfl
theorem ztD : tP.cellsOf 70 = 2 := by kernel_rfl
theorem zpZ : ∀ (n : Nat) (l : List AV), zba tP n 25 l → ∃ v : VT, l = v.cs := by
 intro n
 induction n using Nat.strongRecOn with
 | _ n ih =>
  intro l h
  obtain ⟨n', hn, hl, hf⟩ := zg0 Tryz.underlying25 h
  rw [ztA] at hl
  match l, hl with
  | [a, b, c], _ =>
   simp [ce3, znH] at hf
   obtain ⟨h1, h2, h3⟩ := hf
   obtain ⟨k, hk, _⟩ := zfD Tryz.underlying3 h1
   obtain ⟨m, hm, _⟩ := zfD Tryz.underlying3 h2
   obtain ⟨es, n2, hn2, hes, _, hel⟩ := zfE Tryz.underlying23 h3
   obtain ⟨ks, hks⟩ := zek (cs := VT.cs) (fun c hc => ih n2 (by omega) c (hel c hc))
   simp at hk hm hes
   exact ⟨.mk k m ks, by simp [VT.cs, VT.css_map, hk, hm, hes, hks]⟩
theorem ztI (n : Nat) (l : List AV) (h : zba tP n 70 l) : ∃ c : Con, l = c.cs := by
 obtain ⟨n', hn, hl, hf⟩ := zg0 Tryz.underlying70 h
 rw [ztD] at hl
 match l, hl with
 | [a, b], _ =>
  simp [ce9, znH] at hf
  obtain ⟨h1, h2⟩ := hf
  obtain ⟨s, hs, _⟩ := zp0 Tryz.underlying9 h1
  obtain ⟨es, n2, hn2, hes, _, hel⟩ := zfE Tryz.underlying23 h2
  obtain ⟨ks, hks⟩ := zek (cs := VT.cs) (fun c hc => zpZ n2 c (hel c hc))
  simp at hs hes
  exact ⟨⟨s, ks⟩, by simp [Con.cs, VT.css_map, hs, hes, hks]⟩
theorem ztN (n : Nat) (l : List AV) (h : zba tP n 57 l) : ∃ d : Dat, l = d.cs := by
 obtain ⟨n', hn, hl, hf⟩ := zg0 Tryz.underlying57 h
 rw [ztC] at hl
 match l, hl with
 | [a, b, c], _ =>
  simp [ce9, ce3, ztB] at hf
  obtain ⟨h1, h2, h3⟩ := hf
  obtain ⟨s, hs, _⟩ := zp0 Tryz.underlying9 h1
  obtain ⟨m, hm, _⟩ := zfD Tryz.underlying3 h2
  obtain ⟨es, n2, hn2, hes, _, hel⟩ := zfE Tryz.underlying55 h3
  obtain ⟨ks, hks⟩ := zek (cs := Con.cs) (fun c hc => ztI n2 c (hel c hc))
  simp at hs hm hes
  exact ⟨⟨s, m, ks⟩, by simp [Dat.cs, hs, hm, hes, hks]⟩
theorem ztP (n : Nat) (a : AV) (h : zba tP n 22 [a]) : ∃ x : {l : List Dat // l.length ≤ 9223372036854775807}, a = .sl (x.1.map Dat.cs) .none := by
 obtain ⟨es, n1, _, hes, hm, hel⟩ := zfE Tryz.underlying22 h
 obtain ⟨k, hk⟩ := zek (cs := Dat.cs) (fun c hc => ztN n1 c (hel c hc))
 simp at hes
 refine ⟨⟨k, ?_⟩, by rw [hes, hk]⟩
 rw [hk] at hm
 simpa [maxLen] using hm
end Go.Proofs.YtacebbdfgbfgiaaGreat
