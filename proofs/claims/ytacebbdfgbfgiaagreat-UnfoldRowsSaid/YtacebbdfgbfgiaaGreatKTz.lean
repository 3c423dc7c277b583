import Derived.Test.YtacebbdfgbfgiaaGreatKGY3
import Derived.Test.YtacebbdfgbfgiaaGreatAbsT
import Derived.Test.YtacebbdfgbfgiaaGreatKNum
import Derived.Test.YtacebbdfgbfgiaaGreatProg
import Derived.KernelRfl
set_option linter.unusedSimpArgs false
set_option linter.unusedVariables false
namespace Go.Proofs.YtacebbdfgbfgiaaGreat
open Go Go.Abs
set_option maxRecDepth 100000
theorem zls : zfC tP [22, 57, 55, 70, 25, 23, 3, 9] = true := by kernel_rfl
theorem ce3 : tP.cellsOf 3 = 1 := by kernel_rfl
theorem ce9 : tP.cellsOf 9 = 1 := by kernel_rfl
theorem zoL : tP.cellsOf 23 = 1 := by kernel_rfl
theorem zuQ : tP.cellsOf 55 = 1 := by kernel_rfl
theorem zuP : tP.cellsOf 25 = 3 := by kernel_rfl
theorem zuR : tP.cellsOf 57 = 3 := by kernel_rfl
theorem zuS : tP.cellsOf 70 = 2 := by kernel_rfl
theorem zqT : ∀ (n : Nat) (l : List AV), zbg tP n 25 l → ∃ v : VT, l = v.cs := by
 intro n
 induction n using Nat.strongRecOn with
 | _ n ih =>
  intro l h
  obtain ⟨n', hn, hl, hf⟩ := zhl Tryz.underlying25 h
  rw [zuP] at hl
  match l, hl with
  | [a, b, c], _ =>
   simp [ce3, zoL] at hf
   obtain ⟨h1, h2, h3⟩ := hf
   obtain ⟨k, hk, _⟩ := zfJ Tryz.underlying3 h1
   obtain ⟨m, hm, _⟩ := zfJ Tryz.underlying3 h2
   obtain ⟨es, n2, hn2, hes, _, hel⟩ := zfK Tryz.underlying23 h3
   obtain ⟨ks, hks⟩ := zet (cs := VT.cs) (fun c hc => ih n2 (by omega) c (hel c hc))
   simp at hk hm hes
   exact ⟨.mk k m ks, by simp [VT.cs, VT.css_map, hk, hm, hes, hks]⟩
theorem zuY (n : Nat) (l : List AV) (h : zbg tP n 70 l) : ∃ c : Con, l = c.cs := by
 obtain ⟨n', hn, hl, hf⟩ := zhl Tryz.underlying70 h
 rw [zuS] at hl
 match l, hl with
 | [a, b], _ =>
  simp [ce9, zoL] at hf
  obtain ⟨h1, h2⟩ := hf
  obtain ⟨s, hs, _⟩ := zqU Tryz.underlying9 h1
  obtain ⟨es, n2, hn2, hes, _, hel⟩ := zfK Tryz.underlying23 h2
  obtain ⟨ks, hks⟩ := zet (cs := VT.cs) (fun c hc => zqT n2 c (hel c hc))
  simp at hs hes
  exact ⟨⟨s, ks⟩, by simp [Con.cs, VT.css_map, hs, hes, hks]⟩
theorem zu3 (n : Nat) (l : List AV) (h : zbg tP n 57 l) : ∃ d : Dat, l = d.cs := by
 obtain ⟨n', hn, hl, hf⟩ := zhl Tryz.underlying57 h
 rw [zuR] at hl
 match l, hl with
 | [a, b, c], _ =>
  simp [ce9, ce3, zuQ] at hf
  obtain ⟨h1, h2, h3⟩ := hf
  obtain ⟨s, hs, _⟩ := zqU Tryz.underlying9 h1
  obtain ⟨m, hm, _⟩ := zfJ Tryz.underlying3 h2
  obtain ⟨es, n2, hn2, hes, _, hel⟩ := zfK Tryz.underlying55 h3
  obtain ⟨ks, hks⟩ := zet (cs := Con.cs) (fun c hc => zuY n2 c (hel c hc))
  simp at hs hm hes
  exact ⟨⟨s, m, ks⟩, by simp [Dat.cs, hs, hm, hes, hks]⟩
theorem zu5 (n : Nat) (a : AV) (h : zbg tP n 22 [a]) : ∃ x : {l : List Dat // l.length ≤ 9223372036854775807}, a = .sl (x.1.map Dat.cs) .none := by
 obtain ⟨es, n1, _, hes, hm, hel⟩ := zfK Tryz.underlying22 h
 obtain ⟨k, hk⟩ := zet (cs := Dat.cs) (fun c hc => zu3 n1 c (hel c hc))
 simp at hes
 refine ⟨⟨k, ?_⟩, by rw [hes, hk]⟩
 rw [hk] at hm
 simpa [maxLen] using hm
end Go.Proofs.YtacebbdfgbfgiaaGreat
