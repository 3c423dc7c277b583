import Derived.Test.YtacebbdfgbfgiaaGreatKGY3
import Derived.Test.YtacebbdfgbfgiaaGreatAbsT
import Derived.Test.YtacebbdfgbfgiaaGreatKNum
import Derived.Test.YtacebbdfgbfgiaaGreatProg
import Derived.KernelRfl
namespace Go.Proofs.YtacebbdfgbfgiaaGreat
open Go Go.Abs
set_option maxRecDepth 100000
theorem zpr : zfk tP [22, 57, 55, 70, 25, 23, 3, 9] = true := by kernel_rfl
theorem ce3 : tP.cellsOf 3 = 1 := by kernel_rfl
theorem ce9 : tP.cellsOf 9 = 1 := by kernel_rfl
theorem znl : tP.cellsOf 23 = 1 := by kernel_rfl
theorem zsZ : tP.cellsOf 55 = 1 := by kernel_rfl
theorem zsY : tP.cellsOf 25 = 3 := by kernel_rfl
theorem zs0 : tP.cellsOf 57 = 3 := by kernel_rfl
theorem zs1 : tP.cellsOf 70 = 2 := by kernel_rfl
theorem zpm : ∀ (n : Nat) (l : List AV), za9 tP n 25 l → ∃ v : VT, l = v.cs := by
 intro n
 induction n using Nat.strongRecOn with
 | _ n ih =>
  intro l h
  obtain ⟨n', hn, hl, hf⟩ := zgK Tryz.underlying25 h
  rw [zsY] at hl
  match l, hl with
  | [a, b, c], _ =>
   simp [ce3, znl] at hf
   obtain ⟨h1, h2, h3⟩ := hf
   obtain ⟨k, hk, _⟩ := zgJ Tryz.underlying3 h1
   obtain ⟨m, hm, _⟩ := zgJ Tryz.underlying3 h2
   obtain ⟨es, n2, hn2, hes, _, hel⟩ := zfr Tryz.underlying23 h3
   obtain ⟨ks, hks⟩ := zef (cs := VT.cs) (fun c hc => ih n2 (by omega) c (hel c hc))
   simp at hk hm hes
   exact ⟨.mk k m ks, by simp [VT.cs, VT.css_map, hk, hm, hes, hks]⟩
theorem zs6 (n : Nat) (l : List AV) (h : za9 tP n 70 l) : ∃ c : Con, l = c.cs := by
 obtain ⟨n', hn, hl, hf⟩ := zgK Tryz.underlying70 h
 rw [zs1] at hl
 match l, hl with
 | [a, b], _ =>
  simp [ce9, znl] at hf
  obtain ⟨h1, h2⟩ := hf
  obtain ⟨s, hs, _⟩ := zpn Tryz.underlying9 h1
  obtain ⟨es, n2, hn2, hes, _, hel⟩ := zfr Tryz.underlying23 h2
  obtain ⟨ks, hks⟩ := zef (cs := VT.cs) (fun c hc => zpm n2 c (hel c hc))
  simp at hs hes
  exact ⟨⟨s, ks⟩, by simp [Con.cs, VT.css_map, hs, hes, hks]⟩
theorem zta (n : Nat) (l : List AV) (h : za9 tP n 57 l) : ∃ d : Dat, l = d.cs := by
 obtain ⟨n', hn, hl, hf⟩ := zgK Tryz.underlying57 h
 rw [zs0] at hl
 match l, hl with
 | [a, b, c], _ =>
  simp [ce9, ce3, zsZ] at hf
  obtain ⟨h1, h2, h3⟩ := hf
  obtain ⟨s, hs, _⟩ := zpn Tryz.underlying9 h1
  obtain ⟨m, hm, _⟩ := zgJ Tryz.underlying3 h2
  obtain ⟨es, n2, hn2, hes, _, hel⟩ := zfr Tryz.underlying55 h3
  obtain ⟨ks, hks⟩ := zef (cs := Con.cs) (fun c hc => zs6 n2 c (hel c hc))
  simp at hs hm hes
  exact ⟨⟨s, m, ks⟩, by simp [Dat.cs, hs, hm, hes, hks]⟩
theorem ztc (n : Nat) (a : AV) (h : za9 tP n 22 [a]) : ∃ x : {l : List Dat // l.length ≤ 9223372036854775807}, a = .sl (x.1.map Dat.cs) .none := by
 obtain ⟨es, n1, _, hes, hm, hel⟩ := zfr Tryz.underlying22 h
 obtain ⟨k, hk⟩ := zef (cs := Dat.cs) (fun c hc => zta n1 c (hel c hc))
 simp at hes
 refine ⟨⟨k, ?_⟩, by rw [hes, hk]⟩
 rw [hk] at hm
 simpa [maxLen] using hm
end Go.Proofs.YtacebbdfgbfgiaaGreat
