import Derived.Test.YtddlhljflggenaaGreatDoorCT
import Derived.Test.YtddlhljflggenaaGreatDoorAbsT
import Derived.Test.YtddlhljflggenaaGreatDoorKNum
import Derived.Test.YtddlhljflggenaaGreatDoorProg
import Derived.KernelRfl
set_option linter.unusedSimpArgs false
set_option linter.unusedVariables false
namespace Go.Proofs.YtddlhljflggenaaGreatDoor
open Go Go.Abs
set_option maxRecDepth 100000
theorem zd1 : zgy tP [22, 65, 63, 69, 25, 23, 3, 9] = true := by kernel_rfl
theorem ce3 : tP.cellsOf 3 = 1 := by kernel_rfl
theorem ce9 : tP.cellsOf 9 = 1 := by kernel_rfl
theorem zrD : tP.cellsOf 23 = 1 := by kernel_rfl
theorem zy3 : tP.cellsOf 63 = 1 := by kernel_rfl
theorem zy2 : tP.cellsOf 25 = 3 := by kernel_rfl
theorem zy4 : tP.cellsOf 65 = 3 := by kernel_rfl
theorem zy5 : tP.cellsOf 69 = 2 := by kernel_rfl
theorem ziF : ∀ (n : Nat) (l : List AV), zbg tP n 25 l → ∃ v : VT, l = v.cs := by
 intro n
 induction n using Nat.strongRecOn with
 | _ n ih =>
  intro l h
  obtain ⟨n', hn, hl, hf⟩ := ziG Tryz.underlying25 h
  rw [zy2] at hl
  match l, hl with
  | [a, b, c], _ =>
   simp [ce3, zrD] at hf
   obtain ⟨h1, h2, h3⟩ := hf
   obtain ⟨k, hk, _⟩ := zff Tryz.underlying3 h1
   obtain ⟨m, hm, _⟩ := zff Tryz.underlying3 h2
   obtain ⟨es, n2, hn2, hes, _, hel⟩ := zgG Tryz.underlying23 h3
   obtain ⟨ks, hks⟩ := zeT (cs := VT.cs) (fun c hc => ih n2 (by omega) c (hel c hc))
   simp at hk hm hes
   exact ⟨.mk k m ks, by simp [VT.cs, VT.css_map, hk, hm, hes, hks]⟩
theorem zze (n : Nat) (l : List AV) (h : zbg tP n 69 l) : ∃ c : Con, l = c.cs := by
 obtain ⟨n', hn, hl, hf⟩ := ziG Tryz.underlying69 h
 rw [zy5] at hl
 match l, hl with
 | [a, b], _ =>
  simp [ce9, zrD] at hf
  obtain ⟨h1, h2⟩ := hf
  obtain ⟨s, hs, _⟩ := zuh Tryz.underlying9 h1
  obtain ⟨es, n2, hn2, hes, _, hel⟩ := zgG Tryz.underlying23 h2
  obtain ⟨ks, hks⟩ := zeT (cs := VT.cs) (fun c hc => ziF n2 c (hel c hc))
  simp at hs hes
  exact ⟨⟨s, ks⟩, by simp [Con.cs, VT.css_map, hs, hes, hks]⟩
theorem zzl (n : Nat) (l : List AV) (h : zbg tP n 65 l) : ∃ d : Dat, l = d.cs := by
 obtain ⟨n', hn, hl, hf⟩ := ziG Tryz.underlying65 h
 rw [zy4] at hl
 match l, hl with
 | [a, b, c], _ =>
  simp [ce9, ce3, zy3] at hf
  obtain ⟨h1, h2, h3⟩ := hf
  obtain ⟨s, hs, _⟩ := zuh Tryz.underlying9 h1
  obtain ⟨m, hm, _⟩ := zff Tryz.underlying3 h2
  obtain ⟨es, n2, hn2, hes, _, hel⟩ := zgG Tryz.underlying63 h3
  obtain ⟨ks, hks⟩ := zeT (cs := Con.cs) (fun c hc => zze n2 c (hel c hc))
  simp at hs hm hes
  exact ⟨⟨s, m, ks⟩, by simp [Dat.cs, hs, hm, hes, hks]⟩
theorem zlB (n : Nat) (a : AV) (h : zbg tP n 22 [a]) : ∃ x : {l : List Dat // l.length ≤ 9223372036854775807}, a = .sl (x.1.map Dat.cs) .none := by
 obtain ⟨es, n1, _, hes, hm, hel⟩ := zgG Tryz.underlying22 h
 obtain ⟨k, hk⟩ := zeT (cs := Dat.cs) (fun c hc => zzl n1 c (hel c hc))
 simp at hes
 refine ⟨⟨k, ?_⟩, by rw [hes, hk]⟩
 rw [hk] at hm
 simpa [maxLen] using hm
end Go.Proofs.YtddlhljflggenaaGreatDoor
