import Derived.Test.YtjkkonpjecoieaaGreatKGY2
import Derived.Test.YtjkkonpjecoieaaGreatAbsT
import Derived.Test.YtjkkonpjecoieaaGreatKNum
import Derived.Test.YtjkkonpjecoieaaGreatProg
import Derived.KernelRfl
set_option linter.unusedSimpArgs false
set_option linter.unusedVariables false
namespace Go.Proofs.YtjkkonpjecoieaaGreat
open Go Go.Abs
set_option maxRecDepth 100000
theorem zos : zgU tP [22, 74, 72, 93, 23, 25, 28, 26, 2, 3, 9] = true := by kernel_rfl
theorem ce3 : tP.cellsOf 3 = 1 := by kernel_rfl
theorem ce2 : tP.cellsOf 2 = 1 := by kernel_rfl
theorem ce9 : tP.cellsOf 9 = 1 := by kernel_rfl
theorem zAv : tP.cellsOf 26 = 1 := by kernel_rfl
theorem zsv : tP.cellsOf 23 = 1 := by kernel_rfl
theorem zAx : tP.cellsOf 72 = 1 := by kernel_rfl
theorem zAw : tP.cellsOf 28 = 3 := by kernel_rfl
theorem zAu : tP.cellsOf 25 = 3 := by kernel_rfl
theorem zAy : tP.cellsOf 74 = 3 := by kernel_rfl
theorem zAz : tP.cellsOf 93 = 2 := by kernel_rfl
theorem zvp : ∀ (n : Nat) (l : List AV), zbv tP n 25 l → ∃ v : VT, l = v.cs := by
 intro n
 induction n using Nat.strongRecOn with
 | _ n ih =>
  intro l h
  obtain ⟨n', hn, hl, hf⟩ := zg5 Tryz.underlying25 h
  rw [zAu] at hl
  match l, hl with
  | [a, b, c], _ =>
   simp [ce3, zsv] at hf
   obtain ⟨h1, h2, h3⟩ := hf
   obtain ⟨k, hk, _⟩ := zfH Tryz.underlying3 h1
   obtain ⟨m, hm, _⟩ := zfH Tryz.underlying3 h2
   obtain ⟨es, n2, hn2, hes, _, hel⟩ := zfI Tryz.underlying23 h3
   obtain ⟨ks, hks⟩ := zeC (cs := VT.cs) (fun c hc => ih n2 (by omega) c (hel c hc))
   simp at hk hm hes
   exact ⟨.mk k m ks, by simp [VT.cs, VT.css_map, hk, hm, hes, hks]⟩
theorem zDz : ∀ (n : Nat) (l : List AV), zbv tP n 28 l → ∃ v : VT, l = v.cs := by
 intro n
 induction n using Nat.strongRecOn with
 | _ n ih =>
  intro l h
  obtain ⟨n', hn, hl, hf⟩ := zg5 Tryz.underlying28 h
  rw [zAw] at hl
  match l, hl with
  | [a, b, c], _ =>
   simp [ce2, ce3, zAv] at hf
   obtain ⟨h1, h2, h3⟩ := hf
   obtain ⟨k, hk, _⟩ := zfH Tryz.underlying3 h1
   obtain ⟨m, hm, _⟩ := zfH Tryz.underlying2 h2
   obtain ⟨es, n2, hn2, hes, _, hel⟩ := zfI Tryz.underlying26 h3
   obtain ⟨ks, hks⟩ := zeC (cs := VT.cs) (fun c hc => ih n2 (by omega) c (hel c hc))
   simp at hk hm hes
   exact ⟨.mk k m ks, by simp [VT.cs, VT.css_map, hk, hm, hes, hks]⟩
theorem zAF (n : Nat) (l : List AV) (h : zbv tP n 93 l) : ∃ c : Con, l = c.cs := by
 obtain ⟨n', hn, hl, hf⟩ := zg5 Tryz.underlying93 h
 rw [zAz] at hl
 match l, hl with
 | [a, b], _ =>
  simp [ce9, zsv] at hf
  obtain ⟨h1, h2⟩ := hf
  obtain ⟨s, hs, _⟩ := zvq Tryz.underlying9 h1
  obtain ⟨es, n2, hn2, hes, _, hel⟩ := zfI Tryz.underlying23 h2
  obtain ⟨ks, hks⟩ := zeC (cs := VT.cs) (fun c hc => zvp n2 c (hel c hc))
  simp at hs hes
  exact ⟨⟨s, ks⟩, by simp [Con.cs, VT.css_map, hs, hes, hks]⟩
theorem zAK (n : Nat) (l : List AV) (h : zbv tP n 74 l) : ∃ d : Dat, l = d.cs := by
 obtain ⟨n', hn, hl, hf⟩ := zg5 Tryz.underlying74 h
 rw [zAy] at hl
 match l, hl with
 | [a, b, c], _ =>
  simp [ce9, ce3, zAx] at hf
  obtain ⟨h1, h2, h3⟩ := hf
  obtain ⟨s, hs, _⟩ := zvq Tryz.underlying9 h1
  obtain ⟨m, hm, _⟩ := zfH Tryz.underlying3 h2
  obtain ⟨es, n2, hn2, hes, _, hel⟩ := zfI Tryz.underlying72 h3
  obtain ⟨ks, hks⟩ := zeC (cs := Con.cs) (fun c hc => zAF n2 c (hel c hc))
  simp at hs hm hes
  exact ⟨⟨s, m, ks⟩, by simp [Dat.cs, hs, hm, hes, hks]⟩
theorem zAL (n : Nat) (a : AV) (h : zbv tP n 22 [a]) : ∃ x : {l : List Dat // l.length ≤ 9223372036854775807}, a = .sl (x.1.map Dat.cs) .none := by
 obtain ⟨es, n1, _, hes, hm, hel⟩ := zfI Tryz.underlying22 h
 obtain ⟨k, hk⟩ := zeC (cs := Dat.cs) (fun c hc => zAK n1 c (hel c hc))
 simp at hes
 refine ⟨⟨k, ?_⟩, by rw [hes, hk]⟩
 rw [hk] at hm
 simpa [maxLen] using hm
end Go.Proofs.YtjkkonpjecoieaaGreat
