import Derived.Test.YtfpmdpldabopjaaGreatDoorA3
import Derived.Test.YtfpmdpldabopjaaGreatDoorKNum
import Derived.Test.YtfpmdpldabopjaaGreatDoorProg
import Derived.KernelRfl
namespace Go.Proofs.YtfpmdpldabopjaaGreatDoor
open Go Go.Abs
set_option maxRecDepth 100000
theorem valTypes : plainTypes Tryz.prog [22, 64, 62, 66, 26, 28, 25, 23, 2, 3, 9] = true := by kernel_rfl
theorem ce3 : Tryz.prog.cellsOf 3 = 1 := by kernel_rfl
theorem ce9 : Tryz.prog.cellsOf 9 = 1 := by kernel_rfl
theorem ce26 : Tryz.prog.cellsOf 26 = 1 := by kernel_rfl
theorem ce62 : Tryz.prog.cellsOf 62 = 1 := by kernel_rfl
theorem ce28 : Tryz.prog.cellsOf 28 = 3 := by kernel_rfl
theorem ce64 : Tryz.prog.cellsOf 64 = 3 := by kernel_rfl
theorem ce66 : Tryz.prog.cellsOf 66 = 2 := by kernel_rfl
theorem ty_of : ∀ (n : Nat) (l : List AV), TyAV Tryz.prog n 28 l → ∃ v : VT, l = v.cs := by
 intro n
 induction n using Nat.strongRecOn with
 | _ n ih =>
  intro l h
  obtain ⟨n', hn, hl, hf⟩ := ty_struct Tryz.underlying28 h
  rw [ce28] at hl
  match l, hl with
  | [a, b, c], _ =>
   simp [ce3, ce26] at hf
   obtain ⟨h1, h2, h3⟩ := hf
   obtain ⟨k, hk, _⟩ := ty_int Tryz.underlying3 h1
   obtain ⟨m, hm, _⟩ := ty_int Tryz.underlying3 h2
   obtain ⟨es, n2, hn2, hes, _, hel⟩ := ty_slice Tryz.underlying26 h3
   obtain ⟨ks, hks⟩ := list_of (cs := VT.cs) (fun c hc => ih n2 (by omega) c (hel c hc))
   simp at hk hm hes
   exact ⟨.mk k m ks, by simp [VT.cs, VT.css_map, hk, hm, hes, hks]⟩
theorem con_of (n : Nat) (l : List AV) (h : TyAV Tryz.prog n 66 l) : ∃ c : Con, l = c.cs := by
 obtain ⟨n', hn, hl, hf⟩ := ty_struct Tryz.underlying66 h
 rw [ce66] at hl
 match l, hl with
 | [a, b], _ =>
  simp [ce9, ce26] at hf
  obtain ⟨h1, h2⟩ := hf
  obtain ⟨s, hs, _⟩ := ty_str Tryz.underlying9 h1
  obtain ⟨es, n2, hn2, hes, _, hel⟩ := ty_slice Tryz.underlying26 h2
  obtain ⟨ks, hks⟩ := list_of (cs := VT.cs) (fun c hc => ty_of n2 c (hel c hc))
  simp at hs hes
  exact ⟨⟨s, ks⟩, by simp [Con.cs, VT.css_map, hs, hes, hks]⟩
theorem dat_of (n : Nat) (l : List AV) (h : TyAV Tryz.prog n 64 l) : ∃ d : Dat, l = d.cs := by
 obtain ⟨n', hn, hl, hf⟩ := ty_struct Tryz.underlying64 h
 rw [ce64] at hl
 match l, hl with
 | [a, b, c], _ =>
  simp [ce9, ce3, ce62] at hf
  obtain ⟨h1, h2, h3⟩ := hf
  obtain ⟨s, hs, _⟩ := ty_str Tryz.underlying9 h1
  obtain ⟨m, hm, _⟩ := ty_int Tryz.underlying3 h2
  obtain ⟨es, n2, hn2, hes, _, hel⟩ := ty_slice Tryz.underlying62 h3
  obtain ⟨ks, hks⟩ := list_of (cs := Con.cs) (fun c hc => con_of n2 c (hel c hc))
  simp at hs hm hes
  exact ⟨⟨s, m, ks⟩, by simp [Dat.cs, hs, hm, hes, hks]⟩
theorem data_of (n : Nat) (a : AV) (h : TyAV Tryz.prog n 22 [a]) : ∃ x : {l : List Dat // l.length ≤ 9223372036854775807}, a = .sl (x.1.map Dat.cs) .none := by
 obtain ⟨es, n1, _, hes, hm, hel⟩ := ty_slice Tryz.underlying22 h
 obtain ⟨k, hk⟩ := list_of (cs := Dat.cs) (fun c hc => dat_of n1 c (hel c hc))
 simp at hes
 refine ⟨⟨k, ?_⟩, by rw [hes, hk]⟩
 rw [hk] at hm
 simpa [maxLen] using hm
end Go.Proofs.YtfpmdpldabopjaaGreatDoor
