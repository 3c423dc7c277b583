/- Indices in writing: what both sides write. -/
import Derived.Test.YtfpmdpldabopjaaGreatDoorKIa
import Derived.Test.YtfpmdpldabopjaaGreatDoorKBa
import Derived.Test.YtfpmdpldabopjaaGreatDoorKCN
import Derived.Test.YtfpmdpldabopjaaGreatDoorKGK
import Derived.Test.YtfpmdpldabopjaaGreatDoorKIb
namespace Go.Proofs.YtfpmdpldabopjaaGreatDoor
open Go Go.Abs
set_option linter.unusedSimpArgs false
set_option linter.unusedVariables false
mutual
def fmtV (data : List Dat) : IT → VT → List UInt8
  | .mk n ks, t =>
    if t.kind = 6 then [40] ++ fmtA data ks t.kids true ++ [41]
    else if t.kind = 7 then small n.toNat
    else if t.kind = 5 then [91] ++ fmtE data ks t true ++ [93]
    else [42]
def fmtA (data : List Dat) : List IT → List VT → Bool → List UInt8
  | [], _, _ => []
  | v :: vs, ts, first => match ts with
    | t :: ts => (if first then [] else [44, 32]) ++ fmtV data v t ++ fmtA data vs ts false
    | [] => []
def fmtE (data : List Dat) : List IT → VT → Bool → List UInt8
  | [], _, _ => []
  | .mk c ks :: es, t, first => (if first then [] else [44, 32]) ++ conName data t c ++ (match payT data t c with
    | some ps => if ks.length = 0 then [] else [40] ++ fmtA data ks ps true ++ [41]
    | none => []) ++ fmtE data es t false
end
end Go.Proofs.YtfpmdpldabopjaaGreatDoor
namespace Go.Proofs.YtfpmdpldabopjaaGreatDoor
open Go Go.Abs
set_option linter.unusedSimpArgs false
set_option linter.unusedVariables false
set_option maxRecDepth 8000
end Go.Proofs.YtfpmdpldabopjaaGreatDoor
namespace Go.Proofs.YtfpmdpldabopjaaGreatDoor
open Go Go.Abs
set_option linter.unusedSimpArgs false
set_option linter.unusedVariables false
set_option maxRecDepth 8000
theorem rdA_el {data : List Dat} : ∀ {vs : List IT} {ts : List VT} {a : Int}, 0 ≤ rdA data vs ts a → ∀ (i : Nat) (hi : i < vs.length), ∃ ht : i < ts.length, 0 ≤ rdV data vs[i] ts[i]
  | [], ts, a, h, i, hi => by simp at hi
  | v :: vs, [], a, h, i, hi => by simp [rdA] at h
  | v :: vs, t :: ts, a, h, i, hi => by
    simp only [rdA] at h
    split at h
    · omega
    · rename_i hc
      cases i with
      | zero => exact ⟨by simp, by simp; omega⟩
      | succ i =>
        obtain ⟨h1, h2⟩ := rdA_el h i (by simpa using hi)
        exact ⟨by simpa using h1, by simpa using h2⟩
end Go.Proofs.YtfpmdpldabopjaaGreatDoor
namespace Go.Proofs.YtfpmdpldabopjaaGreatDoor
open Go Go.Abs
set_option linter.unusedSimpArgs false
set_option linter.unusedVariables false
set_option maxRecDepth 8000
theorem fmtV_mk (data : List Dat) (n : Int) (ks : List IT) (tk tn : Int) (tks : List VT) : fmtV data (.mk n ks) (.mk tk tn tks) =
    if tk = 6 then [40] ++ fmtA data ks tks true ++ [41]
    else if tk = 7 then small n.toNat
    else if tk = 5 then [91] ++ fmtE data ks (.mk tk tn tks) true ++ [93]
    else [42] := by
  rw [fmtV]
  rfl
end Go.Proofs.YtfpmdpldabopjaaGreatDoor
namespace Go.Proofs.YtfpmdpldabopjaaGreatDoor
open Go Go.Abs
set_option linter.unusedSimpArgs false
set_option linter.unusedVariables false
set_option maxRecDepth 8000
theorem rdE_el {data : List Dat} : ∀ {es : List IT} {t : VT} {a : Int}, 0 ≤ rdE data es t a → ∀ (i : Nat) (hi : i < es.length), ∃ c ks ps, es[i] = IT.mk c ks ∧ payT data t c = some ps ∧ ps.length = ks.length ∧ 0 ≤ rdA data ks ps 0
  | [], t, a, h, i, hi => by simp at hi
  | .mk c ks :: es, t, a, h, i, hi => by
    simp only [rdE] at h
    split at h
    · omega
    · split at h
      · omega
      · rename_i ps hp
        split at h
        · rename_i hl
          split at h
          · omega
          · rename_i hr
            cases i with
            | zero => exact ⟨c, ks, ps, by simp, hp, hl, by omega⟩
            | succ i =>
              obtain ⟨c', ks', ps', h1, h2⟩ := rdE_el h i (by simpa using hi)
              exact ⟨c', ks', ps', by simpa using h1, h2⟩
        · omega
theorem payT_con {data : List Dat} {k n : Int} {tks : List VT} {c : Int} {ps : List VT} (h : payT data (.mk k n tks) c = some ps) :
    k = 5 ∧ 0 ≤ n ∧ 0 ≤ c ∧ ∃ (hn : n.toNat < data.length) (hc : c.toNat < (data[n.toNat]).cons.length), conName data (.mk k n tks) c = ((data[n.toNat]).cons[c.toNat]).name := by
  unfold payT at h
  cases hf : fields data (.mk k n tks) c with
  | none => rw [hf] at h; cases h
  | some l =>
    obtain ⟨k5, n0, c0, hn, hc, _⟩ := fields_some hf
    exact ⟨k5, n0, c0, hn, hc, by simp [conName, VT.num, hn, hc]⟩
theorem fmtE_cons (data : List Dat) (c : Int) (ks es : List IT) (t : VT) (first : Bool) (ps : List VT) (hp : payT data t c = some ps) : fmtE data (.mk c ks :: es) t first =
    (if first then [] else [44, 32]) ++ conName data t c ++ (if ks.length = 0 then [] else [40] ++ fmtA data ks ps true ++ [41]) ++ fmtE data es t false := by
  rw [fmtE, hp]
end Go.Proofs.YtfpmdpldabopjaaGreatDoor
