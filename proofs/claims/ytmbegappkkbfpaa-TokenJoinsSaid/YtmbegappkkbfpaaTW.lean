/- The token functions: the walks of the leaves. -/
import Derived.Test.YtmbegappkkbfpaaTK
import Derived.Test.YtmbegappkkbfpaaGenT
namespace Go.Proofs.Ytmbegappkkbfpaa
open Go Go.Abs
def kwds : List (List UInt8) := [[97, 114, 114, 97, 121], [98, 111, 111, 108], [99, 97, 116, 99, 104], [100, 97, 116, 97], [101, 108, 115, 101], [101, 110, 100], [102, 97, 108, 115, 101], [102, 110], [102, 117, 110], [103, 101, 116], [105, 102], [105, 110], [105, 110, 116], [108, 101, 110], [108, 101, 116], [109, 97, 116, 99, 104], [110, 101, 119], [114, 97, 105, 115, 101], [114, 101, 97, 100], [114, 101, 102], [115, 101, 116], [116, 104, 101, 110], [116, 105, 99, 107], [116, 114, 117, 101], [116, 114, 121], [117, 110, 105, 116], [119, 105, 116, 104], [119, 114, 105, 116, 101]]
def kwF (ws : List (List UInt8)) (s : List UInt8) : Bool := ws.any (s == ·)
theorem outHere {H : Heap} {K : AV → Heap → Prop} {r : AV} (hsc : HSc H) (hv : r.isV = true) (hr : r.scV H.length = true) (h : K r H) : Out H.length K r H := by
  have := Out.same (J := []) rfl hsc hv hr h
  simpa using this
theorem u8_eq (b c : UInt8) : ((b.toNat : Int) == (c.toNat : Int)) = (b == c) := by
  rw [Bool.eq_iff_iff]
  simp only [beq_iff_eq]
  constructor
  · intro h; exact UInt8.toNat_inj.mp (by omega)
  · rintro rfl; rfl
theorem low43 (b : UInt8) (H : Heap) (K : AV → Heap → Prop) (hK : K (.bool (bLow b)) H) : ACalls Try.prog 43 [.int .u8 b.toNat] H K := by
  refine ACalls.out (f43_ok fun hs => ?_)
  have hO := outHere (K := K) (H := H) (r := .bool (bLow b)) hs rfl rfl hK
  unfold bLow at hO
  cases h1 : decide (97 ≤ (b.toNat : Int)) <;> simp [f43, h1] <;> simpa [h1] using hO
theorem up44 (b : UInt8) (H : Heap) (K : AV → Heap → Prop) (hK : K (.bool (bUp b)) H) : ACalls Try.prog 44 [.int .u8 b.toNat] H K := by
  refine ACalls.out (f44_ok fun hs => ?_)
  have hO := outHere (K := K) (H := H) (r := .bool (bUp b)) hs rfl rfl hK
  unfold bUp at hO
  cases h1 : decide (65 ≤ (b.toNat : Int)) <;> simp [f44, h1] <;> simpa [h1] using hO
theorem dig45 (b : UInt8) (H : Heap) (K : AV → Heap → Prop) (hK : K (.bool (bDig b)) H) : ACalls Try.prog 45 [.int .u8 b.toNat] H K := by
  refine ACalls.out (f45_ok fun hs => ?_)
  have hO := outHere (K := K) (H := H) (r := .bool (bDig b)) hs rfl rfl hK
  unfold bDig at hO
  cases h1 : decide (48 ≤ (b.toNat : Int)) <;> simp [f45, h1] <;> simpa [h1] using hO
theorem low50 (b : UInt8) (H : Heap) (K : AV → Heap → Prop) (hK : K (.bool (bLow b)) H) : ACalls Try.prog 50 [.int .u8 b.toNat] H K := by
  refine ACalls.out (f50_ok fun hs => ?_)
  have hO := outHere (K := K) (H := H) (r := .bool (bLow b)) hs rfl rfl hK
  unfold bLow at hO
  cases h1 : decide (97 ≤ (b.toNat : Int)) <;> simp [f50, h1] <;> simpa [h1] using hO
theorem up51 (b : UInt8) (H : Heap) (K : AV → Heap → Prop) (hK : K (.bool (bUp b)) H) : ACalls Try.prog 51 [.int .u8 b.toNat] H K := by
  refine ACalls.out (f51_ok fun hs => ?_)
  have hO := outHere (K := K) (H := H) (r := .bool (bUp b)) hs rfl rfl hK
  unfold bUp at hO
  cases h1 : decide (65 ≤ (b.toNat : Int)) <;> simp [f51, h1] <;> simpa [h1] using hO
theorem dig54 (b : UInt8) (H : Heap) (K : AV → Heap → Prop) (hK : K (.bool (bDig b)) H) : ACalls Try.prog 54 [.int .u8 b.toNat] H K := by
  refine ACalls.out (f54_ok fun hs => ?_)
  have hO := outHere (K := K) (H := H) (r := .bool (bDig b)) hs rfl rfl hK
  unfold bDig at hO
  cases h1 : decide (48 ≤ (b.toNat : Int)) <;> simp [f54, h1] <;> simpa [h1] using hO
theorem blank41 (b : UInt8) (H : Heap) (K : AV → Heap → Prop) (hK : K (.bool (bBlank b)) H) : ACalls Try.prog 41 [.int .u8 b.toNat] H K := by
  refine ACalls.out (f41_ok fun hs => ?_)
  have hO := outHere (K := K) (H := H) (r := .bool (bBlank b)) hs rfl rfl hK
  unfold bBlank at hO
  have e1 : ((b.toNat : Int) == 9) = (b == 9) := u8_eq b 9
  have e2 : ((b.toNat : Int) == 10) = (b == 10) := u8_eq b 10
  have e3 : ((b.toNat : Int) == 13) = (b == 13) := u8_eq b 13
  have e4 : ((b.toNat : Int) == 32) = (b == 32) := u8_eq b 32
  cases h1 : (b == 9) <;> cases h2 : (b == 10) <;> cases h3 : (b == 13) <;> simp [f41, e1, e2, e3, e4, h1, h2, h3] <;> simpa [h1, h2, h3] using hO
theorem within53 (b : UInt8) (H : Heap) (K : AV → Heap → Prop) (hK : K (.bool (bIn b)) H) : ACalls Try.prog 53 [.int .u8 b.toNat] H K := by
  refine ACalls.out (f53_ok fun hs => ?_)
  have hO := outHere (K := K) (H := H) (r := .bool (bIn b)) hs rfl rfl hK
  unfold bIn at hO
  have e1 : ((b.toNat : Int) == 95) = (b == 95) := u8_eq b 95
  unfold f53
  refine low50 b _ _ ?_
  cases h1 : bLow b with
  | true => simp; simpa [h1] using hO
  | false =>
    simp
    refine up51 b _ _ ?_
    cases h2 : bUp b with
    | true => simp; simpa [h1, h2] using hO
    | false =>
      simp
      refine dig54 b _ _ ?_
      cases h3 : bDig b with
      | true => simp; simpa [h1, h2, h3] using hO
      | false => simp [e1]; simpa [h1, h2, h3] using hO
theorem kw11 (s : List UInt8) (H : Heap) (K : AV → Heap → Prop) (hK : K (.bool (kwF kwds s)) H) : ACalls Try.prog 11 [.str s] H K := by
  refine ACalls.out (f11_ok fun hs => ?_)
  have hO := outHere (K := K) (H := H) (r := .bool (kwF kwds s)) hs rfl rfl hK
  have step : ∀ (w : List UInt8) (ws : List (List UInt8)) (rest : Prop), (Out H.length K (.bool (kwF ws s)) H → rest) → Out H.length K (.bool (kwF (w :: ws) s)) H →
      aBin .eql false (.str s) (.str w) fun t => aTest t (f11_j1 t H (Out H.length K)) rest := by
    intro w ws rest h h'
    simp only [kwF, List.any_cons] at h h'
    cases e : (s == w) with
    | true => simpa [f11_j1, e] using h'
    | false => rw [e, Bool.false_or] at h'; simpa [f11_j1, e] using h h'
  unfold f11
  revert hO
  unfold kwds
  iterate 27 refine step _ _ _ ?_
  intro h'
  simp only [kwF, List.any_cons, List.any_nil, Bool.or_false] at h'
  cases e : (s == [119, 114, 105, 116, 101]) <;> rw [e] at h' <;> simpa [f11_j1, e] using h'
theorem kw12 (s : List UInt8) (H : Heap) (K : AV → Heap → Prop) (hK : K (.bool (kwF kwds s)) H) : ACalls Try.prog 12 [.str s] H K := by
  refine ACalls.out (f12_ok fun hs => ?_)
  have hO := outHere (K := K) (H := H) (r := .bool (kwF kwds s)) hs rfl rfl hK
  have e : f12 (.str s) H (Out H.length K) = f12_l3 (.str s) (.sl (kwds.map fun w => [.str w]) .full) (.int .i64 0) H (Out H.length K) := rfl
  rw [e]
  have hlen : kwds.length = 28 := rfl
  generalize kwds = ws at *
  refine f12_loop3 (Inv := fun q t4 H' => ∃ i : Nat, i ≤ ws.length ∧ q = ws.length - i ∧ t4 = .int .i64 i ∧ kwF (ws.drop i) s = kwF ws s ∧ H' = H) ws.length ?_ ?_
  · intro _; exact ⟨0, by omega, by omega, rfl, by simp, rfl⟩
  · rintro q t8 H' ⟨i, hi, rfl, rfl, ho, rfl⟩ hsc _ hsF Kb hKb
    by_cases hlt : i < ws.length
    · rw [List.drop_eq_getElem_cons hlt] at ho
      simp only [kwF, List.any_cons] at ho
      cases hz : (ws[i] == s) with
      | true =>
        have hz' : (s == ws[i]) = true := by rw [beq_iff_eq] at hz ⊢; exact hz.symm
        rw [hz', Bool.true_or] at ho
        simp [f12_b3, hlt, hz]
        unfold kwF at hO
        rw [← ho] at hO
        exact hO
      | false =>
        have hz' : (s == ws[i]) = false := by rw [beq_eq_false_iff_ne] at hz ⊢; exact fun h => hz h.symm
        rw [hz', Bool.false_or] at ho
        simp [f12_b3, hlt, hz]
        rw [wrap_in (by omega) (by omega)]
        refine hKb _ _ ⟨ws.length - (i + 1), by omega, Back.here (Nat.le_refl _) hs ?_ ⟨_, rfl, i + 1, by omega, rfl, by simp, ho, rfl⟩⟩
        simp [f12_fr3, AV.sc, AV.scV, AV.scA, AV.scB]
    · simp [f12_b3, hlt]
      obtain rfl : i = ws.length := by omega
      rw [List.drop_length] at ho
      rw [← ho] at hO
      exact hO
end Go.Proofs.Ytmbegappkkbfpaa
