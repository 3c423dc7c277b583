/- The token functions: values, signs, the reading of one token. -/
import Derived.Test.YtmbegappkkbfpaaTW2
import Derived.Test.YtmbegappkkbfpaaAbsX
namespace Go.Proofs.Ytmbegappkkbfpaa
open Go Go.Abs
theorem value46 (s : List UInt8) (hd : ∀ b ∈ s, bDig b = true) (hl : s.length ≤ 1000000) (H : Heap) (K : AV → Heap → Prop) (hK : ∀ n, K (.tup [.int .i64 n, .bool (smallF s 0)]) H) : ACalls Try.prog 46 [.str s] H K := by
  refine ACalls.out (f46_ok fun hs => ?_)
  have hO : ∀ n, Out H.length K (.tup [.int .i64 n, .bool (smallF s 0)]) H := fun n => Out.tup0 hs (hK n) ⟨keepV rfl rfl, keepV rfl rfl, trivial⟩
  simp only [f46]
  refine f46_loop3 (Inv := fun q t3 t7 H' => ∃ (i : Nat) (n : Int), i ≤ s.length ∧ q = s.length - i ∧ t7 = .int .i64 i ∧ t3 = .int .i64 n ∧ 0 ≤ n ∧ n ≤ 1000000 ∧ smallF (s.drop i) n = smallF s 0 ∧ H' = H) s.length ?_ ?_
  · intro _; exact ⟨0, 0, by omega, by omega, rfl, rfl, by omega, by omega, by simp, rfl⟩
  · rintro q t3 t7 H' ⟨i, n, hi, rfl, rfl, rfl, hn0, hn1, ho, rfl⟩ hsc _ hsF Kb hKb
    by_cases hlt : i < s.length
    · have hb := bDig_rng (hd s[i] (List.getElem_mem hlt))
      rw [List.drop_eq_getElem_cons hlt, smallF] at ho
      simp [f46_b3, hlt]
      rw [IntWalk.u8_in _ (by omega), wrap_in (n := n * 10) (by omega) (by omega), wrap_in (n := (s[i].toNat : Int) - 48) (by omega) (by omega), wrap_in (by omega) (by omega), wrap_in (by omega) (by omega)]
      by_cases hg : 1000000 < n * 10 + ((s[i].toNat : Int) - 48)
      · rw [if_pos hg] at ho
        have hg' : decide (1000000 < n * 10 + ((s[i].toNat : Int) - 48)) = true := by simpa using hg
        rw [← ho] at hO
        rw [hg']
        simpa [AV.isV] using hO 0
      · rw [if_neg hg] at ho
        have hg' : decide (1000000 < n * 10 + ((s[i].toNat : Int) - 48)) = false := by simpa using hg
        rw [hg']
        simp only [aTest_bool, Bool.false_eq_true, if_false]
        refine hKb _ _ ⟨s.length - (i + 1), by omega, Back.here (Nat.le_refl _) hs ?_ ⟨_, _, rfl, i + 1, _, by omega, rfl, by simp, rfl, by omega, by omega, ho, rfl⟩⟩
        simp [f46_fr3, AV.sc, AV.scV, AV.scA, AV.scB]
    · simp [f46_b3, hlt, AV.isV]
      obtain rfl : i = s.length := by omega
      rw [List.drop_length, smallF] at ho
      rw [← ho] at hO
      exact hO n
theorem take1 (b : UInt8) (r : List UInt8) : (b :: r).take 1 = [b] := by simp
theorem sgn2_short {s : List UInt8} (h : ¬ 2 ≤ s.length) : sgn2 s = false := by
  match s, h with
  | [], _ => rfl
  | [b], _ => simp [sgn2]
  | _ :: _ :: _, h => simp at h
theorem sgn_cons (b : UInt8) (r : List UInt8) (h : sgn2 (b :: r) = false) : sgn (b :: r) = if sgns.contains b = true then 1 else 0 := by simp [sgn, h]
theorem sign56 (b : UInt8) (r : List UInt8) (H : Heap) (K : AV → Heap → Prop) (hK : K (.str ((b :: r).take (sgn (b :: r)))) H) : ACalls Try.prog 56 [.str (b :: r)] H K := by
  refine ACalls.out (f56_ok fun hs => ?_)
  have hO := outHere (K := K) (H := H) (r := .str ((b :: r).take (sgn (b :: r)))) hs rfl rfl hK
  have one : sgn2 (b :: r) = false → f56_j2 (.str (b :: r)) H (Out H.length K) := by
    intro h2
    rw [sgn_cons b r h2] at hO
    have hO : Out H.length K (.str (if sgns.contains b = true then [b] else [])) H := by
      cases hc : sgns.contains b <;> rw [hc] at hO <;> simpa using hO
    have step : ∀ (c : UInt8) (cs : List UInt8) (rest : Prop), (Out H.length K (.str (if cs.contains b = true then [b] else [])) H → rest) → Out H.length K (.str (if (c :: cs).contains b = true then [b] else [])) H →
        aBin .eql false (.str [b]) (.str [c]) fun t => aTest t (f56_j3 (.str (b :: r)) t H (Out H.length K)) rest := by
      intro c cs rest h h'
      rw [List.contains_cons] at h'
      cases e : (b == c) with
      | true => rw [e] at h'; simpa [f56_j3, e] using h'
      | false =>
        rw [e, Bool.false_or] at h'
        simpa [f56_j3, e] using h h'
    unfold f56_j2
    simp only [aSlice_str, aBound_none, aBound_int, Int.toNat_one, take1, List.drop_zero]
    refine ⟨by decide, ⟨by omega, by simp⟩, ?_⟩
    revert hO
    unfold sgns
    iterate 12 refine step _ _ _ ?_
    intro h'
    rw [List.contains_cons] at h'
    cases e : (b == 95) <;> rw [e] at h' <;> simpa [f56_j3, e] using h'
  by_cases hl : 2 ≤ (b :: r).length
  · have hl' : (2 : Int) ≤ r.length + 1 := by simp only [List.length_cons] at hl; omega
    have hl2 : 1 ≤ r.length := by simp only [List.length_cons] at hl; omega
    cases h2 : sgn2 (b :: r) with
    | true =>
      have h3 : sgn (b :: r) = 2 := by simp [sgn, h2]
      rw [h3] at hO
      unfold sgn2 at h2
      simp only [List.take_succ_cons] at h2 hO
      cases e1 : (b :: List.take 1 r == [45, 62]) with
      | true => simpa [f56, hl', hl2, f56_j1, e1] using hO
      | false =>
        cases e2 : (b :: List.take 1 r == [60, 61]) with
        | true => simpa [f56, hl', hl2, f56_j1, e1, e2] using hO
        | false =>
          rw [e1, e2] at h2
          simp only [Bool.false_or] at h2
          simpa [f56, hl', hl2, f56_j1, e1, e2, h2] using hO
    | false =>
      have ho := one h2
      unfold sgn2 at h2
      simp only [List.take_succ_cons] at h2
      rw [Bool.or_eq_false_iff, Bool.or_eq_false_iff] at h2
      simpa [f56, hl', hl2, f56_j1, h2.1.1, h2.1.2, h2.2] using ho
  · have ho := one (sgn2_short hl)
    have : ¬ ((2 : Int) ≤ r.length + 1) := by simp only [List.length_cons] at hl; omega
    simpa [f56, this] using ho
end Go.Proofs.Ytmbegappkkbfpaa
