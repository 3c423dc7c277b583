/- The token functions: numbers, prefixes, signs. -/
import Derived.Test.YtmbegappkkbfpaaTW
namespace Go.Proofs.Ytmbegappkkbfpaa
open Go Go.Abs
theorem bDig_rng {b : UInt8} (h : bDig b = true) : 48 ≤ (b.toNat : Int) ∧ (b.toNat : Int) ≤ 57 := by simpa [bDig] using h
theorem small55 (s : List UInt8) (hd : ∀ b ∈ s, bDig b = true) (hl : s.length ≤ 1000000) (H : Heap) (K : AV → Heap → Prop) (hK : K (.bool (smallF s 0)) H) : ACalls Try.prog 55 [.str s] H K := by
  refine ACalls.out (f55_ok fun hs => ?_)
  have hO := outHere (K := K) (H := H) (r := .bool (smallF s 0)) hs rfl rfl hK
  simp [f55]
  refine f55_loop3 (Inv := fun q t3 t7 H' => ∃ (i : Nat) (n : Int), i ≤ s.length ∧ q = s.length - i ∧ t7 = .int .i64 i ∧ t3 = .int .i64 n ∧ 0 ≤ n ∧ n ≤ 1000000 ∧ smallF (s.drop i) n = smallF s 0 ∧ H' = H) s.length ?_ ?_
  · intro _; exact ⟨0, 0, by omega, by omega, rfl, rfl, by omega, by omega, by simp, rfl⟩
  · rintro q t3 t7 H' ⟨i, n, hi, rfl, rfl, rfl, hn0, hn1, ho, rfl⟩ hsc _ hsF Kb hKb
    by_cases hlt : i < s.length
    · have hb := bDig_rng (hd s[i] (List.getElem_mem hlt))
      rw [List.drop_eq_getElem_cons hlt, smallF] at ho
      simp [f55_b3, hlt]
      rw [IntWalk.u8_in _ (by omega), wrap_in (n := n * 10) (by omega) (by omega), wrap_in (n := (s[i].toNat : Int) - 48) (by omega) (by omega), wrap_in (by omega) (by omega), wrap_in (by omega) (by omega)]
      by_cases hg : 1000000 < n * 10 + ((s[i].toNat : Int) - 48)
      · rw [if_pos hg] at ho
        have hg' : decide (1000000 < n * 10 + ((s[i].toNat : Int) - 48)) = true := by simpa using hg
        rw [← ho] at hO
        rw [hg']
        simpa using hO
      · rw [if_neg hg] at ho
        have hg' : decide (1000000 < n * 10 + ((s[i].toNat : Int) - 48)) = false := by simpa using hg
        rw [hg']
        simp only [aTest_bool, Bool.false_eq_true, if_false]
        refine hKb _ _ ⟨s.length - (i + 1), by omega, Back.here (Nat.le_refl _) hs ?_ ⟨_, _, rfl, i + 1, _, by omega, rfl, by simp, rfl, by omega, by omega, ho, rfl⟩⟩
        simp [f55_fr3, AV.sc, AV.scV, AV.scA, AV.scB]
    · simp [f55_b3, hlt]
      obtain rfl : i = s.length := by omega
      rw [List.drop_length, smallF] at ho
      rw [← ho] at hO
      exact hO
theorem prefix52 (cl : UInt8 → Bool) (f : FuncId) (hcl : callable Try.prog f = true) (hf : ∀ (b : UInt8) (H : Heap) (K : AV → Heap → Prop), K (.bool (cl b)) H → ACalls Try.prog f [.int .u8 b.toNat] H K)
    (s : List UInt8) (hl : s.length ≤ 1000000) (H : Heap) (K : AV → Heap → Prop) (hK : K (.str (s.takeWhile cl)) H) : ACalls Try.prog 52 [.str s, .fn f []] H K := by
  refine ACalls.out (f52_ok fun hs => ?_)
  have hO := outHere (K := K) (H := H) (r := .str (s.takeWhile cl)) hs rfl rfl hK
  simp [f52]
  refine f52_loop2 (Inv := fun q t5 H' => ∃ i : Nat, i ≤ s.length ∧ q = s.length - i ∧ t5 = .int .i64 i ∧ s.take i ++ (s.drop i).takeWhile cl = s.takeWhile cl ∧ H' = H) s.length ?_ ?_
  · intro _; exact ⟨0, by omega, by omega, rfl, by simp, rfl⟩
  · rintro q t5 H' ⟨i, hi, rfl, rfl, ho, rfl⟩ hsc _ hsF Kb hKb
    by_cases hlt : i < s.length
    · rw [List.drop_eq_getElem_cons hlt, List.takeWhile_cons] at ho
      simp [f52_b2, hlt]
      simp only [aCallV, hcl, List.append_nil]
      refine hf _ _ _ ?_
      cases hc : cl s[i] with
      | true =>
        rw [hc, if_pos rfl, List.append_cons, ← List.take_succ_eq_append_getElem hlt] at ho
        simp
        rw [wrap_in (by omega) (by omega)]
        refine hKb _ _ ⟨s.length - (i + 1), by omega, Back.here (Nat.le_refl _) hs ?_ ⟨_, rfl, i + 1, by omega, rfl, by simp, ho, rfl⟩⟩
        simp [f52_fr2, AV.sc, AV.scV, AV.scA, AV.scB]
      | false =>
        rw [hc, if_neg (by simp), List.append_nil] at ho
        rw [← ho] at hO
        simp [hi]
        exact hO
    · simp [f52_b2, hlt]
      obtain rfl : i = s.length := by omega
      rw [List.drop_length, List.takeWhile_nil, List.append_nil, List.take_length] at ho
      rw [← ho] at hO
      simpa using hO
end Go.Proofs.Ytmbegappkkbfpaa
