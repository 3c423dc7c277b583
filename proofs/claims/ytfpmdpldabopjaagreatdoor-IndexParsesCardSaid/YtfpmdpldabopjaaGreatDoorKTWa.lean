/- The token functions: the walks of the leaves. -/
import Derived.Test.YtfpmdpldabopjaaGreatDoorA3
import Derived.Test.YtfpmdpldabopjaaGreatDoorKGT
namespace Go.Proofs.YtfpmdpldabopjaaGreatDoor
open Go Go.Abs
def kwds : List (List UInt8) := [[97, 114, 114, 97, 121], [98, 111, 111, 108], [99, 97, 116, 99, 104], [100, 97, 116, 97], [101, 108, 115, 101], [101, 110, 100], [102, 97, 108, 115, 101], [102, 110], [102, 117, 110], [103, 101, 116], [105, 102], [105, 110], [105, 110, 116], [108, 101, 110], [108, 101, 116], [109, 97, 116, 99, 104], [110, 101, 119], [114, 97, 105, 115, 101], [114, 101, 97, 100], [114, 101, 102], [115, 101, 116], [116, 104, 101, 110], [116, 105, 99, 107], [116, 114, 117, 101], [116, 114, 121], [117, 110, 105, 116], [119, 105, 116, 104], [119, 114, 105, 116, 101]]
def kwF (ws : List (List UInt8)) (s : List UInt8) : Bool := ws.any (s == ·)
theorem outHere {H : Heap} {K : AV → Heap → Prop} {r : AV} (hsc : HSc H) (hv : r.isV = true) (hr : r.scV H.length = true) (h : K r H) : Out H.length K r H := by
  have := Out.same (J := []) rfl hsc hv hr h
  simpa using this
theorem u8_eq (b c : UInt8) : ((b.toNat : Int) == (c.toNat : Int)) = (b == c) := by
  rw [Bool.eq_iff_iff]
  simp only [beq_iff_eq]
  constructor
  · intro h; exact UInt8.toNat_inj.mp (by omega)
  · rintro rfl; rfl
theorem low43 (b : UInt8) (H : Heap) (K : AV → Heap → Prop) (hK : K (.bool (bLow b)) H) : ACalls Tryz.prog n_zq197 [.int .u8 b.toNat] H K := by
  refine ACalls.out (zq197_ok fun hs => ?_)
  have hO := outHere (K := K) (H := H) (r := .bool (bLow b)) hs rfl rfl hK
  unfold bLow at hO
  cases h1 : decide (97 ≤ (b.toNat : Int)) <;> simp [zq197, h1] <;> simpa [h1] using hO
theorem up44 (b : UInt8) (H : Heap) (K : AV → Heap → Prop) (hK : K (.bool (bUp b)) H) : ACalls Tryz.prog n_zq198 [.int .u8 b.toNat] H K := by
  refine ACalls.out (zq198_ok fun hs => ?_)
  have hO := outHere (K := K) (H := H) (r := .bool (bUp b)) hs rfl rfl hK
  unfold bUp at hO
  cases h1 : decide (65 ≤ (b.toNat : Int)) <;> simp [zq198, h1] <;> simpa [h1] using hO
theorem dig45 (b : UInt8) (H : Heap) (K : AV → Heap → Prop) (hK : K (.bool (bDig b)) H) : ACalls Tryz.prog n_zq199 [.int .u8 b.toNat] H K := by
  refine ACalls.out (zq199_ok fun hs => ?_)
  have hO := outHere (K := K) (H := H) (r := .bool (bDig b)) hs rfl rfl hK
  unfold bDig at hO
  cases h1 : decide (48 ≤ (b.toNat : Int)) <;> simp [zq199, h1] <;> simpa [h1] using hO
theorem low50 (b : UInt8) (H : Heap) (K : AV → Heap → Prop) (hK : K (.bool (bLow b)) H) : ACalls Tryz.prog n_zq256 [.int .u8 b.toNat] H K := by
  refine ACalls.out (zq256_ok fun hs => ?_)
  have hO := outHere (K := K) (H := H) (r := .bool (bLow b)) hs rfl rfl hK
  unfold bLow at hO
  cases h1 : decide (97 ≤ (b.toNat : Int)) <;> simp [zq256, h1] <;> simpa [h1] using hO
theorem up51 (b : UInt8) (H : Heap) (K : AV → Heap → Prop) (hK : K (.bool (bUp b)) H) : ACalls Tryz.prog n_zq257 [.int .u8 b.toNat] H K := by
  refine ACalls.out (zq257_ok fun hs => ?_)
  have hO := outHere (K := K) (H := H) (r := .bool (bUp b)) hs rfl rfl hK
  unfold bUp at hO
  cases h1 : decide (65 ≤ (b.toNat : Int)) <;> simp [zq257, h1] <;> simpa [h1] using hO
theorem dig54 (b : UInt8) (H : Heap) (K : AV → Heap → Prop) (hK : K (.bool (bDig b)) H) : ACalls Tryz.prog n_zq261 [.int .u8 b.toNat] H K := by
  refine ACalls.out (zq261_ok fun hs => ?_)
  have hO := outHere (K := K) (H := H) (r := .bool (bDig b)) hs rfl rfl hK
  unfold bDig at hO
  cases h1 : decide (48 ≤ (b.toNat : Int)) <;> simp [zq261, h1] <;> simpa [h1] using hO
theorem blank41 (b : UInt8) (H : Heap) (K : AV → Heap → Prop) (hK : K (.bool (bBlank b)) H) : ACalls Tryz.prog n_zq245 [.int .u8 b.toNat] H K := by
  refine ACalls.out (zq245_ok fun hs => ?_)
  have hO := outHere (K := K) (H := H) (r := .bool (bBlank b)) hs rfl rfl hK
  unfold bBlank at hO
  have e1 : ((b.toNat : Int) == 9) = (b == 9) := u8_eq b 9
  have e2 : ((b.toNat : Int) == 10) = (b == 10) := u8_eq b 10
  have e3 : ((b.toNat : Int) == 13) = (b == 13) := u8_eq b 13
  have e4 : ((b.toNat : Int) == 32) = (b == 32) := u8_eq b 32
  cases h1 : (b == 9) <;> cases h2 : (b == 10) <;> cases h3 : (b == 13) <;> simp [zq245, e1, e2, e3, e4, h1, h2, h3] <;> simpa [h1, h2, h3] using hO
theorem within53 (b : UInt8) (H : Heap) (K : AV → Heap → Prop) (hK : K (.bool (bIn b)) H) : ACalls Tryz.prog n_zq259 [.int .u8 b.toNat] H K := by
  refine ACalls.out (zq259_ok fun hs => ?_)
  have hO := outHere (K := K) (H := H) (r := .bool (bIn b)) hs rfl rfl hK
  unfold bIn at hO
  have e1 : ((b.toNat : Int) == 95) = (b == 95) := u8_eq b 95
  unfold zq259
  refine low50 b _ _ ?_
  cases h1 : bLow b with
  | true => simp; simpa [h1] using hO
  | false =>
    simp
    refine up51 b _ _ ?_
    cases h2 : bUp b with
    | true => simp; simpa [h1, h2] using hO
    | false =>
      simp
      refine dig54 b _ _ ?_
      cases h3 : bDig b with
      | true => simp; simpa [h1, h2, h3] using hO
      | false => simp [e1]; simpa [h1, h2, h3] using hO
theorem kw11 (s : List UInt8) (H : Heap) (K : AV → Heap → Prop) (hK : K (.bool (kwF kwds s)) H) : ACalls Tryz.prog n_zq260 [.str s] H K := by
  refine ACalls.out (zq260_ok fun hs => ?_)
  have hO := outHere (K := K) (H := H) (r := .bool (kwF kwds s)) hs rfl rfl hK
  have step : ∀ (w : List UInt8) (ws : List (List UInt8)) (rest : Prop), (Out H.length K (.bool (kwF ws s)) H → rest) → Out H.length K (.bool (kwF (w :: ws) s)) H →
      aBin .eql false (.str s) (.str w) fun t => aTest t (zq260_j1 t H (Out H.length K)) rest := by
    intro w ws rest h h'
    simp only [kwF, List.any_cons] at h h'
    cases e : (s == w) with
    | true => simpa [zq260_j1, e] using h'
    | false => rw [e, Bool.false_or] at h'; simpa [zq260_j1, e] using h h'
  unfold zq260
  revert hO
  unfold kwds
  iterate 27 refine step _ _ _ ?_
  intro h'
  simp only [kwF, List.any_cons, List.any_nil, Bool.or_false] at h'
  cases e : (s == [119, 114, 105, 116, 101]) <;> rw [e] at h' <;> simpa [zq260_j1, e] using h'
theorem kw12 (s : List UInt8) (H : Heap) (K : AV → Heap → Prop) (hK : K (.bool (kwF kwds s)) H) : ACalls Tryz.prog n_zq200 [.str s] H K := by
  refine ACalls.out (zq200_ok fun hs => ?_)
  have hO := outHere (K := K) (H := H) (r := .bool (kwF kwds s)) hs rfl rfl hK
  have e : zq200 (.str s) H (Out H.length K) = zq200_l3 (.str s) (.sl (kwds.map fun w => [.str w]) .full) (.int .i64 0) H (Out H.length K) := rfl
  rw [e]
  have hlen : kwds.length = 28 := rfl
  generalize kwds = ws at *
  refine zq200_loop3 (Inv := fun q t4 H' => ∃ i : Nat, i ≤ ws.length ∧ q = ws.length - i ∧ t4 = .int .i64 i ∧ kwF (ws.drop i) s = kwF ws s ∧ H' = H) ws.length ?_ ?_
  · intro _; exact ⟨0, by omega, by omega, rfl, by simp, rfl⟩
  · rintro q t8 H' ⟨i, hi, rfl, rfl, ho, rfl⟩ hsc _ hsF Kb hKb
    by_cases hlt : i < ws.length
    · rw [List.drop_eq_getElem_cons hlt] at ho
      simp only [kwF, List.any_cons] at ho
      cases hz : (ws[i] == s) with
      | true =>
        have hz' : (s == ws[i]) = true := by rw [beq_iff_eq] at hz ⊢; exact hz.symm
        rw [hz', Bool.true_or] at ho
        simp [zq200_b3, hlt, hz]
        unfold kwF at hO
        rw [← ho] at hO
        exact hO
      | false =>
        have hz' : (s == ws[i]) = false := by rw [beq_eq_false_iff_ne] at hz ⊢; exact fun h => hz h.symm
        rw [hz', Bool.false_or] at ho
        simp [zq200_b3, hlt, hz]
        rw [wrap_in (by omega) (by omega)]
        refine hKb _ _ ⟨ws.length - (i + 1), by omega, Back.here (Nat.le_refl _) hs ?_ ⟨_, rfl, i + 1, by omega, rfl, by simp, ho, rfl⟩⟩
        simp [zq200_fr3, AV.sc, AV.scV, AV.scA, AV.scB]
    · simp [zq200_b3, hlt]
      obtain rfl : i = ws.length := by omega
      rw [List.drop_length] at ho
      rw [← ho] at hO
      exact hO
end Go.Proofs.YtfpmdpldabopjaaGreatDoor
namespace Go.Proofs.YtfpmdpldabopjaaGreatDoor
open Go Go.Abs
theorem bDig_rng {b : UInt8} (h : bDig b = true) : 48 ≤ (b.toNat : Int) ∧ (b.toNat : Int) ≤ 57 := by simpa [bDig] using h
theorem small55 (s : List UInt8) (hd : ∀ b ∈ s, bDig b = true) (hl : s.length ≤ 1000000) (H : Heap) (K : AV → Heap → Prop) (hK : K (.bool (smallF s 0)) H) : ACalls Tryz.prog n_zq262 [.str s] H K := by
  refine ACalls.out (zq262_ok fun hs => ?_)
  have hO := outHere (K := K) (H := H) (r := .bool (smallF s 0)) hs rfl rfl hK
  simp [zq262]
  refine zq262_loop3 (Inv := fun q t3 t7 H' => ∃ (i : Nat) (n : Int), i ≤ s.length ∧ q = s.length - i ∧ t7 = .int .i64 i ∧ t3 = .int .i64 n ∧ 0 ≤ n ∧ n ≤ 1000000 ∧ smallF (s.drop i) n = smallF s 0 ∧ H' = H) s.length ?_ ?_
  · intro _; exact ⟨0, 0, by omega, by omega, rfl, rfl, by omega, by omega, by simp, rfl⟩
  · rintro q t3 t7 H' ⟨i, n, hi, rfl, rfl, rfl, hn0, hn1, ho, rfl⟩ hsc _ hsF Kb hKb
    by_cases hlt : i < s.length
    · have hb := bDig_rng (hd s[i] (List.getElem_mem hlt))
      rw [List.drop_eq_getElem_cons hlt, smallF] at ho
      simp [zq262_b3, hlt]
      rw [IntWalk.u8_in _ (by omega), wrap_in (n := n * 10) (by omega) (by omega), wrap_in (n := (s[i].toNat : Int) - 48) (by omega) (by omega), wrap_in (by omega) (by omega), wrap_in (by omega) (by omega)]
      by_cases hg : 1000000 < n * 10 + ((s[i].toNat : Int) - 48)
      · rw [if_pos hg] at ho
        have hg' : decide (1000000 < n * 10 + ((s[i].toNat : Int) - 48)) = true := by simpa using hg
        rw [← ho] at hO
        rw [hg']
        simpa using hO
      · rw [if_neg hg] at ho
        have hg' : decide (1000000 < n * 10 + ((s[i].toNat : Int) - 48)) = false := by simpa using hg
        rw [hg']
        simp only [aTest_bool, Bool.false_eq_true, if_false]
        refine hKb _ _ ⟨s.length - (i + 1), by omega, Back.here (Nat.le_refl _) hs ?_ ⟨_, _, rfl, i + 1, _, by omega, rfl, by simp, rfl, by omega, by omega, ho, rfl⟩⟩
        simp [zq262_fr3, AV.sc, AV.scV, AV.scA, AV.scB]
    · simp [zq262_b3, hlt]
      obtain rfl : i = s.length := by omega
      rw [List.drop_length, smallF] at ho
      rw [← ho] at hO
      exact hO
theorem prefix52 (cl : UInt8 → Bool) (f : FuncId) (hcl : callable Tryz.prog f = true) (hf : ∀ (b : UInt8) (H : Heap) (K : AV → Heap → Prop), K (.bool (cl b)) H → ACalls Tryz.prog f [.int .u8 b.toNat] H K)
    (s : List UInt8) (hl : s.length ≤ 1000000) (H : Heap) (K : AV → Heap → Prop) (hK : K (.str (s.takeWhile cl)) H) : ACalls Tryz.prog n_zq258 [.str s, .fn f []] H K := by
  refine ACalls.out (zq258_ok fun hs => ?_)
  have hO := outHere (K := K) (H := H) (r := .str (s.takeWhile cl)) hs rfl rfl hK
  simp [zq258]
  refine zq258_loop2 (Inv := fun q t5 H' => ∃ i : Nat, i ≤ s.length ∧ q = s.length - i ∧ t5 = .int .i64 i ∧ s.take i ++ (s.drop i).takeWhile cl = s.takeWhile cl ∧ H' = H) s.length ?_ ?_
  · intro _; exact ⟨0, by omega, by omega, rfl, by simp, rfl⟩
  · rintro q t5 H' ⟨i, hi, rfl, rfl, ho, rfl⟩ hsc _ hsF Kb hKb
    by_cases hlt : i < s.length
    · rw [List.drop_eq_getElem_cons hlt, List.takeWhile_cons] at ho
      simp [zq258_b2, hlt]
      simp only [aCallV, hcl, List.append_nil]
      refine hf _ _ _ ?_
      cases hc : cl s[i] with
      | true =>
        rw [hc, if_pos rfl, List.append_cons, ← List.take_succ_eq_append_getElem hlt] at ho
        simp
        rw [wrap_in (by omega) (by omega)]
        refine hKb _ _ ⟨s.length - (i + 1), by omega, Back.here (Nat.le_refl _) hs ?_ ⟨_, rfl, i + 1, by omega, rfl, by simp, ho, rfl⟩⟩
        simp [zq258_fr2, AV.sc, AV.scV, AV.scA, AV.scB]
      | false =>
        rw [hc, if_neg (by simp), List.append_nil] at ho
        rw [← ho] at hO
        simp [hi]
        exact hO
    · simp [zq258_b2, hlt]
      obtain rfl : i = s.length := by omega
      rw [List.drop_length, List.takeWhile_nil, List.append_nil, List.take_length] at ho
      rw [← ho] at hO
      simpa using hO
end Go.Proofs.YtfpmdpldabopjaaGreatDoor
namespace Go.Proofs.YtfpmdpldabopjaaGreatDoor
open Go Go.Abs
theorem value46 (s : List UInt8) (hd : ∀ b ∈ s, bDig b = true) (hl : s.length ≤ 1000000) (H : Heap) (K : AV → Heap → Prop) (hK : ∀ n, K (.tup [.int .i64 n, .bool (smallF s 0)]) H) : ACalls Tryz.prog n_zq201 [.str s] H K := by
  refine ACalls.out (zq201_ok fun hs => ?_)
  have hO : ∀ n, Out H.length K (.tup [.int .i64 n, .bool (smallF s 0)]) H := fun n => Out.tup0 hs (hK n) ⟨keepV rfl rfl, keepV rfl rfl, trivial⟩
  simp only [zq201]
  refine zq201_loop3 (Inv := fun q t3 t7 H' => ∃ (i : Nat) (n : Int), i ≤ s.length ∧ q = s.length - i ∧ t7 = .int .i64 i ∧ t3 = .int .i64 n ∧ 0 ≤ n ∧ n ≤ 1000000 ∧ smallF (s.drop i) n = smallF s 0 ∧ H' = H) s.length ?_ ?_
  · intro _; exact ⟨0, 0, by omega, by omega, rfl, rfl, by omega, by omega, by simp, rfl⟩
  · rintro q t3 t7 H' ⟨i, n, hi, rfl, rfl, rfl, hn0, hn1, ho, rfl⟩ hsc _ hsF Kb hKb
    by_cases hlt : i < s.length
    · have hb := bDig_rng (hd s[i] (List.getElem_mem hlt))
      rw [List.drop_eq_getElem_cons hlt, smallF] at ho
      simp [zq201_b3, hlt]
      rw [IntWalk.u8_in _ (by omega), wrap_in (n := n * 10) (by omega) (by omega), wrap_in (n := (s[i].toNat : Int) - 48) (by omega) (by omega), wrap_in (by omega) (by omega), wrap_in (by omega) (by omega)]
      by_cases hg : 1000000 < n * 10 + ((s[i].toNat : Int) - 48)
      · rw [if_pos hg] at ho
        have hg' : decide (1000000 < n * 10 + ((s[i].toNat : Int) - 48)) = true := by simpa using hg
        rw [← ho] at hO
        rw [hg']
        simpa [AV.isV] using hO 0
      · rw [if_neg hg] at ho
        have hg' : decide (1000000 < n * 10 + ((s[i].toNat : Int) - 48)) = false := by simpa using hg
        rw [hg']
        simp only [aTest_bool, Bool.false_eq_true, if_false]
        refine hKb _ _ ⟨s.length - (i + 1), by omega, Back.here (Nat.le_refl _) hs ?_ ⟨_, _, rfl, i + 1, _, by omega, rfl, by simp, rfl, by omega, by omega, ho, rfl⟩⟩
        simp [zq201_fr3, AV.sc, AV.scV, AV.scA, AV.scB]
    · simp [zq201_b3, hlt, AV.isV]
      obtain rfl : i = s.length := by omega
      rw [List.drop_length, smallF] at ho
      rw [← ho] at hO
      exact hO n
theorem take1 (b : UInt8) (r : List UInt8) : (b :: r).take 1 = [b] := by simp
theorem sgn2_short {s : List UInt8} (h : ¬ 2 ≤ s.length) : sgn2 s = false := by
  match s, h with
  | [], _ => rfl
  | [b], _ => simp [sgn2]
  | _ :: _ :: _, h => simp at h
theorem sgn_cons (b : UInt8) (r : List UInt8) (h : sgn2 (b :: r) = false) : sgn (b :: r) = if sgns.contains b = true then 1 else 0 := by simp [sgn, h]
theorem sign56 (b : UInt8) (r : List UInt8) (H : Heap) (K : AV → Heap → Prop) (hK : K (.str ((b :: r).take (sgn (b :: r)))) H) : ACalls Tryz.prog n_zq263 [.str (b :: r)] H K := by
  refine ACalls.out (zq263_ok fun hs => ?_)
  have hO := outHere (K := K) (H := H) (r := .str ((b :: r).take (sgn (b :: r)))) hs rfl rfl hK
  have one : sgn2 (b :: r) = false → zq263_j2 (.str (b :: r)) H (Out H.length K) := by
    intro h2
    rw [sgn_cons b r h2] at hO
    have hO : Out H.length K (.str (if sgns.contains b = true then [b] else [])) H := by
      cases hc : sgns.contains b <;> rw [hc] at hO <;> simpa using hO
    have step : ∀ (c : UInt8) (cs : List UInt8) (rest : Prop), (Out H.length K (.str (if cs.contains b = true then [b] else [])) H → rest) → Out H.length K (.str (if (c :: cs).contains b = true then [b] else [])) H →
        aBin .eql false (.str [b]) (.str [c]) fun t => aTest t (zq263_j3 (.str (b :: r)) t H (Out H.length K)) rest := by
      intro c cs rest h h'
      rw [List.contains_cons] at h'
      cases e : (b == c) with
      | true => rw [e] at h'; simpa [zq263_j3, e] using h'
      | false =>
        rw [e, Bool.false_or] at h'
        simpa [zq263_j3, e] using h h'
    unfold zq263_j2
    simp only [aSlice_str, aBound_none, aBound_int, Int.toNat_one, take1, List.drop_zero]
    refine ⟨by decide, ⟨by omega, by simp⟩, ?_⟩
    revert hO
    unfold sgns
    iterate 12 refine step _ _ _ ?_
    intro h'
    rw [List.contains_cons] at h'
    cases e : (b == 95) <;> rw [e] at h' <;> simpa [zq263_j3, e] using h'
  by_cases hl : 2 ≤ (b :: r).length
  · have hl' : (2 : Int) ≤ r.length + 1 := by simp only [List.length_cons] at hl; omega
    have hl2 : 1 ≤ r.length := by simp only [List.length_cons] at hl; omega
    cases h2 : sgn2 (b :: r) with
    | true =>
      have h3 : sgn (b :: r) = 2 := by simp [sgn, h2]
      rw [h3] at hO
      unfold sgn2 at h2
      simp only [List.take_succ_cons] at h2 hO
      cases e1 : (b :: List.take 1 r == [45, 62]) with
      | true => simpa [zq263, hl', hl2, zq263_j1, e1] using hO
      | false =>
        cases e2 : (b :: List.take 1 r == [60, 61]) with
        | true => simpa [zq263, hl', hl2, zq263_j1, e1, e2] using hO
        | false =>
          rw [e1, e2] at h2
          simp only [Bool.false_or] at h2
          simpa [zq263, hl', hl2, zq263_j1, e1, e2, h2] using hO
    | false =>
      have ho := one h2
      unfold sgn2 at h2
      simp only [List.take_succ_cons] at h2
      rw [Bool.or_eq_false_iff, Bool.or_eq_false_iff] at h2
      simpa [zq263, hl', hl2, zq263_j1, h2.1.1, h2.1.2, h2.2] using ho
  · have ho := one (sgn2_short hl)
    have : ¬ ((2 : Int) ≤ r.length + 1) := by simp only [List.length_cons] at hl; omega
    simpa [zq263, this] using ho
end Go.Proofs.YtfpmdpldabopjaaGreatDoor
namespace Go.Proofs.YtfpmdpldabopjaaGreatDoor
open Go Go.Abs
set_option linter.unusedSimpArgs false
set_option maxRecDepth 4000
theorem sign47 (b : UInt8) (r : List UInt8) (H : Heap) (K : AV → Heap → Prop) (hK : K (.int .i64 (sgn (b :: r))) H) : ACalls Tryz.prog n_zq202 [.str (b :: r)] H K := by
  refine ACalls.out (zq202_ok fun hs => ?_)
  have hO := outHere (K := K) (H := H) (r := .int .i64 (sgn (b :: r))) hs rfl rfl hK
  have one : sgn2 (b :: r) = false → zq202_l5 (.str (b :: r)) (.str sgns) (.int .i64 0) H (Out H.length K) := by
    intro h2
    rw [sgn_cons b r h2] at hO
    have hlen : sgns.length = 13 := rfl
    generalize sgns = ws at *
    refine zq202_loop5 (Inv := fun q t4 H' => ∃ i : Nat, i ≤ ws.length ∧ q = ws.length - i ∧ t4 = .int .i64 i ∧ (ws.drop i).contains b = ws.contains b ∧ H' = H) ws.length ?_ ?_
    · intro _; exact ⟨0, by omega, by omega, rfl, by simp, rfl⟩
    · rintro q t8 H' ⟨i, hi, rfl, rfl, ho, rfl⟩ hsc _ hsF Kb hKb
      by_cases hlt : i < ws.length
      · rw [List.drop_eq_getElem_cons hlt, List.contains_cons] at ho
        have e1 := u8_eq b ws[i]
        cases hz : (b == ws[i]) with
        | true =>
          rw [hz, Bool.true_or] at ho
          rw [← ho] at hO
          simpa [zq202_b5, hlt, e1, hz] using hO
        | false =>
          rw [hz, Bool.false_or] at ho
          simp [zq202_b5, hlt, e1, hz]
          rw [wrap_in (by omega) (by omega)]
          refine hKb _ _ ⟨ws.length - (i + 1), by omega, Back.here (Nat.le_refl _) hs ?_ ⟨_, rfl, i + 1, by omega, rfl, by simp, ho, rfl⟩⟩
          simp [zq202_fr5, AV.sc, AV.scV, AV.scA, AV.scB]
      · obtain rfl : i = ws.length := by omega
        rw [List.drop_length] at ho
        rw [← ho] at hO
        simpa [zq202_b5, hlt] using hO
  by_cases hl : 2 ≤ (b :: r).length
  · have hl' : (2 : Int) ≤ r.length + 1 := by simp only [List.length_cons] at hl; omega
    have hl2 : 1 ≤ r.length := by simp only [List.length_cons] at hl; omega
    cases h2 : sgn2 (b :: r) with
    | true =>
      have h3 : sgn (b :: r) = 2 := by simp [sgn, h2]
      rw [h3] at hO
      unfold sgn2 at h2
      simp only [List.take_succ_cons] at h2 hO
      cases e1 : (b :: List.take 1 r == [45, 62]) with
      | true => simpa [zq202, hl', hl2, e1] using hO
      | false =>
        cases e2 : (b :: List.take 1 r == [60, 61]) with
        | true => simpa [zq202, hl', hl2, e1, e2] using hO
        | false =>
          rw [e1, e2] at h2
          simp only [Bool.false_or] at h2
          simpa [zq202, hl', hl2, e1, e2, h2] using hO
    | false =>
      have ho := one h2
      unfold sgns at ho
      unfold sgn2 at h2
      simp only [List.take_succ_cons] at h2
      rw [Bool.or_eq_false_iff, Bool.or_eq_false_iff] at h2
      simpa [zq202, hl', hl2, h2.1.1, h2.1.2, h2.2] using ho
  · have ho := one (sgn2_short hl)
    unfold sgns at ho
    have : ¬ ((2 : Int) ≤ r.length + 1) := by simp only [List.length_cons] at hl; omega
    simpa [zq202, this] using ho

def Tk.cs (t : Tk) : List AV := [.int .i64 t.kind, .str t.text, .int .i64 t.pos]
def scanR (kw : List UInt8 → Bool) (b : UInt8) (r : List UInt8) (i : Nat) : AV :=
  match tok kw b r with
  | .error e => .tup [.agg [.int .i64 0, .str [], .int .i64 0], .int .i64 e]
  | .ok (k, n) => .tup [.agg (Tk.cs ⟨k, (b :: r).take n, i⟩), .int .i64 0]
theorem take_takeWhile {p : UInt8 → Bool} (b : UInt8) (r : List UInt8) : (b :: r).take ((r.takeWhile p).length + 1) = b :: r.takeWhile p := by
  rw [List.take_succ_cons]
  congr 1
  induction r with
  | nil => simp
  | cons c r ih => by_cases h : p c = true <;> simp [h, ih]
theorem kw53 : callable Tryz.prog n_zq259 = true := by kernel_rfl
theorem kw54 : callable Tryz.prog n_zq261 = true := by kernel_rfl
theorem outScan {H J : Heap} {K : AV → Heap → Prop} {k p e : Int} {t : List UInt8} (hs : HSc H) (h : K (.tup [.agg [.int .i64 k, .str t, .int .i64 p], .int .i64 e]) H) :
    Out H.length K (.tup [.agg [.int .i64 k, .str t, .int .i64 p], .int .i64 e]) (H ++ J) := Out.tup hs h ⟨keepV rfl rfl, keepV rfl rfl, trivial⟩
def zq246_d (t4 t6 : AV) (H : Heap) (K : AV → Heap → Prop) : Prop :=
  aFld 1 t6 fun t69 =>
  aLoad false 1 t69 H fun t70 =>
  ACalls Tryz.prog n_zq262 [t70] H fun t71 H =>
  aUn .not t71 fun t72 =>
  aTest t72
  (aBuild [(.int .i64 0), (.str []), (.int .i64 0)] [(0, 1), (1, 1), (2, 1)] [] fun t73 =>
  aStore 3 t4 t73 H fun H =>
  aLoad true 3 t4 H fun r0 =>
  aRet [r0, (.int .i64 9)] (K · H))
  (zq246_j2 t4 t6 H K)
theorem scan42 (s : List UInt8) (hl : s.length ≤ 1000000) (i : Nat) (hi : i < s.length) (H : Heap) (K : AV → Heap → Prop) (hK : K (scanR (kwF kwds) s[i] (s.drop (i + 1)) i) H) : ACalls Tryz.prog n_zq246 [.str s, .int .i64 i] H K := by
  refine ACalls.out (zq246_ok fun hs => ?_)
  have hdr := List.drop_eq_getElem_cons hi
  have hrl : (s.drop i).length ≤ 1000000 := by simp; omega
  generalize hb : s[i] = b at *
  generalize hr : s.drop (i + 1) = r at *
  have hb' : s[i]?.getD 0 = b := by simp [hi, hb]
  have post : ∀ (k : Int) (n : Nat), tok (kwF kwds) b r = .ok (k, n) → ∀ t, (b :: r).take n = t → zq246_j2 (.ptr H.length 0) (.ptr (H.length + 1) 0) (H ++ [.cells [.int .i64 0, .str [], .int .i64 0], .cells [.int .i64 k, .str t, .int .i64 i]]) (Out H.length K) := by
    intro k n ht t hte
    subst hte
    simp [scanR, ht, Tk.cs] at hK
    simp [zq246_j2, zq246_j3, AV.known, AV.isV]
    exact outScan hs hK
  have bad : ∀ e : Int, tok (kwF kwds) b r = .error e → ∀ J, Out H.length K (.tup [.agg [.int .i64 0, .str [], .int .i64 0], .int .i64 e]) (H ++ J) := by
    intro e ht J
    simp [scanR, ht] at hK
    exact outScan hs hK
  have hi' := Nat.le_of_lt hi
  by_cases hLU : (bLow b || bUp b) = true
  · have hin : bIn b = true := by simp [bIn, hLU]
    simp [zq246, hi, hb, hi', aBuild, fillA, AV.known]
    refine low50 b _ _ ?_
    have hc : bLow b = true ∨ (bLow b = false ∧ bUp b = true) := by cases hL : bLow b <;> simp [hL] at hLU ⊢; exact hLU
    have hpost := fun k => post k ((r.takeWhile bIn).length + 1)
    simp only [tok, hLU, if_true, take_takeWhile] at hpost
    rcases hc with hL | ⟨hL, hU⟩
    case' inl => simp [hL]
    case' inr => simp [hL]; refine up51 b _ _ ?_; simp [hU]
    all_goals
      rw [hdr]
      refine prefix52 bIn n_zq259 kw53 within53 (b :: r) (by rw [← hdr]; exact hrl) _ _ ?_
      simp [hin, AV.known]
      by_cases hn : (r.takeWhile bIn).length + 1 > 24
      · have hn' : (24 : Int) < (r.takeWhile bIn).length + 1 := by omega
        have := bad 9 (by simp only [tok, hLU, if_true]; rw [if_pos hn])
        simp [hn', AV.known, AV.isV]
        exact this _
      · have hn' : ¬ (24 : Int) < (r.takeWhile bIn).length + 1 := by omega
        simp [hn']
        refine up51 b _ _ ?_
        rw [if_neg hn] at hpost
        cases hU : bUp b with
        | true =>
          simp [AV.known, zq246_j1]
          exact hpost 2 (by simp [hU]) _ rfl
        | false =>
          simp [AV.known]
          refine kw11 _ _ _ ?_
          cases hkw : kwF kwds (b :: r.takeWhile bIn) with
          | true =>
            simp [AV.known, zq246_j1]
            exact hpost 4 (by simp [hU, hkw]) _ rfl
          | false =>
            simp [AV.known, zq246_j1]
            exact hpost 1 (by simp [hU, hkw]) _ rfl
  · have hL : bLow b = false := by simp at hLU; exact hLU.1
    have hU : bUp b = false := by simp at hLU; exact hLU.2
    simp [zq246, hi, hb, aBuild, fillA, AV.known]
    refine low50 b _ _ ?_
    simp [hL]
    refine up51 b _ _ ?_
    simp [hU]
    refine dig54 b _ _ ?_
    cases hD : bDig b with
    | true =>
      simp [hi', AV.known]
      rw [hdr]
      refine prefix52 bDig n_zq261 kw54 dig54 (b :: r) (by rw [← hdr]; exact hrl) _ _ ?_
      have e1 : ((b.toNat : Int) == 48) = (b == 48) := u8_eq b 48
      have htk : tok (kwF kwds) b r = if (b == 48 && decide ((r.takeWhile bDig).length + 1 > 1)) = true then .error 2 else if smallF (b :: r.takeWhile bDig) 0 = true then .ok (3, (r.takeWhile bDig).length + 1) else .error 9 := by
        simp only [tok, hLU, hD, if_true, take_takeWhile]
        rfl
      have hsm : ∀ J, ACalls Tryz.prog n_zq262 [.str (b :: r.takeWhile bDig)] (H ++ J) fun t H' => t = .bool (smallF (b :: r.takeWhile bDig) 0) ∧ H' = H ++ J := by
        intro J
        refine small55 _ ?_ ?_ _ _ ⟨rfl, rfl⟩
        · intro c hc
          rcases List.mem_cons.1 hc with rfl | hc
          · exact hD
          · exact List.all_eq_true.1 (List.all_takeWhile) c hc
        · have h1 : (r.takeWhile bDig).length ≤ r.length := (List.takeWhile_sublist _).length_le
          rw [hdr] at hrl
          simp at hrl ⊢
          omega
      simp [hD, AV.known, e1]
      have hpost := post 3 ((r.takeWhile bDig).length + 1)
      rw [take_takeWhile] at hpost
      rw [htk] at hpost bad
      have last : ∀ J, (¬ (b == 48 && decide ((r.takeWhile bDig).length + 1 > 1)) = true) → J = [.cells [.int .i64 0, .str [], .int .i64 0], .cells [.int .i64 3, .str (b :: r.takeWhile bDig), .int .i64 i]] → zq246_d (.ptr H.length 0) (.ptr (H.length + 1) 0) (H ++ J) (Out H.length K) := by
        rintro J hne rfl
        rw [if_neg hne] at hpost bad
        simp [zq246_d]
        refine (hsm _).mono ?_
        rintro _ _ ⟨rfl, rfl⟩
        cases hv : smallF (b :: r.takeWhile bDig) 0 with
        | true =>
          simp
          exact hpost (by simp [hv]) _ rfl
        | false =>
          simp [AV.known, aBuild, fillA, AV.isV]
          exact bad 9 (by simp [hv]) _
      cases hz : (b == 48) with
      | true =>
        simp [hz]
        by_cases hn : 1 < (r.takeWhile bDig).length + 1
        · have hn' : (1 : Int) < (r.takeWhile bDig).length + 1 := by omega
          have hd : decide ((r.takeWhile bDig).length + 1 > 1) = true := decide_eq_true hn
          have := bad 2 (by rw [hz, hd]; rfl)
          simp [hn', AV.known, AV.isV]
          exact this _
        · have hn' : ¬ (1 : Int) < (r.takeWhile bDig).length + 1 := by omega
          have hd : decide ((r.takeWhile bDig).length + 1 > 1) = false := decide_eq_false hn
          have := last _ (by rw [hz, hd]; decide) rfl
          simp [zq246_d, aBuild, fillA] at this
          simp [hn']
          exact this
      | false =>
        have := last _ (by simp [hz]) rfl
        simp [zq246_d, aBuild, fillA] at this
        simp [hz]
        exact this
    | false => 
      simp [hi', AV.known]
      rw [hdr]
      refine sign56 b r _ _ ?_
      simp [AV.known]
      have htk : tok (kwF kwds) b r = if sgn (b :: r) = 0 then .error 2 else .ok (5, sgn (b :: r)) := by
        simp only [tok, hLU, hD]
        rfl
      by_cases hz : sgn (b :: r) = 0
      · have := bad 2 (by rw [htk, if_pos hz])
        simp [hz, AV.isV]
        exact this _
      · have := post 5 (sgn (b :: r)) (by rw [htk, if_neg hz]) _ rfl
        have he : (List.take (sgn (b :: r)) (b :: r)).isEmpty = false := by
          cases h : sgn (b :: r) with
          | zero => exact absurd h hz
          | succ n => simp
        simp [he]
        exact this
end Go.Proofs.YtfpmdpldabopjaaGreatDoor
namespace Go.Proofs.YtfpmdpldabopjaaGreatDoor
open Go Go.Abs
set_option linter.unusedSimpArgs false
set_option maxRecDepth 4000
def cat (l : List Tk) : Except (Nat × Int) (List Tk) → Except (Nat × Int) (List Tk)
  | .error e => .error e
  | .ok m => .ok (l ++ m)
theorem cat_cat (l m : List Tk) (r : Except (Nat × Int) (List Tk)) : cat l (cat m r) = cat (l ++ m) r := by cases r <;> simp [cat]
@[simp] theorem cat_nil (r : Except (Nat × Int) (List Tk)) : cat [] r = r := by cases r <;> rfl
def skipC (r : List UInt8) : List UInt8 := r.dropWhile (· != 10)
def skipN (r : List UInt8) : Nat := (r.takeWhile (· != 10)).length
section
variable (kw : List UInt8 → Bool)
theorem toks_nil (p : Nat) : toks kw [] p = .ok [⟨6, [], p⟩] := by unfold toks; rfl
theorem toks_blank {b : UInt8} (h : bBlank b = true) (r : List UInt8) (p : Nat) : toks kw (b :: r) p = toks kw r (p + 1) := by
  conv => lhs; unfold toks
  simp [h]
theorem toks_hash {b : UInt8} (h0 : bBlank b = false) (h : (b == 35) = true) (r : List UInt8) (p : Nat) : toks kw (b :: r) p = toks kw (skipC r) (p + 1 + skipN r) := by
  conv => lhs; unfold toks
  simp only [h0, h, Bool.false_eq_true, if_false, if_true]
  rfl
theorem toks_err {b : UInt8} (h0 : bBlank b = false) (h : (b == 35) = false) {r : List UInt8} {p : Nat} {e : Int} (ht : tok kw b r = .error e) : toks kw (b :: r) p = .error (p, e) := by
  conv => lhs; unfold toks
  simp only [h0, h, Bool.false_eq_true, if_false, ht]
theorem toks_ok {b : UInt8} (h0 : bBlank b = false) (h : (b == 35) = false) {r : List UInt8} {p : Nat} {k : Int} {n : Nat} (ht : tok kw b r = .ok (k, n)) :
    toks kw (b :: r) p = cat [⟨k, (b :: r).take n, p⟩] (toks kw ((b :: r).drop n) (p + n)) := by
  conv => lhs; unfold toks
  have hn := tok_pos ht
  obtain ⟨m, rfl⟩ : ∃ m, n = m + 1 := ⟨n - 1, by omega⟩
  simp only [h0, h, Bool.false_eq_true, if_false, ht, Nat.add_sub_cancel, List.drop_succ_cons]
  cases toks kw (r.drop m) (p + (m + 1)) <;> rfl
end
theorem skipC_cons_ne {b : UInt8} (h : (b == 10) = false) (r : List UInt8) : skipC (b :: r) = skipC r ∧ skipN (b :: r) = 1 + skipN r := by
  have hb : b ≠ 10 := by simpa using h
  constructor
  · simp [skipC, hb]
  · simp [skipN, hb]; omega
theorem skipC_cons_eq {b : UInt8} (h : (b == 10) = true) (r : List UInt8) : skipC (b :: r) = b :: r ∧ skipN (b :: r) = 0 := by
  have hb : b = 10 := by simpa using h
  constructor
  · simp [skipC, hb]
  · simp [skipN, hb]
theorem skipC_nil : skipC [] = [] ∧ skipN [] = 0 := ⟨rfl, rfl⟩
theorem tok_len {kw : List UInt8 → Bool} {b : UInt8} {r : List UInt8} {k : Int} {n : Nat} (h : tok kw b r = .ok (k, n)) : n ≤ (b :: r).length := by
  have tw : ∀ p : UInt8 → Bool, (r.takeWhile p).length ≤ r.length := fun p => (List.takeWhile_sublist _).length_le
  unfold tok at h
  split at h
  · simp only at h; split at h <;> simp at h; have := tw bIn; simp; omega
  · split at h
    · simp only at h; split at h
      · simp at h
      · split at h <;> simp at h; have := tw bDig; simp; omega
    · simp only at h
      split at h <;> simp at h
      obtain ⟨_, rfl⟩ := h
      unfold sgn
      split
      · rename_i h2
        by_cases hl : 2 ≤ (b :: r).length
        · exact hl
        · rw [sgn2_short hl] at h2; cases h2
      · split
        · simp
        · split <;> simp
theorem tok_err {kw : List UInt8 → Bool} {b : UInt8} {r : List UInt8} {e : Int} (h : tok kw b r = .error e) : e = 2 ∨ e = 9 := by
  unfold tok at h
  split at h
  · simp only at h; split at h <;> simp at h; omega
  · split at h
    · simp only at h; split at h
      · simp at h; omega
      · split at h <;> simp at h; omega
    · simp only at h
      split at h <;> simp at h; omega
def splitR (s : List UInt8) : AV :=
  if s.length > 16384 then .tup [.sl [] .none, .int .i64 0, .int .i64 9] else
  match toks (kwF kwds) s 0 with
  | .error (p, e) => .tup [.sl [] .none, .int .i64 p, .int .i64 e]
  | .ok l => .tup [.sl (l.map Tk.cs) .none, .int .i64 0, .int .i64 0]
theorem two {H : Heap} {x y : AB} : H ++ [x, y] = (H ++ [x]) ++ [y] := by simp
theorem outErr {H J : Heap} {K : AV → Heap → Prop} {p e : Int} (hs : HSc H) (hK : K (.tup [.sl [] .none, .int .i64 p, .int .i64 e]) H) : Out H.length K (.tup [.snil, .int .i64 p, .int .i64 e]) (H ++ J) :=
  Out.tup hs hK ⟨snilV, keepV rfl rfl, keepV rfl rfl, trivial⟩
theorem split25 (s : List UInt8) (H : Heap) (K : AV → Heap → Prop) (hK : K (splitR s) H) : ACalls Tryz.prog n_zq221 [.str s] H K := by
  refine ACalls.out (zq221_ok fun hs => ?_)
  by_cases hl : s.length > 16384
  · have hl' : (16384 : Int) < s.length := by omega
    simp [zq221, hl', AV.isV]
    unfold splitR at hK
    rw [if_pos hl] at hK
    exact Out.tup0 hs hK ⟨snilV, keepV rfl rfl, keepV rfl rfl, trivial⟩
  have hl' : ¬ (16384 : Int) < s.length := by omega
  unfold splitR at hK
  rw [if_neg hl] at hK
  simp [zq221, hl']
  have hperm : ∀ n, HSc (H ++ [.perm e_token_Token 3 n]) := fun n => hs.append rfl
  unfold zq221_l5
  refine ALoop.own 5 e_token_Token 3 rfl ?_
  show zq221_l5 (.str s) (.sl [] (.own H.length)) (.int .i64 0) (H ++ [.perm e_token_Token 3 0]) (Out H.length K)
  refine zq221_loop5 (Inv := fun q t5 t6 H' => ∃ (i : Nat) (l : List Tk), i ≤ s.length ∧ l.length ≤ i ∧ q = s.length - i ∧ t6 = .int .i64 i ∧ t5 = .sl (l.map Tk.cs) (.own H.length) ∧ H' = H ++ [.perm e_token_Token 3 l.length] ∧ cat l (toks (kwF kwds) (s.drop i) i) = toks (kwF kwds) s 0) s.length ?_ ?_
  · intro _; exact ⟨0, [], by omega, by simp, by omega, rfl, rfl, rfl, by simp⟩
  · rintro q t5 t6 H' ⟨i, l, hi, hll, rfl, rfl, rfl, rfl, ho⟩ hsc hlen hsF Kb hKb
    have done : cat l (.ok [⟨6, [], s.length⟩]) = toks (kwF kwds) s 0 → zq221_j2 (.str s) (.sl (l.map Tk.cs) (.own H.length)) (H ++ [.perm e_token_Token 3 l.length]) (Out H.length K) := by
      intro ho
      rw [← ho] at hK
      simp [zq221_j2, zq221_j3, aBuild, fillA, aBuildS, fillS, plain, AV.pd, aAppend, aSrc, aAppTo, AV.isV]
      refine ⟨by omega, ?_⟩
      simp [cat, Tk.cs] at hK
      exact Out.tup hs hK ⟨slV, keepV rfl rfl, keepV rfl rfl, trivial⟩
    by_cases hlt : i < s.length
    · have hdr := List.drop_eq_getElem_cons hlt
      simp [zq221_b5, hlt]
      refine blank41 _ _ _ ?_
      have e35 : ((s[i].toNat : Int) == 35) = (s[i] == 35) := u8_eq s[i] 35
      cases hbl : bBlank s[i] with
      | true =>
        rw [hdr, toks_blank _ hbl] at ho
        simp [zq221_j1]
        rw [wrap_in (by omega) (by omega)]
        refine hKb _ _ ⟨s.length - (i + 1), by omega, Back.here (by simp) (hperm _) ?_ ⟨_, _, rfl, i + 1, l, by omega, by omega, rfl, by simp, rfl, rfl, ho⟩⟩
        simp [zq221_fr5, AV.sc, AV.scV, AV.scA, AV.scB]
      | false =>
        simp [e35]
        cases hsh : (s[i] == 35) with
        | true =>
          simp
          rw [hdr, toks_hash _ hbl hsh] at ho
          have h10 : (s[i] == 10) = false := by
            rw [beq_iff_eq] at hsh; rw [hsh]; rfl
          obtain ⟨c1, c2⟩ := skipC_cons_ne h10 (s.drop (i + 1))
          rw [Nat.add_assoc, ← c1, ← c2, ← hdr] at ho
          refine zq221_loop9 (Inv := fun q t6 H' => ∃ (j : Nat), i ≤ j ∧ j ≤ s.length ∧ q = s.length - j ∧ t6 = .int .i64 j ∧ H' = H ++ [.perm e_token_Token 3 l.length] ∧ cat l (toks (kwF kwds) (skipC (s.drop j)) (j + skipN (s.drop j))) = toks (kwF kwds) s 0) (s.length - i) ?_ ?_
          · intro _; exact ⟨i, by omega, by omega, by omega, rfl, rfl, ho⟩
          · rintro q t6 H' ⟨j, hij, hj, rfl, rfl, rfl, ho⟩ hsc hlen hsF Kb9 hKb9
            by_cases hjlt : j < s.length
            · have hdrj := List.drop_eq_getElem_cons hjlt
              have e10 : ((s[j].toNat : Int) == 10) = (s[j] == 10) := u8_eq s[j] 10
              simp [zq221_b9, hjlt, e10]
              cases hz : (s[j] == 10) with
              | true =>
                obtain ⟨d1, d2⟩ := skipC_cons_eq hz (s.drop (j + 1))
                rw [hdrj, d1, d2, ← hdrj, Nat.add_zero] at ho
                have hij' : i ≠ j := by rintro rfl; rw [h10] at hz; cases hz
                simp [zq221_j1]
                refine hKb _ _ ⟨s.length - j, by omega, Back.here (by simp) (hperm _) ?_ ⟨_, _, rfl, j, l, by omega, by omega, rfl, by simp, rfl, rfl, ho⟩⟩
                simp [zq221_fr5, AV.sc, AV.scV, AV.scA, AV.scB]
              | false =>
                obtain ⟨d1, d2⟩ := skipC_cons_ne hz (s.drop (j + 1))
                rw [hdrj, d1, d2, ← Nat.add_assoc] at ho
                simp
                rw [wrap_in (by omega) (by omega)]
                refine hKb9 _ _ ⟨s.length - (j + 1), by omega, Back.here (by simp) (hperm _) ?_ ⟨_, rfl, j + 1, by omega, by omega, rfl, by simp, rfl, ho⟩⟩
                simp [zq221_fr9, AV.sc, AV.scV, AV.scA, AV.scB]
            · obtain rfl : j = s.length := by omega
              simp [zq221_b9]
              rw [List.drop_length, skipC_nil.1, skipC_nil.2, Nat.add_zero, toks_nil] at ho
              exact done ho
        | false =>
          simp
          refine scan42 s (by omega) i hlt _ _ ?_
          unfold scanR
          cases ht : tok (kwF kwds) s[i] (s.drop (i + 1)) with
          | error e =>
            rw [hdr, toks_err _ hbl hsh ht] at ho
            have he : (e != 0) = true := by rcases tok_err ht with rfl | rfl <;> rfl
            rw [← ho] at hK
            simp [AV.known, AV.isV, he]
            exact outErr hs hK
          | ok kn =>
            obtain ⟨k, n⟩ := kn
            rw [hdr, toks_ok _ hbl hsh ht, cat_cat, ← hdr] at ho
            have hn := tok_len ht
            rw [← hdr] at hn
            simp at hn
            have hn0 := tok_pos ht
            simp [Tk.cs, AV.known, aBuildS, fillS, plain, AV.pd, aAppend, aSrc, aAppTo, zq221_j1]
            refine ⟨by omega, ?_⟩
            rw [show min n (s.length - i) = n by omega, wrap_in (by omega) (by omega), two]
            refine hKb _ _ ⟨s.length - (i + n), by omega, Back.same (by simp) (hperm _) ?_ ⟨_, _, rfl, i + n, l ++ [⟨k, (s.drop i).take n, i⟩], by omega, by simp; omega, rfl, by simp, by simp [Tk.cs], by simp, ?_⟩⟩
            · simp [zq221_fr5, AV.sc, AV.scV, AV.scA, AV.scB]
            · rw [List.drop_drop] at ho; exact ho
    · obtain rfl : i = s.length := by omega
      rw [List.drop_length, toks_nil] at ho
      simpa [zq221_b5] using done ho
end Go.Proofs.YtfpmdpldabopjaaGreatDoor
namespace Go.Proofs.YtfpmdpldabopjaaGreatDoor
open Go Go.Abs
set_option linter.unusedSimpArgs false
set_option maxRecDepth 4000
set_option maxRecDepth 4000
set_option linter.unusedVariables false
theorem tk_drop (s : List UInt8) (i n : Nat) : List.drop i (List.take (i + n) s) = List.take n (List.drop i s) := by
  rw [List.drop_take]; congr 1; omega
def zq160_e18 (t0 t5 t6 t7 t8 : AV) (H : Heap) (K : AV → Heap → Prop) (Kb5 : List AV → Heap → Prop) : Prop :=
  aBin .gtr false t8 (.int .i64 24) fun t118 =>
  aTest t118
  (aRet [.snil, t6, (.int .i64 9)] (K · H))
  (ACalls Tryz.prog n_zq198 [t7] H fun t121 H =>
  aTest t121
  (zq160_j2 t0 t5 t6 t8 (.int .i64 2) H K Kb5)
  (aBin .add false t6 t8 fun t126 =>
  aSlice 0 0 t0 (some t6) (some t126) fun t127 =>
  ACalls Tryz.prog n_zq200 [t127] H fun t128 H =>
  aTest t128
  (zq160_j2 t0 t5 t6 t8 (.int .i64 4) H K Kb5)
  (zq160_j2 t0 t5 t6 t8 (.int .i64 1) H K Kb5)))
section
variable (s : List UInt8) (hl : ¬ s.length > 16384) (i : Nat) (hlt : i < s.length) (H : Heap) (l : List Tk) (hll : l.length ≤ i) (hperm : ∀ n, HSc (H ++ [.perm e_ref3_Token 3 n])) (K : AV → Heap → Prop) (Kb : List AV → Heap → Prop)
include hl hlt hll hperm
theorem word26 (hLU : (bLow s[i] || bUp s[i]) = true)
    (app : ∀ (k : Int) (n : Nat), tok (kwF kwds) s[i] (s.drop (i + 1)) = .ok (k, n) → ∀ t, (s.drop i).take n = t → zq160_j4 (.str s) (.sl (l.map Tk.cs ++ [[.int .i64 k, .str t, .int .i64 i]]) (.own H.length)) (.int .i64 i) (.int .i64 n) (H ++ [.perm e_ref3_Token 3 (l.length + 1)]) (Out H.length K) Kb)
    (bad : ∀ e : Int, tok (kwF kwds) s[i] (s.drop (i + 1)) = .error e → Out H.length K (.tup [.snil, .int .i64 i, .int .i64 e]) (H ++ [.perm e_ref3_Token 3 l.length])) :
    zq160_l18 (.str s) (.sl (l.map Tk.cs) (.own H.length)) (.int .i64 i) (.int .u8 s[i].toNat) (.int .i64 1) (H ++ [.perm e_ref3_Token 3 l.length]) (Out H.length K) Kb := by
  refine zq160_loop18 (Inv := fun q t8 H' => ∃ (j : Nat), i + j ≤ s.length ∧ 0 < j ∧ q = s.length - j ∧ t8 = .int .i64 j ∧ H' = H ++ [.perm e_ref3_Token 3 l.length] ∧ j + ((s.drop (i + j)).takeWhile bIn).length = ((s.drop (i + 1)).takeWhile bIn).length + 1) (s.length - 1) ?_ ?_
  · intro _; exact ⟨1, by omega, by omega, by omega, rfl, rfl, by omega⟩
  · rintro q t8 H' ⟨j, hij, hj0, rfl, rfl, rfl, hn⟩ hsc hlen hsF Kb18 hKb18
    have w1 : IntKind.i64.wrap ((i : Int) + j) = i + j := wrap_in (by omega) (by omega)
    have w2 : IntKind.i64.wrap ((j : Int) + 1) = j + 1 := wrap_in (by omega) (by omega)
    have fin : ((s.drop (i + j)).takeWhile bIn).length = 0 → zq160_e18 (.str s) (.sl (l.map Tk.cs) (.own H.length)) (.int .i64 i) (.int .u8 s[i].toNat) (.int .i64 j) (H ++ [.perm e_ref3_Token 3 l.length]) (Out H.length K) Kb := by
      intro h0
      rw [h0] at hn
      have htk : tok (kwF kwds) s[i] (s.drop (i + 1)) = if j > 24 then .error 9 else .ok (if bUp s[i] = true then 2 else if kwF kwds ((s.drop i).take j) = true then 4 else 1, j) := by
        rw [List.drop_eq_getElem_cons hlt]
        simp only [tok, hLU, if_true, ← hn, Nat.add_zero]
      by_cases h24 : j > 24
      · have h24' : (24 : Int) < j := by omega
        rw [if_pos h24] at htk
        simp [zq160_e18, h24', AV.isV]
        exact bad 9 htk
      · have h24' : ¬ (24 : Int) < j := by omega
        rw [if_neg h24] at htk
        simp [zq160_e18, h24']
        refine up44 _ _ _ ?_
        have fin2 : ∀ k, k = (if bUp s[i] = true then 2 else if kwF kwds ((s.drop i).take j) = true then 4 else 1 : Int) → zq160_j2 (.str s) (.sl (l.map Tk.cs) (.own H.length)) (.int .i64 i) (.int .i64 j) (.int .i64 k) (H ++ [.perm e_ref3_Token 3 l.length]) (Out H.length K) Kb := by
          intro k hk
          rw [← hk] at htk
          have := app k j htk _ rfl
          simp [zq160_j2, w1, w2, aBuild, fillA, aBuildS, fillS, plain, AV.pd, aAppend, aSrc, aAppTo, zq160_j3]
          refine ⟨by omega, by omega, by omega, ?_⟩
          rw [show ((i : Int) + j).toNat = i + j by omega, tk_drop]
          exact this
        cases hU : bUp s[i] with
        | true => simp; exact fin2 2 (by simp [hU])
        | false =>
          simp [w1, w2]
          refine ⟨by omega, by omega, ?_⟩
          rw [show ((i : Int) + j).toNat = i + j by omega, tk_drop]
          refine kw12 _ _ _ ?_
          cases hkw : kwF kwds ((s.drop i).take j) with
          | true => simp; exact fin2 4 (by simp [hU, hkw])
          | false => simp; exact fin2 1 (by simp [hU, hkw])
    by_cases hjlt : i + j < s.length
    · have e95 : ((s[i + j].toNat : Int) == 95) = (s[i + j] == 95) := u8_eq s[i + j] 95
      have hjlt' : (i + j : Int) < s.length := by omega
      rw [List.drop_eq_getElem_cons hjlt, List.takeWhile_cons] at hn fin
      have key : bIn s[i + j] = true → Kb18 (zq160_fr18 (.str s) (.sl (l.map Tk.cs) (.own H.length)) (.int .i64 i) (.int .u8 s[i].toNat) (.int .i64 (j + 1))) (H ++ [.perm e_ref3_Token 3 l.length]) := by
        intro hbin
        rw [hbin] at hn
        simp at hn
        refine hKb18 _ _ ⟨s.length - (j + 1), by omega, Back.here (by simp) (hperm _) ?_ ⟨_, rfl, j + 1, by omega, by omega, rfl, by simp, rfl, by rw [← Nat.add_assoc]; omega⟩⟩
        simp [zq160_fr18, AV.sc, AV.scV, AV.scA, AV.scB]
      have no : bIn s[i + j] = false → zq160_e18 (.str s) (.sl (l.map Tk.cs) (.own H.length)) (.int .i64 i) (.int .u8 s[i].toNat) (.int .i64 j) (H ++ [.perm e_ref3_Token 3 l.length]) (Out H.length K) Kb := by
        intro hbin
        rw [hbin] at fin
        exact fin (by simp)
      have hget : s[((i : Int) + j).toNat]?.getD 0 = s[i + j] := by
        rw [show ((i : Int) + j).toNat = i + j by omega]
        simp [hjlt]
      unfold bIn at key no
      simp [zq160_b18, w1, w2, hjlt', hget]
      refine ⟨by omega, ?_⟩
      refine low43 _ _ _ ?_
      cases hL : bLow s[i + j] with
      | true => simpa using key (by simp [hL])
      | false =>
        simp [w1, w2, hjlt', hget]
        refine ⟨by omega, up44 _ _ _ ?_⟩
        cases hU : bUp s[i + j] with
        | true => simpa using key (by simp [hU])
        | false =>
          simp [w1, w2, hjlt', hget]
          refine ⟨by omega, dig45 _ _ _ ?_⟩
          cases hD : bDig s[i + j] with
          | true => simpa using key (by simp [hD])
          | false =>
            simp [w1, w2, hjlt', hget, e95]
            refine ⟨by omega, ?_⟩
            cases h95 : (s[i + j] == 95) with
            | true => simpa using key (by simp [h95])
            | false => simpa [zq160_e18, w1] using no (by simp [hL, hU, hD, h95])
    · have hjlt' : ¬ (i + j : Int) < s.length := by omega
      have : s.drop (i + j) = [] := List.drop_eq_nil_of_le (by omega)
      rw [this] at fin
      have := fin rfl
      simp [zq160_b18, w1, w2, hjlt']
      simpa [zq160_e18, w1] using this
end
def zq160_d29 (t0 t5 t6 t8 : AV) (H : Heap) (K : AV → Heap → Prop) (Kb5 : List AV → Heap → Prop) : Prop :=
  aBin .add false t6 t8 fun t172 =>
  aSlice 0 0 t0 (some t6) (some t172) fun t173 =>
  ACalls Tryz.prog n_zq201 [t173] H fun t174 H =>
  aExt t174 0 fun t175 =>
  aExt t174 1 fun t176 =>
  aUn .not t176 fun t178 =>
  aTest t178
  (aRet [.snil, t6, (.int .i64 9)] (K · H))
  (aBin .add false t6 t8 fun t185 =>
  aSlice 0 0 t0 (some t6) (some t185) fun t186 =>
  aBuild [(.int .i64 0), (.str []), (.int .i64 0)] [(0, 1), (1, 1), (2, 1)] [(0, (.int .i64 3)), (1, t186), (2, t6)] fun t188 =>
  aBuildS 3 [(.int .i64 0), (.str []), (.int .i64 0)] 1 [(0, t188)] fun t189 =>
  aAppend e_ref3_Token 3 32 t5 t189 H fun t190 H =>
  zq160_j3 t0 t190 t6 t8 H K Kb5)
def zq160_e29 (t0 t5 t6 t7 t8 : AV) (H : Heap) (K : AV → Heap → Prop) (Kb5 : List AV → Heap → Prop) : Prop :=
  aBin .gtr false t8 (.int .i64 1) fun t161 =>
  aGuardJ t161 true H (fun K' => K' t7 H) fun t163 H =>
  aGuardJ t161 true H (fun K' => aBin .eql false t163 (.int .u8 48) (K' · H)) fun t164 H =>
  aPick t161 t164 (.bool false) fun t165 =>
  aTest t165
  (aRet [.snil, t6, (.int .i64 2)] (K · H))
  (aBin .add false t6 t8 fun t172 =>
  aSlice 0 0 t0 (some t6) (some t172) fun t173 =>
  ACalls Tryz.prog n_zq201 [t173] H fun t174 H =>
  aExt t174 0 fun t175 =>
  aExt t174 1 fun t176 =>
  aUn .not t176 fun t178 =>
  aTest t178
  (aRet [.snil, t6, (.int .i64 9)] (K · H))
  (aBin .add false t6 t8 fun t185 =>
  aSlice 0 0 t0 (some t6) (some t185) fun t186 =>
  aBuild [(.int .i64 0), (.str []), (.int .i64 0)] [(0, 1), (1, 1), (2, 1)] [(0, (.int .i64 3)), (1, t186), (2, t6)] fun t188 =>
  aBuildS 3 [(.int .i64 0), (.str []), (.int .i64 0)] 1 [(0, t188)] fun t189 =>
  aAppend e_ref3_Token 3 32 t5 t189 H fun t190 H =>
  zq160_j3 t0 t190 t6 t8 H K Kb5))
section
variable (s : List UInt8) (hl : ¬ s.length > 16384) (i : Nat) (hlt : i < s.length) (H : Heap) (l : List Tk) (hll : l.length ≤ i) (hperm : ∀ n, HSc (H ++ [.perm e_ref3_Token 3 n])) (K : AV → Heap → Prop) (Kb : List AV → Heap → Prop)
include hl hlt hll hperm
theorem num26 (hLU : ¬ (bLow s[i] || bUp s[i]) = true) (hD : bDig s[i] = true)
    (app : ∀ (k : Int) (n : Nat), tok (kwF kwds) s[i] (s.drop (i + 1)) = .ok (k, n) → ∀ t, (s.drop i).take n = t → zq160_j4 (.str s) (.sl (l.map Tk.cs ++ [[.int .i64 k, .str t, .int .i64 i]]) (.own H.length)) (.int .i64 i) (.int .i64 n) (H ++ [.perm e_ref3_Token 3 (l.length + 1)]) (Out H.length K) Kb)
    (bad : ∀ e : Int, tok (kwF kwds) s[i] (s.drop (i + 1)) = .error e → Out H.length K (.tup [.snil, .int .i64 i, .int .i64 e]) (H ++ [.perm e_ref3_Token 3 l.length])) :
    zq160_l29 (.str s) (.sl (l.map Tk.cs) (.own H.length)) (.int .i64 i) (.int .u8 s[i].toNat) (.int .i64 1) (H ++ [.perm e_ref3_Token 3 l.length]) (Out H.length K) Kb := by
  refine zq160_loop29 (Inv := fun q t8 H' => ∃ (j : Nat), i + j ≤ s.length ∧ 0 < j ∧ q = s.length - j ∧ t8 = .int .i64 j ∧ H' = H ++ [.perm e_ref3_Token 3 l.length] ∧ j + ((s.drop (i + j)).takeWhile bDig).length = ((s.drop (i + 1)).takeWhile bDig).length + 1) (s.length - 1) ?_ ?_
  · intro _; exact ⟨1, by omega, by omega, by omega, rfl, rfl, by omega⟩
  · rintro q t8 H' ⟨j, hij, hj0, rfl, rfl, rfl, hn⟩ hsc hlen hsF Kb18 hKb18
    have w1 : IntKind.i64.wrap ((i : Int) + j) = i + j := wrap_in (by omega) (by omega)
    have w2 : IntKind.i64.wrap ((j : Int) + 1) = j + 1 := wrap_in (by omega) (by omega)
    have e48 : ((s[i].toNat : Int) == 48) = (s[i] == 48) := u8_eq s[i] 48
    have fin : ((s.drop (i + j)).takeWhile bDig).length = 0 → zq160_e29 (.str s) (.sl (l.map Tk.cs) (.own H.length)) (.int .i64 i) (.int .u8 s[i].toNat) (.int .i64 j) (H ++ [.perm e_ref3_Token 3 l.length]) (Out H.length K) Kb := by
      intro h0
      rw [h0] at hn
      have hdj : (s.drop i).take j = s[i] :: (s.drop (i + 1)).takeWhile bDig := by
        rw [List.drop_eq_getElem_cons hlt, show j = ((s.drop (i + 1)).takeWhile bDig).length + 1 by omega, take_takeWhile]
      have htk : tok (kwF kwds) s[i] (s.drop (i + 1)) = if (s[i] == 48 && decide (j > 1)) = true then .error 2 else if smallF ((s.drop i).take j) 0 = true then .ok (3, j) else .error 9 := by
        rw [List.drop_eq_getElem_cons hlt]
        simp only [tok, hLU, hD, if_true, ← hn, Nat.add_zero]
        rfl
      have hval : ∀ (K : AV → Heap → Prop) (H : Heap), (∀ n, K (.tup [.int .i64 n, .bool (smallF ((s.drop i).take j) 0)]) H) → ACalls Tryz.prog n_zq201 [.str ((s.drop i).take j)] H K := by
        intro K H hK
        refine value46 _ ?_ (by simp; omega) _ _ hK
        intro c hc
        rw [hdj] at hc
        rcases List.mem_cons.1 hc with rfl | hc
        · exact hD
        · exact List.all_eq_true.1 (List.all_takeWhile) c hc
      have rest : ¬ (s[i] == 48 && decide (j > 1)) = true → zq160_d29 (.str s) (.sl (l.map Tk.cs) (.own H.length)) (.int .i64 i) (.int .i64 j) (H ++ [.perm e_ref3_Token 3 l.length]) (Out H.length K) Kb := by
        intro hne
        rw [if_neg hne] at htk
        simp [zq160_d29, w1]
        refine ⟨by omega, by omega, ?_⟩
        rw [show ((i : Int) + j).toNat = i + j by omega, tk_drop]
        refine hval _ _ fun n => ?_
        cases hv : smallF ((s.drop i).take j) 0 with
        | false =>
          rw [hv] at htk
          simp [AV.isV]
          exact bad 9 htk
        | true =>
          rw [hv] at htk
          have := app 3 j htk _ rfl
          simp [aBuild, fillA, aBuildS, fillS, plain, AV.pd, aAppend, aSrc, aAppTo, zq160_j3]
          refine ⟨by omega, by omega, by omega, ?_⟩
          exact this
      by_cases h1 : j > 1
      · have h1' : (1 : Int) < j := by omega
        have hd : decide (j > 1) = true := decide_eq_true h1
        rw [hd] at rest htk
        cases hz : (s[i] == 48) with
        | true =>
          rw [hz] at htk
          simp [zq160_e29, h1', e48, hz, AV.isV]
          exact bad 2 htk
        | false =>
          have := rest (by rw [hz]; decide)
          simp [zq160_e29, h1', e48, hz]
          simpa [zq160_d29] using this
      · have h1' : ¬ (1 : Int) < j := by omega
        have := rest (by rw [decide_eq_false h1]; simp)
        simp [zq160_e29, h1']
        simpa [zq160_d29] using this
    by_cases hjlt : i + j < s.length
    · have hjlt' : (i + j : Int) < s.length := by omega
      rw [List.drop_eq_getElem_cons hjlt, List.takeWhile_cons] at hn fin
      have hget : s[((i : Int) + j).toNat]?.getD 0 = s[i + j] := by
        rw [show ((i : Int) + j).toNat = i + j by omega]
        simp [hjlt]
      simp [zq160_b29, w1, w2, hjlt', hget]
      refine ⟨by omega, ?_⟩
      refine dig45 _ _ _ ?_
      cases hb : bDig s[i + j] with
      | true =>
        rw [hb] at hn
        simp at hn
        simp [w1, w2]
        refine hKb18 _ _ ⟨s.length - (j + 1), by omega, Back.here (by simp) (hperm _) ?_ ⟨_, rfl, j + 1, by omega, by omega, rfl, by simp, rfl, by rw [← Nat.add_assoc]; omega⟩⟩
        simp [zq160_fr29, AV.sc, AV.scV, AV.scA, AV.scB]
      | false =>
        rw [hb] at fin
        have := fin (by simp)
        simp [w1, w2]
        simpa [zq160_e29, w1] using this
    · have hjlt' : ¬ (i + j : Int) < s.length := by omega
      have : s.drop (i + j) = [] := List.drop_eq_nil_of_le (by omega)
      rw [this] at fin
      have := fin rfl
      simp [zq160_b29, w1, w2, hjlt']
      simpa [zq160_e29, w1] using this
end
theorem split26 (s : List UInt8) (H : Heap) (K : AV → Heap → Prop) (hK : K (splitR s) H) : ACalls Tryz.prog n_zq160 [.str s] H K := by
  refine ACalls.out (zq160_ok fun hs => ?_)
  by_cases hl : s.length > 16384
  · have hl' : (16384 : Int) < s.length := by omega
    simp [zq160, hl', AV.isV]
    unfold splitR at hK
    rw [if_pos hl] at hK
    exact Out.tup0 hs hK ⟨snilV, keepV rfl rfl, keepV rfl rfl, trivial⟩
  have hl' : ¬ (16384 : Int) < s.length := by omega
  unfold splitR at hK
  rw [if_neg hl] at hK
  simp [zq160, hl']
  have hperm : ∀ n, HSc (H ++ [.perm e_ref3_Token 3 n]) := fun n => hs.append rfl
  unfold zq160_l5
  refine ALoop.own 5 e_ref3_Token 3 rfl ?_
  show zq160_l5 (.str s) (.sl [] (.own H.length)) (.int .i64 0) (H ++ [.perm e_ref3_Token 3 0]) (Out H.length K)
  refine zq160_loop5 (Inv := fun q t5 t6 H' => ∃ (i : Nat) (l : List Tk), i ≤ s.length ∧ l.length ≤ i ∧ q = s.length - i ∧ t6 = .int .i64 i ∧ t5 = .sl (l.map Tk.cs) (.own H.length) ∧ H' = H ++ [.perm e_ref3_Token 3 l.length] ∧ cat l (toks (kwF kwds) (s.drop i) i) = toks (kwF kwds) s 0) s.length ?_ ?_
  · intro _; exact ⟨0, [], by omega, by simp, by omega, rfl, rfl, rfl, by simp⟩
  · rintro q t5 t6 H' ⟨i, l, hi, hll, rfl, rfl, rfl, rfl, ho⟩ hsc hlen hsF Kb hKb
    by_cases hlt : i < s.length
    · have hdr := List.drop_eq_getElem_cons hlt
      have e9 : ((s[i].toNat : Int) == 9) = (s[i] == 9) := u8_eq s[i] 9
      have e10 : ((s[i].toNat : Int) == 10) = (s[i] == 10) := u8_eq s[i] 10
      have e13 : ((s[i].toNat : Int) == 13) = (s[i] == 13) := u8_eq s[i] 13
      have e32 : ((s[i].toNat : Int) == 32) = (s[i] == 32) := u8_eq s[i] 32
      have e35 : ((s[i].toNat : Int) == 35) = (s[i] == 35) := u8_eq s[i] 35
      cases hbl : bBlank s[i] with
      | true =>
        rw [hdr, toks_blank _ hbl] at ho
        have key : zq160_j1 (.str s) (.sl (l.map Tk.cs) (.own H.length)) (.int .i64 (IntKind.i64.wrap (i + 1))) (H ++ [.perm e_ref3_Token 3 l.length]) (Out H.length K) Kb := by
          simp [zq160_j1]
          rw [wrap_in (by omega) (by omega)]
          refine hKb _ _ ⟨s.length - (i + 1), by omega, Back.here (by simp) (hperm _) ?_ ⟨_, _, rfl, i + 1, l, by omega, by omega, rfl, by simp, rfl, rfl, ho⟩⟩
          simp [zq160_fr5, AV.sc, AV.scV, AV.scA, AV.scB]
        unfold bBlank at hbl
        cases h9 : (s[i] == 9) <;> cases h10 : (s[i] == 10) <;> cases h13 : (s[i] == 13) <;> cases h32 : (s[i] == 32) <;> simp [h9, h10, h13, h32] at hbl <;> simpa [zq160_b5, hlt, e9, e10, e13, e32, h9, h10, h13, h32] using key
      | false =>
        have hbl' := hbl
        unfold bBlank at hbl'
        simp only [Bool.or_eq_false_iff] at hbl'
        obtain ⟨⟨⟨h9, h10⟩, h13⟩, h32⟩ := hbl'
        have app : ∀ (k : Int) (n : Nat), tok (kwF kwds) s[i] (s.drop (i + 1)) = .ok (k, n) → (s[i] == 35) = false → ∀ t, (s.drop i).take n = t → zq160_j4 (.str s) (.sl (l.map Tk.cs ++ [[.int .i64 k, .str t, .int .i64 i]]) (.own H.length)) (.int .i64 i) (.int .i64 n) (H ++ [.perm e_ref3_Token 3 (l.length + 1)]) (Out H.length K) Kb := by
          intro k n ht hsh t hte
          subst hte
          rw [hdr, toks_ok _ hbl hsh ht, cat_cat, ← hdr] at ho
          have hn := tok_len ht
          rw [← hdr] at hn
          simp at hn
          have hn0 := tok_pos ht
          simp [zq160_j4, zq160_j1]
          rw [wrap_in (by omega) (by omega)]
          refine hKb _ _ ⟨s.length - (i + n), by omega, Back.here (by simp) (hperm _) ?_ ⟨_, _, rfl, i + n, l ++ [⟨k, (s.drop i).take n, i⟩], by omega, by simp; omega, rfl, by simp, by simp [Tk.cs], by simp, ?_⟩⟩
          · simp [zq160_fr5, AV.sc, AV.scV, AV.scA, AV.scB]
          · rw [List.drop_drop] at ho; exact ho
        have bad : ∀ e : Int, tok (kwF kwds) s[i] (s.drop (i + 1)) = .error e → (s[i] == 35) = false → Out H.length K (.tup [.snil, .int .i64 i, .int .i64 e]) (H ++ [.perm e_ref3_Token 3 l.length]) := by
          intro e ht hsh
          rw [hdr, toks_err _ hbl hsh ht] at ho
          rw [← ho] at hK
          exact outErr hs hK
        simp [zq160_b5, hlt, e9, e10, e13, e32, e35, h9, h10, h13, h32]
        cases hsh : (s[i] == 35) with
        | true =>
          simp
          rw [hdr, toks_hash _ hbl hsh] at ho
          obtain ⟨c1, c2⟩ := skipC_cons_ne h10 (s.drop (i + 1))
          rw [Nat.add_assoc, ← c1, ← c2, ← hdr] at ho
          refine zq160_loop10 (Inv := fun q t6 H' => ∃ (j : Nat), i ≤ j ∧ j ≤ s.length ∧ q = s.length - j ∧ t6 = .int .i64 j ∧ H' = H ++ [.perm e_ref3_Token 3 l.length] ∧ cat l (toks (kwF kwds) (skipC (s.drop j)) (j + skipN (s.drop j))) = toks (kwF kwds) s 0) (s.length - i) ?_ ?_
          · intro _; exact ⟨i, by omega, by omega, by omega, rfl, rfl, ho⟩
          · rintro q t6 H' ⟨j, hij, hj, rfl, rfl, rfl, ho⟩ hsc hlen hsF Kb9 hKb9
            by_cases hjlt : j < s.length
            · have hdrj := List.drop_eq_getElem_cons hjlt
              have e10 : ((s[j].toNat : Int) != 10) = !(s[j] == 10) := by rw [← u8_eq s[j] 10]; rfl
              simp [zq160_b10, hjlt, e10]
              cases hz : (s[j] == 10) with
              | true =>
                obtain ⟨d1, d2⟩ := skipC_cons_eq hz (s.drop (j + 1))
                rw [hdrj, d1, d2, ← hdrj, Nat.add_zero] at ho
                have hij' : i ≠ j := by rintro rfl; rw [h10] at hz; cases hz
                simp [zq160_j1]
                refine hKb _ _ ⟨s.length - j, by omega, Back.here (by simp) (hperm _) ?_ ⟨_, _, rfl, j, l, by omega, by omega, rfl, by simp, rfl, rfl, ho⟩⟩
                simp [zq160_fr5, AV.sc, AV.scV, AV.scA, AV.scB]
              | false =>
                obtain ⟨d1, d2⟩ := skipC_cons_ne hz (s.drop (j + 1))
                rw [hdrj, d1, d2, ← Nat.add_assoc] at ho
                simp
                rw [wrap_in (by omega) (by omega)]
                refine hKb9 _ _ ⟨s.length - (j + 1), by omega, Back.here (by simp) (hperm _) ?_ ⟨_, rfl, j + 1, by omega, by omega, rfl, by simp, rfl, ho⟩⟩
                simp [zq160_fr10, AV.sc, AV.scV, AV.scA, AV.scB]
            · obtain rfl : j = s.length := by omega
              simp [zq160_b10, zq160_j1]
              rw [List.drop_length, skipC_nil.1, skipC_nil.2, Nat.add_zero] at ho
              refine hKb _ _ ⟨0, by omega, Back.here (by simp) (hperm _) ?_ ⟨_, _, rfl, s.length, l, by omega, by omega, by omega, by simp, rfl, rfl, by rw [List.drop_length]; exact ho⟩⟩
              simp [zq160_fr5, AV.sc, AV.scV, AV.scA, AV.scB]
        | false =>
          replace app := fun k n h => app k n h hsh
          replace bad := fun e h => bad e h hsh
          simp
          refine low43 _ _ _ ?_
          by_cases hLU : (bLow s[i] || bUp s[i]) = true
          · have hc : bLow s[i] = true ∨ (bLow s[i] = false ∧ bUp s[i] = true) := by cases hL : bLow s[i] <;> simp [hL] at hLU ⊢; exact hLU
            rcases hc with hL | ⟨hL, hU⟩
            case' inl => simp [hL]
            case' inr => simp [hL]; refine up44 _ _ _ ?_; simp [hU]
            all_goals exact word26 s hl i hlt H l hll hperm K Kb hLU app bad
          · have hL : bLow s[i] = false := by simp at hLU; exact hLU.1
            have hU : bUp s[i] = false := by simp at hLU; exact hLU.2
            simp [hL]
            refine up44 _ _ _ ?_
            simp [hU]
            refine dig45 _ _ _ ?_
            cases hD : bDig s[i] with
            | true =>
              simp
              exact num26 s hl i hlt H l hll hperm K Kb hLU hD app bad
            | false =>
              simp
              refine ⟨by omega, ?_⟩
              have htk : tok (kwF kwds) s[i] (s.drop (i + 1)) = if sgn (s.drop i) = 0 then .error 2 else .ok (5, sgn (s.drop i)) := by
                simp only [tok, hLU, hD, hdr]
                rfl
              rw [hdr]
              refine sign47 _ _ _ _ ?_
              rw [← hdr]
              by_cases hz : sgn (s.drop i) = 0
              · simp [hz, AV.isV]
                exact bad 2 (by rw [htk, if_pos hz])
              · have hz' : ((sgn (s.drop i) : Int) == 0) = false := by simpa using hz
                have ht := htk
                rw [if_neg hz] at ht
                have hn := tok_len ht
                rw [← hdr] at hn
                simp at hn
                have := app 5 (sgn (s.drop i)) ht _ rfl
                simp [hz']
                rw [wrap_in (by omega) (by omega)]
                simp [aBuild, fillA, aBuildS, fillS, plain, AV.pd, aAppend, aSrc, aAppTo, zq160_j3]
                refine ⟨by omega, by omega, by omega, ?_⟩
                rw [show ((i : Int) + (sgn (s.drop i) : Int)).toNat = i + sgn (s.drop i) by omega, tk_drop]
                exact this
    · obtain rfl : i = s.length := by omega
      rw [List.drop_length, toks_nil] at ho
      rw [← ho] at hK
      simp [zq160_b5, aBuild, fillA, aBuildS, fillS, plain, AV.pd, aAppend, aSrc, aAppTo, AV.isV]
      refine ⟨by omega, ?_⟩
      simp [cat, Tk.cs] at hK
      exact Out.tup hs hK ⟨slV, keepV rfl rfl, keepV rfl rfl, trivial⟩
end Go.Proofs.YtfpmdpldabopjaaGreatDoor
