/- Split: the reference's walk. -/
import Derived.Test.YtmbegappkkbfpaaTW5
namespace Go.Proofs.Ytmbegappkkbfpaa
open Go Go.Abs
set_option linter.unusedSimpArgs false
set_option maxRecDepth 4000
set_option linter.unusedVariables false
theorem tk_drop (s : List UInt8) (i n : Nat) : List.drop i (List.take (i + n) s) = List.take n (List.drop i s) := by
  rw [List.drop_take]; congr 1; omega
def f26_e18 (t0 t5 t6 t7 t8 : AV) (H : Heap) (K : AV → Heap → Prop) (Kb5 : List AV → Heap → Prop) : Prop :=
  aBin .gtr false t8 (.int .i64 24) fun t118 =>
  aTest t118
  (aRet [.snil, t6, (.int .i64 9)] (K · H))
  (ACalls Try.prog 44 [t7] H fun t121 H =>
  aTest t121
  (f26_j2 t0 t5 t6 t8 (.int .i64 2) H K Kb5)
  (aBin .add false t6 t8 fun t126 =>
  aSlice 0 0 t0 (some t6) (some t126) fun t127 =>
  ACalls Try.prog 12 [t127] H fun t128 H =>
  aTest t128
  (f26_j2 t0 t5 t6 t8 (.int .i64 4) H K Kb5)
  (f26_j2 t0 t5 t6 t8 (.int .i64 1) H K Kb5)))
section
variable (s : List UInt8) (hl : ¬ s.length > 16384) (i : Nat) (hlt : i < s.length) (H : Heap) (l : List Tk) (hll : l.length ≤ i) (hperm : ∀ n, HSc (H ++ [.perm 47 3 n])) (K : AV → Heap → Prop) (Kb : List AV → Heap → Prop)
include hl hlt hll hperm
theorem word26 (hLU : (bLow s[i] || bUp s[i]) = true)
    (app : ∀ (k : Int) (n : Nat), tok (kwF kwds) s[i] (s.drop (i + 1)) = .ok (k, n) → ∀ t, (s.drop i).take n = t → f26_j4 (.str s) (.sl (l.map Tk.cs ++ [[.int .i64 k, .str t, .int .i64 i]]) (.own H.length)) (.int .i64 i) (.int .i64 n) (H ++ [.perm 47 3 (l.length + 1)]) (Out H.length K) Kb)
    (bad : ∀ e : Int, tok (kwF kwds) s[i] (s.drop (i + 1)) = .error e → Out H.length K (.tup [.snil, .int .i64 i, .int .i64 e]) (H ++ [.perm 47 3 l.length])) :
    f26_l18 (.str s) (.sl (l.map Tk.cs) (.own H.length)) (.int .i64 i) (.int .u8 s[i].toNat) (.int .i64 1) (H ++ [.perm 47 3 l.length]) (Out H.length K) Kb := by
  refine f26_loop18 (Inv := fun q t8 H' => ∃ (j : Nat), i + j ≤ s.length ∧ 0 < j ∧ q = s.length - j ∧ t8 = .int .i64 j ∧ H' = H ++ [.perm 47 3 l.length] ∧ j + ((s.drop (i + j)).takeWhile bIn).length = ((s.drop (i + 1)).takeWhile bIn).length + 1) (s.length - 1) ?_ ?_
  · intro _; exact ⟨1, by omega, by omega, by omega, rfl, rfl, by omega⟩
  · rintro q t8 H' ⟨j, hij, hj0, rfl, rfl, rfl, hn⟩ hsc hlen hsF Kb18 hKb18
    have w1 : IntKind.i64.wrap ((i : Int) + j) = i + j := wrap_in (by omega) (by omega)
    have w2 : IntKind.i64.wrap ((j : Int) + 1) = j + 1 := wrap_in (by omega) (by omega)
    have fin : ((s.drop (i + j)).takeWhile bIn).length = 0 → f26_e18 (.str s) (.sl (l.map Tk.cs) (.own H.length)) (.int .i64 i) (.int .u8 s[i].toNat) (.int .i64 j) (H ++ [.perm 47 3 l.length]) (Out H.length K) Kb := by
      intro h0
      rw [h0] at hn
      have htk : tok (kwF kwds) s[i] (s.drop (i + 1)) = if j > 24 then .error 9 else .ok (if bUp s[i] = true then 2 else if kwF kwds ((s.drop i).take j) = true then 4 else 1, j) := by
        rw [List.drop_eq_getElem_cons hlt]
        simp only [tok, hLU, if_true, ← hn, Nat.add_zero]
      by_cases h24 : j > 24
      · have h24' : (24 : Int) < j := by omega
        rw [if_pos h24] at htk
        simp [f26_e18, h24', AV.isV]
        exact bad 9 htk
      · have h24' : ¬ (24 : Int) < j := by omega
        rw [if_neg h24] at htk
        simp [f26_e18, h24']
        refine up44 _ _ _ ?_
        have fin2 : ∀ k, k = (if bUp s[i] = true then 2 else if kwF kwds ((s.drop i).take j) = true then 4 else 1 : Int) → f26_j2 (.str s) (.sl (l.map Tk.cs) (.own H.length)) (.int .i64 i) (.int .i64 j) (.int .i64 k) (H ++ [.perm 47 3 l.length]) (Out H.length K) Kb := by
          intro k hk
          rw [← hk] at htk
          have := app k j htk _ rfl
          simp [f26_j2, w1, w2, aBuild, fillA, aBuildS, fillS, plain, AV.pd, aAppend, aSrc, aAppTo, f26_j3]
          refine ⟨by omega, by omega, by omega, ?_⟩
          rw [show ((i : Int) + j).toNat = i + j by omega, tk_drop]
          exact this
        cases hU : bUp s[i] with
        | true => simp; exact fin2 2 (by simp [hU])
        | false =>
          simp [w1, w2]
          refine ⟨by omega, by omega, ?_⟩
          rw [show ((i : Int) + j).toNat = i + j by omega, tk_drop]
          refine kw12 _ _ _ ?_
          cases hkw : kwF kwds ((s.drop i).take j) with
          | true => simp; exact fin2 4 (by simp [hU, hkw])
          | false => simp; exact fin2 1 (by simp [hU, hkw])
    by_cases hjlt : i + j < s.length
    · have e95 : ((s[i + j].toNat : Int) == 95) = (s[i + j] == 95) := u8_eq s[i + j] 95
      have hjlt' : (i + j : Int) < s.length := by omega
      rw [List.drop_eq_getElem_cons hjlt, List.takeWhile_cons] at hn fin
      have key : bIn s[i + j] = true → Kb18 (f26_fr18 (.str s) (.sl (l.map Tk.cs) (.own H.length)) (.int .i64 i) (.int .u8 s[i].toNat) (.int .i64 (j + 1))) (H ++ [.perm 47 3 l.length]) := by
        intro hbin
        rw [hbin] at hn
        simp at hn
        refine hKb18 _ _ ⟨s.length - (j + 1), by omega, Back.here (by simp) (hperm _) ?_ ⟨_, rfl, j + 1, by omega, by omega, rfl, by simp, rfl, by rw [← Nat.add_assoc]; omega⟩⟩
        simp [f26_fr18, AV.sc, AV.scV, AV.scA, AV.scB]
      have no : bIn s[i + j] = false → f26_e18 (.str s) (.sl (l.map Tk.cs) (.own H.length)) (.int .i64 i) (.int .u8 s[i].toNat) (.int .i64 j) (H ++ [.perm 47 3 l.length]) (Out H.length K) Kb := by
        intro hbin
        rw [hbin] at fin
        exact fin (by simp)
      have hget : s[((i : Int) + j).toNat]?.getD 0 = s[i + j] := by
        rw [show ((i : Int) + j).toNat = i + j by omega]
        simp [hjlt]
      unfold bIn at key no
      simp [f26_b18, w1, w2, hjlt', hget]
      refine ⟨by omega, ?_⟩
      refine low43 _ _ _ ?_
      cases hL : bLow s[i + j] with
      | true => simpa using key (by simp [hL])
      | false =>
        simp [w1, w2, hjlt', hget]
        refine ⟨by omega, up44 _ _ _ ?_⟩
        cases hU : bUp s[i + j] with
        | true => simpa using key (by simp [hU])
        | false =>
          simp [w1, w2, hjlt', hget]
          refine ⟨by omega, dig45 _ _ _ ?_⟩
          cases hD : bDig s[i + j] with
          | true => simpa using key (by simp [hD])
          | false =>
            simp [w1, w2, hjlt', hget, e95]
            refine ⟨by omega, ?_⟩
            cases h95 : (s[i + j] == 95) with
            | true => simpa using key (by simp [h95])
            | false => simpa [f26_e18, w1] using no (by simp [hL, hU, hD, h95])
    · have hjlt' : ¬ (i + j : Int) < s.length := by omega
      have : s.drop (i + j) = [] := List.drop_eq_nil_of_le (by omega)
      rw [this] at fin
      have := fin rfl
      simp [f26_b18, w1, w2, hjlt']
      simpa [f26_e18, w1] using this
end
def f26_d29 (t0 t5 t6 t8 : AV) (H : Heap) (K : AV → Heap → Prop) (Kb5 : List AV → Heap → Prop) : Prop :=
  aBin .add false t6 t8 fun t172 =>
  aSlice 0 0 t0 (some t6) (some t172) fun t173 =>
  ACalls Try.prog 46 [t173] H fun t174 H =>
  aExt t174 0 fun t175 =>
  aExt t174 1 fun t176 =>
  aUn .not t176 fun t178 =>
  aTest t178
  (aRet [.snil, t6, (.int .i64 9)] (K · H))
  (aBin .add false t6 t8 fun t185 =>
  aSlice 0 0 t0 (some t6) (some t185) fun t186 =>
  aBuild [(.int .i64 0), (.str []), (.int .i64 0)] [(0, 1), (1, 1), (2, 1)] [(0, (.int .i64 3)), (1, t186), (2, t6)] fun t188 =>
  aBuildS 3 [(.int .i64 0), (.str []), (.int .i64 0)] 1 [(0, t188)] fun t189 =>
  aAppend 47 3 32 t5 t189 H fun t190 H =>
  f26_j3 t0 t190 t6 t8 H K Kb5)
def f26_e29 (t0 t5 t6 t7 t8 : AV) (H : Heap) (K : AV → Heap → Prop) (Kb5 : List AV → Heap → Prop) : Prop :=
  aBin .gtr false t8 (.int .i64 1) fun t161 =>
  aGuardJ t161 true H (fun K' => K' t7 H) fun t163 H =>
  aGuardJ t161 true H (fun K' => aBin .eql false t163 (.int .u8 48) (K' · H)) fun t164 H =>
  aPick t161 t164 (.bool false) fun t165 =>
  aTest t165
  (aRet [.snil, t6, (.int .i64 2)] (K · H))
  (aBin .add false t6 t8 fun t172 =>
  aSlice 0 0 t0 (some t6) (some t172) fun t173 =>
  ACalls Try.prog 46 [t173] H fun t174 H =>
  aExt t174 0 fun t175 =>
  aExt t174 1 fun t176 =>
  aUn .not t176 fun t178 =>
  aTest t178
  (aRet [.snil, t6, (.int .i64 9)] (K · H))
  (aBin .add false t6 t8 fun t185 =>
  aSlice 0 0 t0 (some t6) (some t185) fun t186 =>
  aBuild [(.int .i64 0), (.str []), (.int .i64 0)] [(0, 1), (1, 1), (2, 1)] [(0, (.int .i64 3)), (1, t186), (2, t6)] fun t188 =>
  aBuildS 3 [(.int .i64 0), (.str []), (.int .i64 0)] 1 [(0, t188)] fun t189 =>
  aAppend 47 3 32 t5 t189 H fun t190 H =>
  f26_j3 t0 t190 t6 t8 H K Kb5))
section
variable (s : List UInt8) (hl : ¬ s.length > 16384) (i : Nat) (hlt : i < s.length) (H : Heap) (l : List Tk) (hll : l.length ≤ i) (hperm : ∀ n, HSc (H ++ [.perm 47 3 n])) (K : AV → Heap → Prop) (Kb : List AV → Heap → Prop)
include hl hlt hll hperm
theorem num26 (hLU : ¬ (bLow s[i] || bUp s[i]) = true) (hD : bDig s[i] = true)
    (app : ∀ (k : Int) (n : Nat), tok (kwF kwds) s[i] (s.drop (i + 1)) = .ok (k, n) → ∀ t, (s.drop i).take n = t → f26_j4 (.str s) (.sl (l.map Tk.cs ++ [[.int .i64 k, .str t, .int .i64 i]]) (.own H.length)) (.int .i64 i) (.int .i64 n) (H ++ [.perm 47 3 (l.length + 1)]) (Out H.length K) Kb)
    (bad : ∀ e : Int, tok (kwF kwds) s[i] (s.drop (i + 1)) = .error e → Out H.length K (.tup [.snil, .int .i64 i, .int .i64 e]) (H ++ [.perm 47 3 l.length])) :
    f26_l29 (.str s) (.sl (l.map Tk.cs) (.own H.length)) (.int .i64 i) (.int .u8 s[i].toNat) (.int .i64 1) (H ++ [.perm 47 3 l.length]) (Out H.length K) Kb := by
  refine f26_loop29 (Inv := fun q t8 H' => ∃ (j : Nat), i + j ≤ s.length ∧ 0 < j ∧ q = s.length - j ∧ t8 = .int .i64 j ∧ H' = H ++ [.perm 47 3 l.length] ∧ j + ((s.drop (i + j)).takeWhile bDig).length = ((s.drop (i + 1)).takeWhile bDig).length + 1) (s.length - 1) ?_ ?_
  · intro _; exact ⟨1, by omega, by omega, by omega, rfl, rfl, by omega⟩
  · rintro q t8 H' ⟨j, hij, hj0, rfl, rfl, rfl, hn⟩ hsc hlen hsF Kb18 hKb18
    have w1 : IntKind.i64.wrap ((i : Int) + j) = i + j := wrap_in (by omega) (by omega)
    have w2 : IntKind.i64.wrap ((j : Int) + 1) = j + 1 := wrap_in (by omega) (by omega)
    have e48 : ((s[i].toNat : Int) == 48) = (s[i] == 48) := u8_eq s[i] 48
    have fin : ((s.drop (i + j)).takeWhile bDig).length = 0 → f26_e29 (.str s) (.sl (l.map Tk.cs) (.own H.length)) (.int .i64 i) (.int .u8 s[i].toNat) (.int .i64 j) (H ++ [.perm 47 3 l.length]) (Out H.length K) Kb := by
      intro h0
      rw [h0] at hn
      have hdj : (s.drop i).take j = s[i] :: (s.drop (i + 1)).takeWhile bDig := by
        rw [List.drop_eq_getElem_cons hlt, show j = ((s.drop (i + 1)).takeWhile bDig).length + 1 by omega, take_takeWhile]
      have htk : tok (kwF kwds) s[i] (s.drop (i + 1)) = if (s[i] == 48 && decide (j > 1)) = true then .error 2 else if smallF ((s.drop i).take j) 0 = true then .ok (3, j) else .error 9 := by
        rw [List.drop_eq_getElem_cons hlt]
        simp only [tok, hLU, hD, if_true, ← hn, Nat.add_zero]
        rfl
      have hval : ∀ (K : AV → Heap → Prop) (H : Heap), (∀ n, K (.tup [.int .i64 n, .bool (smallF ((s.drop i).take j) 0)]) H) → ACalls Try.prog 46 [.str ((s.drop i).take j)] H K := by
        intro K H hK
        refine value46 _ ?_ (by simp; omega) _ _ hK
        intro c hc
        rw [hdj] at hc
        rcases List.mem_cons.1 hc with rfl | hc
        · exact hD
        · exact List.all_eq_true.1 (List.all_takeWhile) c hc
      have rest : ¬ (s[i] == 48 && decide (j > 1)) = true → f26_d29 (.str s) (.sl (l.map Tk.cs) (.own H.length)) (.int .i64 i) (.int .i64 j) (H ++ [.perm 47 3 l.length]) (Out H.length K) Kb := by
        intro hne
        rw [if_neg hne] at htk
        simp [f26_d29, w1]
        refine ⟨by omega, by omega, ?_⟩
        rw [show ((i : Int) + j).toNat = i + j by omega, tk_drop]
        refine hval _ _ fun n => ?_
        cases hv : smallF ((s.drop i).take j) 0 with
        | false =>
          rw [hv] at htk
          simp [AV.isV]
          exact bad 9 htk
        | true =>
          rw [hv] at htk
          have := app 3 j htk _ rfl
          simp [aBuild, fillA, aBuildS, fillS, plain, AV.pd, aAppend, aSrc, aAppTo, f26_j3]
          refine ⟨by omega, by omega, by omega, ?_⟩
          exact this
      by_cases h1 : j > 1
      · have h1' : (1 : Int) < j := by omega
        have hd : decide (j > 1) = true := decide_eq_true h1
        rw [hd] at rest htk
        cases hz : (s[i] == 48) with
        | true =>
          rw [hz] at htk
          simp [f26_e29, h1', e48, hz, AV.isV]
          exact bad 2 htk
        | false =>
          have := rest (by rw [hz]; decide)
          simp [f26_e29, h1', e48, hz]
          simpa [f26_d29] using this
      · have h1' : ¬ (1 : Int) < j := by omega
        have := rest (by rw [decide_eq_false h1]; simp)
        simp [f26_e29, h1']
        simpa [f26_d29] using this
    by_cases hjlt : i + j < s.length
    · have hjlt' : (i + j : Int) < s.length := by omega
      rw [List.drop_eq_getElem_cons hjlt, List.takeWhile_cons] at hn fin
      have hget : s[((i : Int) + j).toNat]?.getD 0 = s[i + j] := by
        rw [show ((i : Int) + j).toNat = i + j by omega]
        simp [hjlt]
      simp [f26_b29, w1, w2, hjlt', hget]
      refine ⟨by omega, ?_⟩
      refine dig45 _ _ _ ?_
      cases hb : bDig s[i + j] with
      | true =>
        rw [hb] at hn
        simp at hn
        simp [w1, w2]
        refine hKb18 _ _ ⟨s.length - (j + 1), by omega, Back.here (by simp) (hperm _) ?_ ⟨_, rfl, j + 1, by omega, by omega, rfl, by simp, rfl, by rw [← Nat.add_assoc]; omega⟩⟩
        simp [f26_fr29, AV.sc, AV.scV, AV.scA, AV.scB]
      | false =>
        rw [hb] at fin
        have := fin (by simp)
        simp [w1, w2]
        simpa [f26_e29, w1] using this
    · have hjlt' : ¬ (i + j : Int) < s.length := by omega
      have : s.drop (i + j) = [] := List.drop_eq_nil_of_le (by omega)
      rw [this] at fin
      have := fin rfl
      simp [f26_b29, w1, w2, hjlt']
      simpa [f26_e29, w1] using this
end
theorem split26 (s : List UInt8) (H : Heap) (K : AV → Heap → Prop) (hK : K (splitR s) H) : ACalls Try.prog 26 [.str s] H K := by
  refine ACalls.out (f26_ok fun hs => ?_)
  by_cases hl : s.length > 16384
  · have hl' : (16384 : Int) < s.length := by omega
    simp [f26, hl', AV.isV]
    unfold splitR at hK
    rw [if_pos hl] at hK
    exact Out.tup0 hs hK ⟨snilV, keepV rfl rfl, keepV rfl rfl, trivial⟩
  have hl' : ¬ (16384 : Int) < s.length := by omega
  unfold splitR at hK
  rw [if_neg hl] at hK
  simp [f26, hl']
  have hperm : ∀ n, HSc (H ++ [.perm 47 3 n]) := fun n => hs.append rfl
  unfold f26_l5
  refine ALoop.own 5 47 3 rfl ?_
  show f26_l5 (.str s) (.sl [] (.own H.length)) (.int .i64 0) (H ++ [.perm 47 3 0]) (Out H.length K)
  refine f26_loop5 (Inv := fun q t5 t6 H' => ∃ (i : Nat) (l : List Tk), i ≤ s.length ∧ l.length ≤ i ∧ q = s.length - i ∧ t6 = .int .i64 i ∧ t5 = .sl (l.map Tk.cs) (.own H.length) ∧ H' = H ++ [.perm 47 3 l.length] ∧ cat l (toks (kwF kwds) (s.drop i) i) = toks (kwF kwds) s 0) s.length ?_ ?_
  · intro _; exact ⟨0, [], by omega, by simp, by omega, rfl, rfl, rfl, by simp⟩
  · rintro q t5 t6 H' ⟨i, l, hi, hll, rfl, rfl, rfl, rfl, ho⟩ hsc hlen hsF Kb hKb
    by_cases hlt : i < s.length
    · have hdr := List.drop_eq_getElem_cons hlt
      have e9 : ((s[i].toNat : Int) == 9) = (s[i] == 9) := u8_eq s[i] 9
      have e10 : ((s[i].toNat : Int) == 10) = (s[i] == 10) := u8_eq s[i] 10
      have e13 : ((s[i].toNat : Int) == 13) = (s[i] == 13) := u8_eq s[i] 13
      have e32 : ((s[i].toNat : Int) == 32) = (s[i] == 32) := u8_eq s[i] 32
      have e35 : ((s[i].toNat : Int) == 35) = (s[i] == 35) := u8_eq s[i] 35
      cases hbl : bBlank s[i] with
      | true =>
        rw [hdr, toks_blank _ hbl] at ho
        have key : f26_j1 (.str s) (.sl (l.map Tk.cs) (.own H.length)) (.int .i64 (IntKind.i64.wrap (i + 1))) (H ++ [.perm 47 3 l.length]) (Out H.length K) Kb := by
          simp [f26_j1]
          rw [wrap_in (by omega) (by omega)]
          refine hKb _ _ ⟨s.length - (i + 1), by omega, Back.here (by simp) (hperm _) ?_ ⟨_, _, rfl, i + 1, l, by omega, by omega, rfl, by simp, rfl, rfl, ho⟩⟩
          simp [f26_fr5, AV.sc, AV.scV, AV.scA, AV.scB]
        unfold bBlank at hbl
        cases h9 : (s[i] == 9) <;> cases h10 : (s[i] == 10) <;> cases h13 : (s[i] == 13) <;> cases h32 : (s[i] == 32) <;> simp [h9, h10, h13, h32] at hbl <;> simpa [f26_b5, hlt, e9, e10, e13, e32, h9, h10, h13, h32] using key
      | false =>
        have hbl' := hbl
        unfold bBlank at hbl'
        simp only [Bool.or_eq_false_iff] at hbl'
        obtain ⟨⟨⟨h9, h10⟩, h13⟩, h32⟩ := hbl'
        have app : ∀ (k : Int) (n : Nat), tok (kwF kwds) s[i] (s.drop (i + 1)) = .ok (k, n) → (s[i] == 35) = false → ∀ t, (s.drop i).take n = t → f26_j4 (.str s) (.sl (l.map Tk.cs ++ [[.int .i64 k, .str t, .int .i64 i]]) (.own H.length)) (.int .i64 i) (.int .i64 n) (H ++ [.perm 47 3 (l.length + 1)]) (Out H.length K) Kb := by
          intro k n ht hsh t hte
          subst hte
          rw [hdr, toks_ok _ hbl hsh ht, cat_cat, ← hdr] at ho
          have hn := tok_len ht
          rw [← hdr] at hn
          simp at hn
          have hn0 := tok_pos ht
          simp [f26_j4, f26_j1]
          rw [wrap_in (by omega) (by omega)]
          refine hKb _ _ ⟨s.length - (i + n), by omega, Back.here (by simp) (hperm _) ?_ ⟨_, _, rfl, i + n, l ++ [⟨k, (s.drop i).take n, i⟩], by omega, by simp; omega, rfl, by simp, by simp [Tk.cs], by simp, ?_⟩⟩
          · simp [f26_fr5, AV.sc, AV.scV, AV.scA, AV.scB]
          · rw [List.drop_drop] at ho; exact ho
        have bad : ∀ e : Int, tok (kwF kwds) s[i] (s.drop (i + 1)) = .error e → (s[i] == 35) = false → Out H.length K (.tup [.snil, .int .i64 i, .int .i64 e]) (H ++ [.perm 47 3 l.length]) := by
          intro e ht hsh
          rw [hdr, toks_err _ hbl hsh ht] at ho
          rw [← ho] at hK
          exact outErr hs hK
        simp [f26_b5, hlt, e9, e10, e13, e32, e35, h9, h10, h13, h32]
        cases hsh : (s[i] == 35) with
        | true =>
          simp
          rw [hdr, toks_hash _ hbl hsh] at ho
          obtain ⟨c1, c2⟩ := skipC_cons_ne h10 (s.drop (i + 1))
          rw [Nat.add_assoc, ← c1, ← c2, ← hdr] at ho
          refine f26_loop10 (Inv := fun q t6 H' => ∃ (j : Nat), i ≤ j ∧ j ≤ s.length ∧ q = s.length - j ∧ t6 = .int .i64 j ∧ H' = H ++ [.perm 47 3 l.length] ∧ cat l (toks (kwF kwds) (skipC (s.drop j)) (j + skipN (s.drop j))) = toks (kwF kwds) s 0) (s.length - i) ?_ ?_
          · intro _; exact ⟨i, by omega, by omega, by omega, rfl, rfl, ho⟩
          · rintro q t6 H' ⟨j, hij, hj, rfl, rfl, rfl, ho⟩ hsc hlen hsF Kb9 hKb9
            by_cases hjlt : j < s.length
            · have hdrj := List.drop_eq_getElem_cons hjlt
              have e10 : ((s[j].toNat : Int) != 10) = !(s[j] == 10) := by rw [← u8_eq s[j] 10]; rfl
              simp [f26_b10, hjlt, e10]
              cases hz : (s[j] == 10) with
              | true =>
                obtain ⟨d1, d2⟩ := skipC_cons_eq hz (s.drop (j + 1))
                rw [hdrj, d1, d2, ← hdrj, Nat.add_zero] at ho
                have hij' : i ≠ j := by rintro rfl; rw [h10] at hz; cases hz
                simp [f26_j1]
                refine hKb _ _ ⟨s.length - j, by omega, Back.here (by simp) (hperm _) ?_ ⟨_, _, rfl, j, l, by omega, by omega, rfl, by simp, rfl, rfl, ho⟩⟩
                simp [f26_fr5, AV.sc, AV.scV, AV.scA, AV.scB]
              | false =>
                obtain ⟨d1, d2⟩ := skipC_cons_ne hz (s.drop (j + 1))
                rw [hdrj, d1, d2, ← Nat.add_assoc] at ho
                simp
                rw [wrap_in (by omega) (by omega)]
                refine hKb9 _ _ ⟨s.length - (j + 1), by omega, Back.here (by simp) (hperm _) ?_ ⟨_, rfl, j + 1, by omega, by omega, rfl, by simp, rfl, ho⟩⟩
                simp [f26_fr10, AV.sc, AV.scV, AV.scA, AV.scB]
            · obtain rfl : j = s.length := by omega
              simp [f26_b10, f26_j1]
              rw [List.drop_length, skipC_nil.1, skipC_nil.2, Nat.add_zero] at ho
              refine hKb _ _ ⟨0, by omega, Back.here (by simp) (hperm _) ?_ ⟨_, _, rfl, s.length, l, by omega, by omega, by omega, by simp, rfl, rfl, by rw [List.drop_length]; exact ho⟩⟩
              simp [f26_fr5, AV.sc, AV.scV, AV.scA, AV.scB]
        | false =>
          replace app := fun k n h => app k n h hsh
          replace bad := fun e h => bad e h hsh
          simp
          refine low43 _ _ _ ?_
          by_cases hLU : (bLow s[i] || bUp s[i]) = true
          · have hc : bLow s[i] = true ∨ (bLow s[i] = false ∧ bUp s[i] = true) := by cases hL : bLow s[i] <;> simp [hL] at hLU ⊢; exact hLU
            rcases hc with hL | ⟨hL, hU⟩
            case' inl => simp [hL]
            case' inr => simp [hL]; refine up44 _ _ _ ?_; simp [hU]
            all_goals exact word26 s hl i hlt H l hll hperm K Kb hLU app bad
          · have hL : bLow s[i] = false := by simp at hLU; exact hLU.1
            have hU : bUp s[i] = false := by simp at hLU; exact hLU.2
            simp [hL]
            refine up44 _ _ _ ?_
            simp [hU]
            refine dig45 _ _ _ ?_
            cases hD : bDig s[i] with
            | true =>
              simp
              exact num26 s hl i hlt H l hll hperm K Kb hLU hD app bad
            | false =>
              simp
              refine ⟨by omega, ?_⟩
              have htk : tok (kwF kwds) s[i] (s.drop (i + 1)) = if sgn (s.drop i) = 0 then .error 2 else .ok (5, sgn (s.drop i)) := by
                simp only [tok, hLU, hD, hdr]
                rfl
              rw [hdr]
              refine sign47 _ _ _ _ ?_
              rw [← hdr]
              by_cases hz : sgn (s.drop i) = 0
              · simp [hz, AV.isV]
                exact bad 2 (by rw [htk, if_pos hz])
              · have hz' : ((sgn (s.drop i) : Int) == 0) = false := by simpa using hz
                have ht := htk
                rw [if_neg hz] at ht
                have hn := tok_len ht
                rw [← hdr] at hn
                simp at hn
                have := app 5 (sgn (s.drop i)) ht _ rfl
                simp [hz']
                rw [wrap_in (by omega) (by omega)]
                simp [aBuild, fillA, aBuildS, fillS, plain, AV.pd, aAppend, aSrc, aAppTo, f26_j3]
                refine ⟨by omega, by omega, by omega, ?_⟩
                rw [show ((i : Int) + (sgn (s.drop i) : Int)).toNat = i + sgn (s.drop i) by omega, tk_drop]
                exact this
    · obtain rfl : i = s.length := by omega
      rw [List.drop_length, toks_nil] at ho
      rw [← ho] at hK
      simp [f26_b5, aBuild, fillA, aBuildS, fillS, plain, AV.pd, aAppend, aSrc, aAppTo, AV.isV]
      refine ⟨by omega, ?_⟩
      simp [cat, Tk.cs] at hK
      exact Out.tup hs hK ⟨slV, keepV rfl rfl, keepV rfl rfl, trivial⟩
end Go.Proofs.Ytmbegappkkbfpaa
