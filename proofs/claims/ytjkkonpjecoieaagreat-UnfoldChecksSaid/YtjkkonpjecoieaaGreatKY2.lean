import Derived.Test.YtjkkonpjecoieaaGreatKTW5
import Derived.Test.YtjkkonpjecoieaaGreatKNum
import Derived.Test.YtjkkonpjecoieaaGreatProg
import Derived.KernelRfl
import Derived.Test.YtjkkonpjecoieaaGreatKGT1
import Derived.Test.YtjkkonpjecoieaaGreatKY8
set_option linter.unusedSimpArgs false
set_option linter.unusedVariables false
namespace Go.Proofs.YtjkkonpjecoieaaGreat
open Go Go.Abs
set_option maxRecDepth 4000
set_option maxRecDepth 4000
theorem ziZ (s : List UInt8) (i n : Nat) : List.drop i (List.take (i + n) s) = List.take n (List.drop i s) := by
 rw [List.drop_take]; congr 1; omega
def zfK (t0 t5 t6 t7 t8 : AV) (H : zaa) (K : AV → zaa → Prop) (Kb5 : List AV → zaa → Prop) : Prop :=
 zac .gtr false t8 (.int .i64 24) fun t118 =>
 zag t118
 (zaD [.snil, t6, (.int .i64 9)] (K · H))
 (ACalls tP zfq [t7] H fun t121 H =>
 zag t121
 (zel t0 t5 t6 t8 (.int .i64 2) H K Kb5)
 (zac .add false t6 t8 fun t126 =>
 zaL 0 0 t0 (some t6) (some t126) fun t127 =>
 ACalls tP zh6 [t127] H fun t128 H =>
 zag t128
 (zel t0 t5 t6 t8 (.int .i64 4) H K Kb5)
 (zel t0 t5 t6 t8 (.int .i64 1) H K Kb5)))
section
variable (s : List UInt8) (hl : ¬ s.length > 16384) (i : Nat) (hlt : i < s.length) (H : zaa) (l : List Tk) (hll : l.length ≤ i) (hperm : ∀ n, HSc (H ++ [.perm zbk 3 n])) (K : AV → zaa → Prop) (Kb : List AV → zaa → Prop)
include hl hlt hll hperm
theorem zDG (hLU : (zbJ s[i] || bUp s[i]) = true)
  (app : ∀ (k : Int) (n : Nat), tok (kwF kwds) s[i] (s.drop (i + 1)) = .ok (k, n) → ∀ t, (s.drop i).take n = t → zhf (.str s) (.sl (l.map Tk.cs ++ [[.int .i64 k, .str t, .int .i64 i]]) (.own H.length)) (.int .i64 i) (.int .i64 n) (H ++ [.perm zbk 3 (l.length + 1)]) (Out H.length K) Kb)
  (bad : ∀ e : Int, tok (kwF kwds) s[i] (s.drop (i + 1)) = .error e → Out H.length K (.tup [.snil, .int .i64 i, .int .i64 e]) (H ++ [.perm zbk 3 l.length])) :
  zoY (.str s) (.sl (l.map Tk.cs) (.own H.length)) (.int .i64 i) (.int .u8 s[i].toNat) (.int .i64 1) (H ++ [.perm zbk 3 l.length]) (Out H.length K) Kb := by
 refine zFe (Inv := fun q t8 H' => ∃ (j : Nat), i + j ≤ s.length ∧ 0 < j ∧ q = s.length - j ∧ t8 = .int .i64 j ∧ H' = H ++ [.perm zbk 3 l.length] ∧ j + ((s.drop (i + j)).takeWhile bIn).length = ((s.drop (i + 1)).takeWhile bIn).length + 1) (s.length - 1) ?_ ?_
 ·intro _; exact ⟨1, by omega, by omega, by omega, rfl, rfl, by omega⟩
 ·rintro q t8 H' ⟨j, hij, hj0, rfl, rfl, rfl, hn⟩ hsc hlen hsF Kb18 hKb18
  have w1 : IntKind.i64.wrap ((i : Int) + j) = i + j := zar (by omega) (by omega)
  have w2 : IntKind.i64.wrap ((j : Int) + 1) = j + 1 := zar (by omega) (by omega)
  have fin : ((s.drop (i + j)).takeWhile bIn).length = 0 → zfK (.str s) (.sl (l.map Tk.cs) (.own H.length)) (.int .i64 i) (.int .u8 s[i].toNat) (.int .i64 j) (H ++ [.perm zbk 3 l.length]) (Out H.length K) Kb := by
   intro h0
   rw [h0] at hn
   have htk : tok (kwF kwds) s[i] (s.drop (i + 1)) = if j > 24 then .error 9 else .ok (if bUp s[i] = true then 2 else if kwF kwds ((s.drop i).take j) = true then 4 else 1, j) := by
    rw [List.drop_eq_getElem_cons hlt]
    simp only [tok, hLU, if_true, ← hn, Nat.add_zero]
   by_cases h24 : j > 24
   ·have h24' : (24 : Int) < j := by omega
    rw [if_pos h24] at htk
    simp [zfK, h24', AV.isV]
    exact bad 9 htk
   ·have h24' : ¬ (24 : Int) < j := by omega
    rw [if_neg h24] at htk
    simp [zfK, h24']
    refine zi2 _ _ _ ?_
    have fin2 : ∀ k, k = (if bUp s[i] = true then 2 else if kwF kwds ((s.drop i).take j) = true then 4 else 1 : Int) → zel (.str s) (.sl (l.map Tk.cs) (.own H.length)) (.int .i64 i) (.int .i64 j) (.int .i64 k) (H ++ [.perm zbk 3 l.length]) (Out H.length K) Kb := by
     intro k hk
     rw [← hk] at htk
     have := app k j htk _ rfl
     simp [zel, w1, w2, zax, zaP, zaz, za9, zaB, AV.pd, zaw, zaX, zaO, zem]
     refine ⟨by omega, by omega, by omega, ?_⟩
     rw [show ((i : Int) + j).toNat = i + j by omega, ziZ]
     exact this
    cases hU : bUp s[i] with
    | true => simp; exact fin2 2 (by simp [hU])
    | false =>
     simp [w1, w2]
     refine ⟨by omega, by omega, ?_⟩
     rw [show ((i : Int) + j).toNat = i + j by omega, ziZ]
     refine zBd _ _ _ ?_
     cases hkw : kwF kwds ((s.drop i).take j) with
     | true => simp; exact fin2 4 (by simp [hU, hkw])
     | false => simp; exact fin2 1 (by simp [hU, hkw])
  by_cases hjlt : i + j < s.length
  ·have e95 : ((s[i + j].toNat : Int) == 95) = (s[i + j] == 95) := zcj s[i + j] 95
   have hjlt' : (i + j : Int) < s.length := by omega
   rw [List.drop_eq_getElem_cons hjlt, List.takeWhile_cons] at hn fin
   have key : bIn s[i + j] = true → Kb18 (zhe (.str s) (.sl (l.map Tk.cs) (.own H.length)) (.int .i64 i) (.int .u8 s[i].toNat) (.int .i64 (j + 1))) (H ++ [.perm zbk 3 l.length]) := by
    intro hbin
    rw [hbin] at hn
    simp at hn
    refine hKb18 _ _ ⟨s.length - (j + 1), by omega, Back.here (by simp) (hperm _) ?_ ⟨_, rfl, j + 1, by omega, by omega, rfl, by simp, rfl, by rw [← Nat.add_assoc]; omega⟩⟩
    simp [zhe, AV.sc, AV.scV, AV.scA, AV.scB]
   have no : bIn s[i + j] = false → zfK (.str s) (.sl (l.map Tk.cs) (.own H.length)) (.int .i64 i) (.int .u8 s[i].toNat) (.int .i64 j) (H ++ [.perm zbk 3 l.length]) (Out H.length K) Kb := by
    intro hbin
    rw [hbin] at fin
    exact fin (by simp)
   have hget : s[((i : Int) + j).toNat]?.getD 0 = s[i + j] := by
    rw [show ((i : Int) + j).toNat = i + j by omega]
    simp [hjlt]
   unfold bIn at key no
   simp [zoV, w1, w2, hjlt', hget]
   refine ⟨by omega, ?_⟩
   refine ztt _ _ _ ?_
   cases hL : zbJ s[i + j] with
   | true => simpa using key (by simp [hL])
   | false =>
    simp [w1, w2, hjlt', hget]
    refine ⟨by omega, zi2 _ _ _ ?_⟩
    cases hU : bUp s[i + j] with
    | true => simpa using key (by simp [hU])
    | false =>
     simp [w1, w2, hjlt', hget]
     refine ⟨by omega, zmx _ _ _ ?_⟩
     cases hD : zaU s[i + j] with
     | true => simpa using key (by simp [hD])
     | false =>
      simp [w1, w2, hjlt', hget, e95]
      refine ⟨by omega, ?_⟩
      cases h95 : (s[i + j] == 95) with
      | true => simpa using key (by simp [h95])
      | false => simpa [zfK, w1] using no (by simp [hL, hU, hD, h95])
  ·have hjlt' : ¬ (i + j : Int) < s.length := by omega
   have : s.drop (i + j) = [] := List.drop_eq_nil_of_le (by omega)
   rw [this] at fin
   have := fin rfl
   simp [zoV, w1, w2, hjlt']
   simpa [zfK, w1] using this
end
def zjq (t0 t5 t6 t8 : AV) (H : zaa) (K : AV → zaa → Prop) (Kb5 : List AV → zaa → Prop) : Prop :=
 zac .add false t6 t8 fun t172 =>
 zaL 0 0 t0 (some t6) (some t172) fun t173 =>
 ACalls tP zfr [t173] H fun t174 H =>
 zay t174 0 fun t175 =>
 zay t174 1 fun t176 =>
 aUn .not t176 fun t178 =>
 zag t178
 (zaD [.snil, t6, (.int .i64 9)] (K · H))
 (zac .add false t6 t8 fun t185 =>
 zaL 0 0 t0 (some t6) (some t185) fun t186 =>
 zax [(.int .i64 0), (.str []), (.int .i64 0)] [(0, 1), (1, 1), (2, 1)] [(0, (.int .i64 3)), (1, t186), (2, t6)] fun t188 =>
 zaz 3 [(.int .i64 0), (.str []), (.int .i64 0)] 1 [(0, t188)] fun t189 =>
 zaw zbk 3 32 t5 t189 H fun t190 H =>
 zem t0 t190 t6 t8 H K Kb5)
def zfL (t0 t5 t6 t7 t8 : AV) (H : zaa) (K : AV → zaa → Prop) (Kb5 : List AV → zaa → Prop) : Prop :=
 zac .gtr false t8 (.int .i64 1) fun t161 =>
 zab t161 true H (fun K' => K' t7 H) fun t163 H =>
 zab t161 true H (fun K' => zac .eql false t163 (.int .u8 48) (K' · H)) fun t164 H =>
 zai t161 t164 (.bool false) fun t165 =>
 zag t165
 (zaD [.snil, t6, (.int .i64 2)] (K · H))
 (zac .add false t6 t8 fun t172 =>
 zaL 0 0 t0 (some t6) (some t172) fun t173 =>
 ACalls tP zfr [t173] H fun t174 H =>
 zay t174 0 fun t175 =>
 zay t174 1 fun t176 =>
 aUn .not t176 fun t178 =>
 zag t178
 (zaD [.snil, t6, (.int .i64 9)] (K · H))
 (zac .add false t6 t8 fun t185 =>
 zaL 0 0 t0 (some t6) (some t185) fun t186 =>
 zax [(.int .i64 0), (.str []), (.int .i64 0)] [(0, 1), (1, 1), (2, 1)] [(0, (.int .i64 3)), (1, t186), (2, t6)] fun t188 =>
 zaz 3 [(.int .i64 0), (.str []), (.int .i64 0)] 1 [(0, t188)] fun t189 =>
 zaw zbk 3 32 t5 t189 H fun t190 H =>
 zem t0 t190 t6 t8 H K Kb5))
section
variable (s : List UInt8) (hl : ¬ s.length > 16384) (i : Nat) (hlt : i < s.length) (H : zaa) (l : List Tk) (hll : l.length ≤ i) (hperm : ∀ n, HSc (H ++ [.perm zbk 3 n])) (K : AV → zaa → Prop) (Kb : List AV → zaa → Prop)
include hl hlt hll hperm
theorem zBy (hLU : ¬ (zbJ s[i] || bUp s[i]) = true) (hD : zaU s[i] = true)
  (app : ∀ (k : Int) (n : Nat), tok (kwF kwds) s[i] (s.drop (i + 1)) = .ok (k, n) → ∀ t, (s.drop i).take n = t → zhf (.str s) (.sl (l.map Tk.cs ++ [[.int .i64 k, .str t, .int .i64 i]]) (.own H.length)) (.int .i64 i) (.int .i64 n) (H ++ [.perm zbk 3 (l.length + 1)]) (Out H.length K) Kb)
  (bad : ∀ e : Int, tok (kwF kwds) s[i] (s.drop (i + 1)) = .error e → Out H.length K (.tup [.snil, .int .i64 i, .int .i64 e]) (H ++ [.perm zbk 3 l.length])) :
  zoZ (.str s) (.sl (l.map Tk.cs) (.own H.length)) (.int .i64 i) (.int .u8 s[i].toNat) (.int .i64 1) (H ++ [.perm zbk 3 l.length]) (Out H.length K) Kb := by
 refine zFf (Inv := fun q t8 H' => ∃ (j : Nat), i + j ≤ s.length ∧ 0 < j ∧ q = s.length - j ∧ t8 = .int .i64 j ∧ H' = H ++ [.perm zbk 3 l.length] ∧ j + ((s.drop (i + j)).takeWhile zaU).length = ((s.drop (i + 1)).takeWhile zaU).length + 1) (s.length - 1) ?_ ?_
 ·intro _; exact ⟨1, by omega, by omega, by omega, rfl, rfl, by omega⟩
 ·rintro q t8 H' ⟨j, hij, hj0, rfl, rfl, rfl, hn⟩ hsc hlen hsF Kb18 hKb18
  have w1 : IntKind.i64.wrap ((i : Int) + j) = i + j := zar (by omega) (by omega)
  have w2 : IntKind.i64.wrap ((j : Int) + 1) = j + 1 := zar (by omega) (by omega)
  have e48 : ((s[i].toNat : Int) == 48) = (s[i] == 48) := zcj s[i] 48
  have fin : ((s.drop (i + j)).takeWhile zaU).length = 0 → zfL (.str s) (.sl (l.map Tk.cs) (.own H.length)) (.int .i64 i) (.int .u8 s[i].toNat) (.int .i64 j) (H ++ [.perm zbk 3 l.length]) (Out H.length K) Kb := by
   intro h0
   rw [h0] at hn
   have hdj : (s.drop i).take j = s[i] :: (s.drop (i + 1)).takeWhile zaU := by
    rw [List.drop_eq_getElem_cons hlt, show j = ((s.drop (i + 1)).takeWhile zaU).length + 1 by omega, ziY]
   have htk : tok (kwF kwds) s[i] (s.drop (i + 1)) = if (s[i] == 48 && decide (j > 1)) = true then .error 2 else if zb1 ((s.drop i).take j) 0 = true then .ok (3, j) else .error 9 := by
    rw [List.drop_eq_getElem_cons hlt]
    simp only [tok, hLU, hD, if_true, ← hn, Nat.add_zero]
    rfl
   have hval : ∀ (K : AV → zaa → Prop) (H : zaa), (∀ n, K (.tup [.int .i64 n, .bool (zb1 ((s.drop i).take j) 0)]) H) → ACalls tP zfr [.str ((s.drop i).take j)] H K := by
    intro K H hK
    refine zDA _ ?_ (by simp; omega) _ _ hK
    intro c hc
    rw [hdj] at hc
    rcases List.mem_cons.1 hc with rfl | hc
    ·exact hD
    ·exact List.all_eq_true.1 (List.all_takeWhile) c hc
   have rest : ¬ (s[i] == 48 && decide (j > 1)) = true → zjq (.str s) (.sl (l.map Tk.cs) (.own H.length)) (.int .i64 i) (.int .i64 j) (H ++ [.perm zbk 3 l.length]) (Out H.length K) Kb := by
    intro hne
    rw [if_neg hne] at htk
    simp [zjq, w1]
    refine ⟨by omega, by omega, ?_⟩
    rw [show ((i : Int) + j).toNat = i + j by omega, ziZ]
    refine hval _ _ fun n => ?_
    cases hv : zb1 ((s.drop i).take j) 0 with
    | false =>
     rw [hv] at htk
     simp [AV.isV]
     exact bad 9 htk
    | true =>
     rw [hv] at htk
     have := app 3 j htk _ rfl
     simp [zax, zaP, zaz, za9, zaB, AV.pd, zaw, zaX, zaO, zem]
     refine ⟨by omega, by omega, by omega, ?_⟩
     exact this
   by_cases h1 : j > 1
   ·have h1' : (1 : Int) < j := by omega
    have hd : decide (j > 1) = true := decide_eq_true h1
    rw [hd] at rest htk
    cases hz : (s[i] == 48) with
    | true =>
     rw [hz] at htk
     simp [zfL, h1', e48, hz, AV.isV]
     exact bad 2 htk
    | false =>
     have := rest (by rw [hz]; decide)
     simp [zfL, h1', e48, hz]
     simpa [zjq] using this
   ·have h1' : ¬ (1 : Int) < j := by omega
    have := rest (by rw [decide_eq_false h1]; simp)
    simp [zfL, h1']
    simpa [zjq] using this
  by_cases hjlt : i + j < s.length
  ·have hjlt' : (i + j : Int) < s.length := by omega
   rw [List.drop_eq_getElem_cons hjlt, List.takeWhile_cons] at hn fin
   have hget : s[((i : Int) + j).toNat]?.getD 0 = s[i + j] := by
    rw [show ((i : Int) + j).toNat = i + j by omega]
    simp [hjlt]
   simp [zoW, w1, w2, hjlt', hget]
   refine ⟨by omega, ?_⟩
   refine zmx _ _ _ ?_
   cases hb : zaU s[i + j] with
   | true =>
    rw [hb] at hn
    simp at hn
    simp [w1, w2]
    refine hKb18 _ _ ⟨s.length - (j + 1), by omega, Back.here (by simp) (hperm _) ?_ ⟨_, rfl, j + 1, by omega, by omega, rfl, by simp, rfl, by rw [← Nat.add_assoc]; omega⟩⟩
    simp [zjs, AV.sc, AV.scV, AV.scA, AV.scB]
   | false =>
    rw [hb] at fin
    have := fin (by simp)
    simp [w1, w2]
    simpa [zfL, w1] using this
  ·have hjlt' : ¬ (i + j : Int) < s.length := by omega
   have : s.drop (i + j) = [] := List.drop_eq_nil_of_le (by omega)
   rw [this] at fin
   have := fin rfl
   simp [zoW, w1, w2, hjlt']
   simpa [zfL, w1] using this
end
theorem zDb (s : List UInt8) (H : zaa) (K : AV → zaa → Prop) (hK : K (zeh s) H) : ACalls tP zm0 [.str s] H K := by
 refine ACalls.out (zFk fun hs => ?_)
 by_cases hl : s.length > 16384
 ·have hl' : (16384 : Int) < s.length := by omega
  simp [zoT, hl', AV.isV]
  unfold zeh at hK
  rw [if_pos hl] at hK
  exact Out.tup0 hs hK ⟨zeg, za1 rfl rfl, za1 rfl rfl, trivial⟩
 have hl' : ¬ (16384 : Int) < s.length := by omega
 unfold zeh at hK
 rw [if_neg hl] at hK
 simp [zoT, hl']
 have hperm : ∀ n, HSc (H ++ [.perm zbk 3 n]) := fun n => hs.append rfl
 unfold zjt
 refine ALoop.own 5 zbk 3 rfl ?_
 show zjt (.str s) (.sl [] (.own H.length)) (.int .i64 0) (H ++ [.perm zbk 3 0]) (Out H.length K)
 refine zFg (Inv := fun q t5 t6 H' => ∃ (i : Nat) (l : List Tk), i ≤ s.length ∧ l.length ≤ i ∧ q = s.length - i ∧ t6 = .int .i64 i ∧ t5 = .sl (l.map Tk.cs) (.own H.length) ∧ H' = H ++ [.perm zbk 3 l.length] ∧ cat l (zbr (kwF kwds) (s.drop i) i) = zbr (kwF kwds) s 0) s.length ?_ ?_
 ·intro _; exact ⟨0, [], by omega, by simp, by omega, rfl, rfl, rfl, by simp⟩
 ·rintro q t5 t6 H' ⟨i, l, hi, hll, rfl, rfl, rfl, rfl, ho⟩ hsc hlen hsF Kb hKb
  by_cases hlt : i < s.length
  ·have hdr := List.drop_eq_getElem_cons hlt
   have e9 : ((s[i].toNat : Int) == 9) = (s[i] == 9) := zcj s[i] 9
   have e10 : ((s[i].toNat : Int) == 10) = (s[i] == 10) := zcj s[i] 10
   have e13 : ((s[i].toNat : Int) == 13) = (s[i] == 13) := zcj s[i] 13
   have e32 : ((s[i].toNat : Int) == 32) = (s[i] == 32) := zcj s[i] 32
   have e35 : ((s[i].toNat : Int) == 35) = (s[i] == 35) := zcj s[i] 35
   cases hbl : zc0 s[i] with
   | true =>
    rw [hdr, zva _ hbl] at ho
    have key : zek (.str s) (.sl (l.map Tk.cs) (.own H.length)) (.int .i64 (IntKind.i64.wrap (i + 1))) (H ++ [.perm zbk 3 l.length]) (Out H.length K) Kb := by
     simp [zek]
     rw [zar (by omega) (by omega)]
     refine hKb _ _ ⟨s.length - (i + 1), by omega, Back.here (by simp) (hperm _) ?_ ⟨_, _, rfl, i + 1, l, by omega, by omega, rfl, by simp, rfl, rfl, ho⟩⟩
     simp [zeV, AV.sc, AV.scV, AV.scA, AV.scB]
    unfold zc0 at hbl
    cases h9 : (s[i] == 9) <;> cases h10 : (s[i] == 10) <;> cases h13 : (s[i] == 13) <;> cases h32 : (s[i] == 32) <;> simp [h9, h10, h13, h32] at hbl <;> simpa [zjp, hlt, e9, e10, e13, e32, h9, h10, h13, h32] using key
   | false =>
    have hbl' := hbl
    unfold zc0 at hbl'
    simp only [Bool.or_eq_false_iff] at hbl'
    obtain ⟨⟨⟨h9, h10⟩, h13⟩, h32⟩ := hbl'
    have app : ∀ (k : Int) (n : Nat), tok (kwF kwds) s[i] (s.drop (i + 1)) = .ok (k, n) → (s[i] == 35) = false → ∀ t, (s.drop i).take n = t → zhf (.str s) (.sl (l.map Tk.cs ++ [[.int .i64 k, .str t, .int .i64 i]]) (.own H.length)) (.int .i64 i) (.int .i64 n) (H ++ [.perm zbk 3 (l.length + 1)]) (Out H.length K) Kb := by
     intro k n ht hsh t hte
     subst hte
     rw [hdr, zvd _ hbl hsh ht, zsu, ← hdr] at ho
     have hn := zom ht
     rw [← hdr] at hn
     simp at hn
     have hn0 := zon ht
     simp [zhf, zek]
     rw [zar (by omega) (by omega)]
     refine hKb _ _ ⟨s.length - (i + n), by omega, Back.here (by simp) (hperm _) ?_ ⟨_, _, rfl, i + n, l ++ [⟨k, (s.drop i).take n, i⟩], by omega, by simp; omega, rfl, by simp, by simp [Tk.cs], by simp, ?_⟩⟩
     ·simp [zeV, AV.sc, AV.scV, AV.scA, AV.scB]
     ·rw [List.drop_drop] at ho; exact ho
    have bad : ∀ e : Int, tok (kwF kwds) s[i] (s.drop (i + 1)) = .error e → (s[i] == 35) = false → Out H.length K (.tup [.snil, .int .i64 i, .int .i64 e]) (H ++ [.perm zbk 3 l.length]) := by
     intro e ht hsh
     rw [hdr, zvb _ hbl hsh ht] at ho
     rw [← ho] at hK
     exact ztX hs hK
    simp [zjp, hlt, e9, e10, e13, e32, e35, h9, h10, h13, h32]
    cases hsh : (s[i] == 35) with
    | true =>
     simp
     rw [hdr, zvc _ hbl hsh] at ho
     obtain ⟨c1, c2⟩ := ziU h10 (s.drop (i + 1))
     rw [Nat.add_assoc, ← c1, ← c2, ← hdr] at ho
     refine zFd (Inv := fun q t6 H' => ∃ (j : Nat), i ≤ j ∧ j ≤ s.length ∧ q = s.length - j ∧ t6 = .int .i64 j ∧ H' = H ++ [.perm zbk 3 l.length] ∧ cat l (zbr (kwF kwds) (zdM (s.drop j)) (j + zdN (s.drop j))) = zbr (kwF kwds) s 0) (s.length - i) ?_ ?_
     ·intro _; exact ⟨i, by omega, by omega, by omega, rfl, rfl, ho⟩
     ·rintro q t6 H' ⟨j, hij, hj, rfl, rfl, rfl, ho⟩ hsc hlen hsF Kb9 hKb9
      by_cases hjlt : j < s.length
      ·have hdrj := List.drop_eq_getElem_cons hjlt
       have e10 : ((s[j].toNat : Int) != 10) = !(s[j] == 10) := by rw [← zcj s[j] 10]; rfl
       simp [zoU, hjlt, e10]
       cases hz : (s[j] == 10) with
       | true =>
        obtain ⟨d1, d2⟩ := zuO hz (s.drop (j + 1))
        rw [hdrj, d1, d2, ← hdrj, Nat.add_zero] at ho
        have hij' : i ≠ j := by rintro rfl; rw [h10] at hz; cases hz
        simp [zek]
        refine hKb _ _ ⟨s.length - j, by omega, Back.here (by simp) (hperm _) ?_ ⟨_, _, rfl, j, l, by omega, by omega, rfl, by simp, rfl, rfl, ho⟩⟩
        simp [zeV, AV.sc, AV.scV, AV.scA, AV.scB]
       | false =>
        obtain ⟨d1, d2⟩ := ziU hz (s.drop (j + 1))
        rw [hdrj, d1, d2, ← Nat.add_assoc] at ho
        simp
        rw [zar (by omega) (by omega)]
        refine hKb9 _ _ ⟨s.length - (j + 1), by omega, Back.here (by simp) (hperm _) ?_ ⟨_, rfl, j + 1, by omega, by omega, rfl, by simp, rfl, ho⟩⟩
        simp [zjr, AV.sc, AV.scV, AV.scA, AV.scB]
      ·obtain rfl : j = s.length := by omega
       simp [zoU, zek]
       rw [List.drop_length, skipC_nil.1, skipC_nil.2, Nat.add_zero] at ho
       refine hKb _ _ ⟨0, by omega, Back.here (by simp) (hperm _) ?_ ⟨_, _, rfl, s.length, l, by omega, by omega, by omega, by simp, rfl, rfl, by rw [List.drop_length]; exact ho⟩⟩
       simp [zeV, AV.sc, AV.scV, AV.scA, AV.scB]
    | false =>
     replace app := fun k n h => app k n h hsh
     replace bad := fun e h => bad e h hsh
     simp
     refine ztt _ _ _ ?_
     by_cases hLU : (zbJ s[i] || bUp s[i]) = true
     ·have hc : zbJ s[i] = true ∨ (zbJ s[i] = false ∧ bUp s[i] = true) := by cases hL : zbJ s[i] <;> simp [hL] at hLU ⊢; exact hLU
      rcases hc with hL | ⟨hL, hU⟩
      case' inl => simp [hL]
      case' inr => simp [hL]; refine zi2 _ _ _ ?_; simp [hU]
      all_goals exact zDG s hl i hlt H l hll hperm K Kb hLU app bad
     ·have hL : zbJ s[i] = false := by simp at hLU; exact hLU.1
      have hU : bUp s[i] = false := by simp at hLU; exact hLU.2
      simp [hL]
      refine zi2 _ _ _ ?_
      simp [hU]
      refine zmx _ _ _ ?_
      cases hD : zaU s[i] with
      | true =>
       simp
       exact zBy s hl i hlt H l hll hperm K Kb hLU hD app bad
      | false =>
       simp
       refine ⟨by omega, ?_⟩
       have htk : tok (kwF kwds) s[i] (s.drop (i + 1)) = if sgn (s.drop i) = 0 then .error 2 else .ok (5, sgn (s.drop i)) := by
        simp only [tok, hLU, hD, hdr]
        rfl
       rw [hdr]
       refine zCw _ _ _ _ ?_
       rw [← hdr]
       by_cases hz : sgn (s.drop i) = 0
       ·simp [hz, AV.isV]
        exact bad 2 (by rw [htk, if_pos hz])
       ·have hz' : ((sgn (s.drop i) : Int) == 0) = false := by simpa using hz
        have ht := htk
        rw [if_neg hz] at ht
        have hn := zom ht
        rw [← hdr] at hn
        simp at hn
        have := app 5 (sgn (s.drop i)) ht _ rfl
        simp [hz']
        rw [zar (by omega) (by omega)]
        simp [zax, zaP, zaz, za9, zaB, AV.pd, zaw, zaX, zaO, zem]
        refine ⟨by omega, by omega, by omega, ?_⟩
        rw [show ((i : Int) + (sgn (s.drop i) : Int)).toNat = i + sgn (s.drop i) by omega, ziZ]
        exact this
  ·obtain rfl : i = s.length := by omega
   rw [List.drop_length, zoo] at ho
   rw [← ho] at hK
   simp [zjp, zax, zaP, zaz, za9, zaB, AV.pd, zaw, zaX, zaO, AV.isV]
   refine ⟨by omega, ?_⟩
   simp [cat, Tk.cs] at hK
   exact Out.tup hs hK ⟨slV, za1 rfl rfl, za1 rfl rfl, trivial⟩
end Go.Proofs.YtjkkonpjecoieaaGreat
namespace Go.Proofs.YtjkkonpjecoieaaGreat
open Go Go.Abs
set_option maxRecDepth 100000
def zdA : Nat → List Bool
 | 5 => rl false [0,1,2,3,115]
 | 12 => rl false [0,1,2,5,113]
 | 18 => rl false [0,1,2,5,85,3,25]
 | _ => []
noncomputable def zqG : Code := Tryz.f39.body.getD .skip
noncomputable def zLy : List ResultVar := Tryz.f39.results.toList
def zk1 (t0 t3 t4 t5 : AV) : List AV := t0 :: ux 2 (t3 :: t4 :: t5 :: ux 115 [])
def zyF : List Bool := zdA 5
noncomputable def zqI : Code := zas [1, 1, 1, 0, 1, 0, 0] zqG
def zyA (K : Kt) : AExit → List AV → zaa → Prop := zat tP zdA [1, 1, 1, 0, 1, 0] zqG (zaA tP zLy K)
def zk3 (t0 t3 t4 t5 : AV) (H : zaa) (K : Kt) : Prop := ALoop tP zqI (zyA K) (zk1 t0 t3 t4 t5) H
def zkZ (t0 t3 t4 t5 t6 t7 : AV) : List AV := t0 :: ux 2 (t3 :: t4 :: t5 :: t6 :: t7 :: ux 113 [])
def zyE : List Bool := zdA 12
noncomputable def zqH : Code := zas [1, 0, 0, 1, 1, 1, 1, 0, 0] zqI
def zyz (K : Kt) (Kb5 : Lt) : AExit → List AV → zaa → Prop := zat tP zdA [1, 0, 0, 1, 1, 1, 1, 0] zqI (zbz zyF Kb5 (zyA K))
def zyC (t0 t3 t4 t5 t6 t7 : AV) (H : zaa) (K : Kt) (Kb5 : Lt) : Prop := ALoop tP zqH (zyz K Kb5) (zkZ t0 t3 t4 t5 t6 t7) H
def zk0 (t0 t3 t4 t5 t6 t7 t93 t94 t95 : AV) : List AV := t0 :: ux 2 (t3 :: t4 :: t5 :: t6 :: t7 :: ux 85 (t93 :: t94 :: t95 :: ux 25 []))
def zLw : List Bool := zdA 18
noncomputable def zLs : Code := zas [1, 0, 0, 1, 1, 1, 0, 0] zqH
def zLr (K : Kt) (Kb5 : Lt) (Kb12 : Lt) : AExit → List AV → zaa → Prop := zat tP zdA [1, 0, 0, 1, 1, 1, 0] zqH (zbz zyE Kb12 (zyz K Kb5))
def zyD (t0 t3 t4 t5 t6 t7 t93 t94 t95 : AV) (H : zaa) (K : Kt) (Kb5 : Lt) (Kb12 : Lt) : Prop := ALoop tP zLs (zLr K Kb5 Kb12) (zk0 t0 t3 t4 t5 t6 t7 t93 t94 t95) H
def zyB (t0 t3 t4 t5 t6 t7 t93 t94 t95 : AV) (H : zaa) (K : Kt) (Kb5 : Lt) (Kb12 : Lt) (Kb18 : Lt) : Prop :=
 zac .add false t95 (.int .i64 1) fun t112 =>
 Kb18 (zk0 t0 t3 t4 t5 t6 t7 t93 t94 t112) H
def zk2 (t0 t3 t4 t5 t6 t7 t93 t94 t95 : AV) (H : zaa) (K : Kt) (Kb5 : Lt) (Kb12 : Lt) (Kb18 : Lt) : Prop :=
 zyB t0 t3 t4 t5 t6 t7 t93 t94 t95 H K Kb5 Kb12 Kb18
def zqF (t0 t3 t4 t5 t6 t7 t93 t94 t95 : AV) (H : zaa) (K : Kt) (Kb5 : Lt) (Kb12 : Lt) (Kb18 : Lt) : Prop :=
 zac .lss false t95 t94 fun t96 =>
 zag t96
 (zaj 3 t93 t95 fun t97 =>
 zad true 3 t97 H fun t98 =>
 zau [(.int .i64 0), (.int .i64 0), .snil] H fun t9 H =>
 zak 3 t9 t98 H fun H =>
 zad true 3 t9 H fun t99 =>
 zaf 1 t6 fun t101 =>
 zad false 1 t101 H fun t102 =>
 ACalls tP ziw [t99, t5, t102] H fun t103 H =>
 zag t103
 (zk2 t0 t3 t4 t5 t6 t7 t93 t94 t95 H K Kb5 Kb12 Kb18)
 (zae H (fun K' => K' t0 H) fun t104 =>
 zae H (fun K' => K' t5 H) fun t105 =>
 zae H (fun K' => zaL 1 3 t104 none (some t105) (K' · H)) fun t106 =>
 zae H (fun K' => zal true 3 t9 H (K' · H)) fun t107 =>
 zae H (fun K' => zaf 1 t6 (K' · H)) fun t108 =>
 zae H (fun K' => zal false 1 t108 H (K' · H)) fun t109 =>
 zaG H (fun H K' => ACalls tP zgJ [t106, t107, t109] H K') fun t110 =>
 zae H (fun K' => aUn .not t110 (K' · H)) fun t111 =>
 zag t111
 (K (.bool false) H)
 (zk2 t0 t3 t4 t5 t6 t7 t93 t94 t95 H K Kb5 Kb12 Kb18)))
 (zac .add false t7 (.int .i64 1) fun t60 =>
 Kb12 (zkZ t0 t3 t4 t5 t6 t60) H)
def zqE (t0 t3 t4 t5 t6 t7 : AV) (H : zaa) (K : Kt) (Kb5 : Lt) (Kb12 : Lt) : Prop :=
 zaf 2 t6 fun t55 =>
 zad false 1 t55 H fun t56 =>
 zah 1 t56 fun t57 =>
 zac .lss false t7 t57 fun t58 =>
 zag t58
 (zaf 2 t6 fun t61 =>
 zad false 1 t61 H fun t62 =>
 zaj 2 t62 t7 fun t64 =>
 zaf 0 t64 fun t65 =>
 zad false 1 t65 H fun t66 =>
 ACalls tP ziv [t66] H fun t67 H =>
 aUn .not t67 fun t68 =>
 zab t68 false H (fun K' => zaf 2 t6 (K' · H)) fun t70 H =>
 zab t68 false H (fun K' => zad false 1 t70 H (K' · H)) fun t71 H =>
 zab t68 false H (fun K' => K' t7 H) fun t72 H =>
 zab t68 false H (fun K' => zaj 2 t71 t72 (K' · H)) fun t73 H =>
 zab t68 false H (fun K' => zaf 1 t73 (K' · H)) fun t74 H =>
 zab t68 false H (fun K' => zad false 1 t74 H (K' · H)) fun t75 H =>
 zab t68 false H (fun K' => zah 1 t75 (K' · H)) fun t76 H =>
 zab t68 false H (fun K' => zac .gtr false t76 (.int .i64 6) (K' · H)) fun t77 H =>
 zai t68 (.bool true) t77 fun t78 =>
 zag t78
 (K (.bool false) H)
 (zaf 2 t6 fun t80 =>
 zad false 1 t80 H fun t81 =>
 zaj 2 t81 t7 fun t83 =>
 zaf 0 t83 fun t84 =>
 zad false 1 t84 H fun t85 =>
 zaz 1 [(.str [])] 1 [(0, t85)] fun t86 =>
 zaw zbS 1 16 t4 t86 H fun t87 H =>
 zaf 2 t6 fun t88 =>
 zad false 1 t88 H fun t89 =>
 zaj 2 t89 t7 fun t91 =>
 zaf 1 t91 fun t92 =>
 zad false 1 t92 H fun t93 =>
 zah 1 t93 fun t94 =>
 zyD t0 t3 t87 t5 t6 t7 t93 t94 (.int .i64 0) H K Kb5 Kb12))
 (zac .add false t5 (.int .i64 1) fun t18 =>
 Kb5 (zk1 t0 t3 t4 t18) H)
def ze3 (t0 t3 t4 t5 : AV) (H : zaa) (K : Kt) (Kb5 : Lt) : Prop :=
 zah 1 t0 fun t15 =>
 zac .lss false t5 t15 fun t16 =>
 zag t16
 (zaj 3 t0 t5 fun t21 =>
 zad true 3 t21 H fun t22 =>
 zau [(.str []), (.int .i64 0), .snil] H fun t6 H =>
 zak 3 t6 t22 H fun H =>
 zaf 1 t6 fun t23 =>
 zad false 1 t23 H fun t24 =>
 zac .lss false t24 (.int .i64 0) fun t25 =>
 zab t25 false H (fun K' => zaf 1 t6 (K' · H)) fun t27 H =>
 zab t25 false H (fun K' => zad false 1 t27 H (K' · H)) fun t28 H =>
 zab t25 false H (fun K' => zac .gtr false t28 (.int .i64 6) (K' · H)) fun t29 H =>
 zai t25 (.bool true) t29 fun t30 =>
 zab t30 false H (fun K' => zaf 2 t6 (K' · H)) fun t32 H =>
 zab t30 false H (fun K' => zad false 1 t32 H (K' · H)) fun t33 H =>
 zab t30 false H (fun K' => zah 1 t33 (K' · H)) fun t34 H =>
 zab t30 false H (fun K' => zac .lss false t34 (.int .i64 1) (K' · H)) fun t35 H =>
 zai t30 (.bool true) t35 fun t36 =>
 zab t36 false H (fun K' => zaf 2 t6 (K' · H)) fun t38 H =>
 zab t36 false H (fun K' => zad false 1 t38 H (K' · H)) fun t39 H =>
 zab t36 false H (fun K' => zah 1 t39 (K' · H)) fun t40 H =>
 zab t36 false H (fun K' => zac .gtr false t40 (.int .i64 8) (K' · H)) fun t41 H =>
 zai t36 (.bool true) t41 fun t42 =>
 zab t42 false H (fun K' => zaf 0 t6 (K' · H)) fun t44 H =>
 zab t42 false H (fun K' => zad false 1 t44 H (K' · H)) fun t45 H =>
 zab t42 false H (fun K' => ACalls tP ziv [t45] H K') fun t46 H =>
 zab t42 false H (fun K' => aUn .not t46 (K' · H)) fun t47 H =>
 zai t42 (.bool true) t47 fun t48 =>
 zag t48
 (K (.bool false) H)
 (zaf 0 t6 fun t50 =>
 zad false 1 t50 H fun t51 =>
 zaz 1 [(.str [])] 1 [(0, t51)] fun t52 =>
 zaw zbS 1 16 t3 t52 H fun t53 H =>
 zyC t0 t53 t4 t5 t6 (.int .i64 0) H K Kb5))
 (ACalls tP zgP [t3] H fun t114 H =>
 aUn .not t114 fun t115 =>
 zab t115 true H (fun K' => K' t4 H) fun t117 H =>
 zab t115 true H (fun K' => ACalls tP zgP [t117] H K') fun t118 H =>
 zab t115 true H (fun K' => aUn .not t118 (K' · H)) fun t119 H =>
 zai t115 t119 (.bool false) fun t120 =>
 K t120 H)
def zqD (t0 : AV) (H : zaa) (K : Kt) : Prop :=
 zah 1 t0 fun t11 =>
 zac .gtr false t11 (.int .i64 12) fun t12 =>
 zag t12
 (K (.bool false) H)
 (zk3 t0 .snil .snil (.int .i64 0) H K)
theorem zLu {t0 t3 t4 t5 t6 t7 t93 t94 t95 : AV} {H : zaa} {K : Kt} {Kb5 : Lt} {Kb12 : Lt} (Inv : Nat → AV → zaa → Prop) (n : Nat) (h0 : HSc H → Inv n t95 H)
  (round : Rd1 (fun t95 => zk0 t0 t3 t4 t5 t6 t7 t93 t94 t95) (fun t95 => fun H Kb18 => zqF t0 t3 t4 t5 t6 t7 t93 t94 t95 H K Kb5 Kb12 Kb18) H Inv) : zyD t0 t3 t4 t5 t6 t7 t93 t94 t95 H K Kb5 Kb12 :=
 lp1 (M := zdA) zLw t95 (by kernel_rfl) Inv n h0 round
theorem zLt {t0 t3 t4 t5 t6 t7 : AV} {H : zaa} {K : Kt} {Kb5 : Lt} (Inv : Nat → AV → AV → zaa → Prop) (n : Nat) (h0 : HSc H → Inv n t4 t7 H)
  (round : Rd2 (fun t4 => fun t7 => zkZ t0 t3 t4 t5 t6 t7) (fun t4 => fun t7 => fun H Kb12 => zqE t0 t3 t4 t5 t6 t7 H K Kb5 Kb12) H Inv) : zyC t0 t3 t4 t5 t6 t7 H K Kb5 :=
 lp2 (M := zdA) zyE t4 t7 (by kernel_rfl) Inv n h0 round
theorem zLv {t0 t3 t4 t5 : AV} {H : zaa} {K : Kt} (Inv : Nat → AV → AV → AV → zaa → Prop) (n : Nat) (h0 : HSc H → Inv n t3 t4 t5 H)
  (round : Rd3 (fun t3 => fun t4 => fun t5 => zk1 t0 t3 t4 t5) (fun t3 => fun t4 => fun t5 => fun H Kb5 => ze3 t0 t3 t4 t5 H K Kb5) H Inv) : zk3 t0 t3 t4 t5 H K :=
 lp3 (M := zdA) zyF t3 t4 t5 (by kernel_rfl) Inv n h0 round
theorem zLx {t0 : AV} {H : zaa} {K : Kt} (h : HSc H → zqD t0 H K) : ACalls tP zil [t0] H K :=
 zam (M := zdA) Tryz.func39 (c := zqG) (by kernel_rfl) (fun hs => Eq.mpr (by kernel_rfl) (h hs))
def ze7 : Nat → List Bool
 | 2 => rl false [0,1,2,1,21]
 | 5 => rl false [0,1,2,2,20]
 | _ => []
noncomputable def zrt : Code := Tryz.f84.body.getD .skip
noncomputable def zN8 : List ResultVar := Tryz.f84.results.toList
def zlL (t0 t3 : AV) : List AV := t0 :: ux 2 (t3 :: ux 21 [])
def zzx : List Bool := ze7 2
noncomputable def zru : Code := zas [1, 0, 1, 0, 0] zrt
def zzu (K : Kt) : AExit → List AV → zaa → Prop := zat tP ze7 [1, 0, 1, 0] zrt (zaA tP zN8 K)
def zzv (t0 t3 : AV) (H : zaa) (K : Kt) : Prop := ALoop tP zru (zzu K) (zlL t0 t3) H
def zlM (t0 t3 t4 : AV) : List AV := t0 :: ux 2 (t3 :: t4 :: ux 20 [])
def zN6 : List Bool := ze7 5
noncomputable def zN3 : Code := zas [1, 0, 0, 1, 0, 0] zru
def zN2 (K : Kt) (Kb2 : Lt) : AExit → List AV → zaa → Prop := zat tP ze7 [1, 0, 0, 1, 0] zru (zbz zzx Kb2 (zzu K))
def zzw (t0 t3 t4 : AV) (H : zaa) (K : Kt) (Kb2 : Lt) : Prop := ALoop tP zN3 (zN2 K Kb2) (zlM t0 t3 t4) H
def zrs (t0 t3 t4 : AV) (H : zaa) (K : Kt) (Kb2 : Lt) (Kb5 : Lt) : Prop :=
 zac .lss false t4 t3 fun t13 =>
 zag t13
 (zae H (fun K' => K' t0 H) fun t16 =>
 zae H (fun K' => K' t3 H) fun t17 =>
 zae H (fun K' => zaj 1 t16 t17 (K' · H)) fun t18 =>
 zae H (fun K' => zal false 1 t18 H (K' · H)) fun t19 =>
 zae H (fun K' => K' t0 H) fun t20 =>
 zae H (fun K' => K' t4 H) fun t21 =>
 zae H (fun K' => zaj 1 t20 t21 (K' · H)) fun t22 =>
 zae H (fun K' => zal false 1 t22 H (K' · H)) fun t23 =>
 zae H (fun K' => zac .eql false t19 t23 (K' · H)) fun t24 =>
 zag t24
 (K (.bool true) H)
 (zac .add false t4 (.int .i64 1) fun t15 =>
 Kb5 (zlM t0 t3 t15) H))
 (zac .add false t3 (.int .i64 1) fun t10 =>
 Kb2 (zlL t0 t10) H)
def zrr (t0 t3 : AV) (H : zaa) (K : Kt) (Kb2 : Lt) : Prop :=
 zah 1 t0 fun t7 =>
 zac .lss false t3 t7 fun t8 =>
 zag t8
 (zzw t0 t3 (.int .i64 0) H K Kb2)
 (K (.bool false) H)
def zzt (t0 : AV) (H : zaa) (K : Kt) : Prop :=
 zzv t0 (.int .i64 0) H K
theorem zN5 {t0 t3 t4 : AV} {H : zaa} {K : Kt} {Kb2 : Lt} (Inv : Nat → AV → zaa → Prop) (n : Nat) (h0 : HSc H → Inv n t4 H)
  (round : Rd1 (fun t4 => zlM t0 t3 t4) (fun t4 => fun H Kb5 => zrs t0 t3 t4 H K Kb2 Kb5) H Inv) : zzw t0 t3 t4 H K Kb2 :=
 lp1 (M := ze7) zN6 t4 (by kernel_rfl) Inv n h0 round
theorem zN4 {t0 t3 : AV} {H : zaa} {K : Kt} (Inv : Nat → AV → zaa → Prop) (n : Nat) (h0 : HSc H → Inv n t3 H)
  (round : Rd1 (fun t3 => zlL t0 t3) (fun t3 => fun H Kb2 => zrr t0 t3 H K Kb2) H Inv) : zzv t0 t3 H K :=
 lp1 (M := ze7) zzx t3 (by kernel_rfl) Inv n h0 round
theorem zN7 {t0 : AV} {H : zaa} {K : Kt} (h : HSc H → zzt t0 H K) : ACalls tP zgP [t0] H K :=
 zam (M := ze7) Tryz.func84 (c := zrt) (by kernel_rfl) (fun hs => Eq.mpr (by kernel_rfl) (h hs))
end Go.Proofs.YtjkkonpjecoieaaGreat

namespace Go.Proofs.YtjkkonpjecoieaaGreat
open Go Go.Abs
set_option maxRecDepth 8000
theorem zcX {k : AV → Prop} (a b : AV) (vs : List AV) : zay (.tup (a :: b :: vs)) 1 k = k b := propext Iff.rfl
theorem zcY {k : AV → Prop} (a b c : AV) (vs : List AV) : zay (.tup (a :: b :: c :: vs)) 2 k = k c := propext Iff.rfl
def zeP (s : List UInt8) : List Tk × Int × Int :=
 if s.length > 16384 then ([], 0, 9) else
 match zbr (kwF kwds) s 0 with
 | .error (p, e) => ([], p, e)
 | .ok l => (l, 0, 0)
theorem zuT (s : List UInt8) : zeh s = .tup [.sl ((zeP s).1.map Tk.cs) .none, .int .i64 (zeP s).2.1, .int .i64 (zeP s).2.2] := by
 unfold zeh zeP
 split
 ·rfl
 ·split <;> (rename_i h; simp [h])
def zbV (s : List UInt8) (x : List Tk × Int × Int) : Bool := x.2.2 == 0 && match x.1 with
 | [a, _] => a.kind == 2 && a.text == s
 | _ => false
def zcJ (s : List UInt8) : Bool := zbV s (zeP s)
theorem zxI (s : List UInt8) (H : zaa) (K : AV → zaa → Prop) (hK : K (.bool (zcJ s)) H) : ACalls tP zh9 [.str s] H K := by
 refine ACalls.out (zI5 fun hs => ?_)
 have hO : Out H.length K (.bool (zcJ s)) H := Out.bool (J := []) (by simp) (Nat.le_refl _) hs hK
 simp only [zxH]
 refine zDa s _ _ ?_
 rw [zuT]
 rw [zcJ] at hO
 generalize zeP s = x at hO ⊢
 obtain ⟨l, p, e⟩ := x
 clear hK
 cases h0 : e == 0 with
 | false =>
  rw [show zbV s (l, p, e) = false by simp [zbV, h0]] at hO
  simp [zcX, zcY, h0]; exact hO
 | true =>
 match l with
 | [] =>
  rw [show zbV s ([], p, e) = false by simp [zbV]] at hO
  simp [zcX, zcY, h0]; exact hO
 | [x] =>
  rw [show zbV s ([x], p, e) = false by simp [zbV]] at hO
  simp [zcX, zcY, h0]; exact hO
 | [a, x] =>
  rw [show zbV s ([a, x], p, e) = (a.kind == 2 && a.text == s) by simp [zbV, h0]] at hO
  cases hk : a.kind == 2 with
  | false => rw [hk] at hO; simp [zcX, zcY, h0, Tk.cs, hk]; exact hO
  | true => rw [hk] at hO; simp [zcX, zcY, h0, Tk.cs, hk]; exact hO
 | a :: b :: c :: r =>
  rw [show zbV s (a :: b :: c :: r, p, e) = false by simp [zbV]] at hO
  have : ¬ ((r.length : Int) + 1 + 1 + 1 = 2) := by omega
  have h2 : ((r.length : Int) + 1 + 1 + 1 == 2) = false := by simpa using this
  simp [zcX, zcY, h0, h2]; exact hO
theorem zzq (s : List UInt8) (H : zaa) (K : AV → zaa → Prop) (hK : K (.bool (zcJ s)) H) : ACalls tP ziv [.str s] H K := by
 refine ACalls.out (zNV fun hs => ?_)
 have hO : Out H.length K (.bool (zcJ s)) H := Out.bool (J := []) (by simp) (Nat.le_refl _) hs hK
 simp only [zzp]
 refine zDb s _ _ ?_
 rw [zuT]
 rw [zcJ] at hO
 generalize zeP s = x at hO ⊢
 obtain ⟨l, p, e⟩ := x
 clear hK
 cases h0 : e == 0 with
 | false =>
  rw [show zbV s (l, p, e) = false by simp [zbV, h0]] at hO
  simp [zcX, zcY, h0]; exact hO
 | true =>
 match l with
 | [] =>
  rw [show zbV s ([], p, e) = false by simp [zbV]] at hO
  simp [zcX, zcY, h0]; exact hO
 | [x] =>
  rw [show zbV s ([x], p, e) = false by simp [zbV]] at hO
  simp [zcX, zcY, h0]; exact hO
 | [a, x] =>
  rw [show zbV s ([a, x], p, e) = (a.kind == 2 && a.text == s) by simp [zbV, h0]] at hO
  cases hk : a.kind == 2 with
  | false => rw [hk] at hO; simp [zcX, zcY, h0, Tk.cs, hk]; exact hO
  | true => rw [hk] at hO; simp [zcX, zcY, h0, Tk.cs, hk]; exact hO
 | a :: b :: c :: r =>
  rw [show zbV s (a :: b :: c :: r, p, e) = false by simp [zbV]] at hO
  have : ¬ ((r.length : Int) + 1 + 1 + 1 = 2) := by omega
  have h2 : ((r.length : Int) + 1 + 1 + 1 == 2) = false := by simpa using this
  simp [zcX, zcY, h0, h2]; exact hO
def zcd (l : List (List UInt8)) : Bool := !decide l.Nodup
def strs (l : List (List UInt8)) : List (List AV) := l.map fun s => [.str s]
@[simp] theorem zSJ (l : List (List UInt8)) : (strs l).length = l.length := by simp [strs]
theorem zDg {l : List (List UInt8)} {i : Nat} (h : i < (strs l).length) : (strs l)[i] = [.str (l[i]'(by simpa using h))] := by simp [strs]
theorem zB6 {l : List (List UInt8)} {i j : Nat} (hi : i < l.length) (hj : j < i) (h : l[i] = l[j]) : zcd l = true := by
 simp only [zcd, Bool.not_eq_true', decide_eq_false_iff_not]
 intro hn
 exact (List.pairwise_iff_getElem.mp hn) j i (by omega) hi hj h.symm
theorem zN9 (l : List (List UInt8)) (hl : l.length ≤ 1000000) (H : zaa) (K : AV → zaa → Prop) (hK : K (.bool (zcd l)) H) : ACalls tP zgP [.sl (strs l) .none] H K := by
 refine ACalls.out (zN7 fun hs => ?_)
 have hO : Out H.length K (.bool (zcd l)) H := Out.bool (J := []) (by simp) (Nat.le_refl _) hs hK
 simp [zzt]
 refine zN4 (Inv := fun q t3 H' => ∃ i : Nat, i ≤ l.length ∧ q = l.length - i ∧ t3 = .int .i64 i ∧ (∀ a b (ha : a < i) (hb : b < a) (h' : a < l.length), l[a] ≠ l[b]) ∧ H = H') l.length ?_ ?_
 ·intro _; exact ⟨0, by omega, by omega, rfl, by omega, rfl⟩
 ·rintro q t3 H' ⟨i, hi, rfl, rfl, hne, rfl⟩ hsc hlen hsF Kb hKb
  by_cases hlt : i < l.length
  ·simp [zrr, hlt]
   refine zN5 (Inv := fun q t4 H' => ∃ j : Nat, j ≤ i ∧ q = i - j ∧ t4 = .int .i64 j ∧ (∀ b (hb : b < j) (hb' : b < l.length), l[i] ≠ l[b]) ∧ H = H') i ?_ ?_
   ·intro _; exact ⟨0, by omega, by omega, rfl, by omega, rfl⟩
   ·rintro q t4 H' ⟨j, hj, rfl, rfl, hnj, rfl⟩ hsc1 hlen1 hsF1 Kb1 hKb1
    by_cases hjl : j < i
    ·simp [zrs, hjl, hlt, show j < l.length by omega, zDg]
     cases he : l[i] == l[j] with
     | true =>
      rw [zB6 hlt hjl (by simpa using he)] at hO
      simpa using hO
     | false =>
      simp
      rw [zar (by omega) (by omega)]
      refine hKb1 _ _ ⟨i - (j + 1), by omega, Back.at (J := []) (H2 := H) (by simp) (Nat.le_refl _) hs ?_ ⟨_, rfl, j + 1, by omega, rfl, by simp, ?_, rfl⟩⟩
      ·simp [zlM, AV.sc, AV.scV, AV.scA, AV.scB]
      ·intro b hb hb'
       by_cases hbj : b = j
       ·subst hbj; simpa using he
       ·exact hnj b (by omega) hb'
    ·obtain rfl : j = i := by omega
     simp [zrs]
     rw [zar (by omega) (by omega)]
     refine hKb _ _ ⟨l.length - (j + 1), by omega, Back.at (J := []) (H2 := H) (by simp) (Nat.le_refl _) hs ?_ ⟨_, rfl, j + 1, by omega, rfl, by simp, ?_, rfl⟩⟩
     ·simp [zlL, AV.sc, AV.scV, AV.scA, AV.scB]
     ·intro a b ha hb h'
      by_cases haj : a = j
      ·subst haj; exact hnj b hb (by omega)
      ·exact hne a b (by omega) hb h'
  ·obtain rfl : i = l.length := by omega
   have : zcd l = false := by
    simp only [zcd, Bool.not_eq_false', decide_eq_true_eq]
    refine List.pairwise_iff_getElem.mpr fun a b ha hb hab he => ?_
    exact hne b a hb hab hb he.symm
   rw [this] at hO
   simp [zrr]
   exact hO
def zeW : Nat → List Bool
 | 5 => rl false [0,1,2,2,9,2,89]
 | 13 => rl false [0,1,2,3,8,2,60,3,26]
 | _ => []
noncomputable def zph : Code := Tryz.f158.body.getD .skip
noncomputable def zGv : List ResultVar := Tryz.f158.results.toList
def zjX (t0 t3 t4 t14 t15 : AV) : List AV := t0 :: ux 2 (t3 :: t4 :: ux 9 (t14 :: t15 :: ux 89 []))
def zwB : List Bool := zeW 5
noncomputable def zpi : Code := zas [1, 1, 1, 0, 1, 0, 0] zph
def zwy (K : Kt) : AExit → List AV → zaa → Prop := zat tP zeW [1, 1, 1, 0, 1, 0] zph (zaA tP zGv K)
def zwA (t0 t3 t4 t14 t15 : AV) (H : zaa) (K : Kt) : Prop := ALoop tP zpi (zwy K) (zjX t0 t3 t4 t14 t15) H
def zjW (t0 t3 t4 t5 t14 t15 t76 t77 t78 : AV) : List AV := t0 :: ux 2 (t3 :: t4 :: t5 :: ux 8 (t14 :: t15 :: ux 60 (t76 :: t77 :: t78 :: ux 26 [])))
def zGt : List Bool := zeW 13
noncomputable def zGq : Code := zas [1, 1, 0, 0, 1, 1, 1, 1, 1, 0, 0] zpi
def zGp (K : Kt) (Kb5 : Lt) : AExit → List AV → zaa → Prop := zat tP zeW [1, 1, 0, 0, 1, 1, 1, 1, 1, 0] zpi (zbz zwB Kb5 (zwy K))
def zwz (t0 t3 t4 t5 t14 t15 t76 t77 t78 : AV) (H : zaa) (K : Kt) (Kb5 : Lt) : Prop := ALoop tP zGq (zGp K Kb5) (zjW t0 t3 t4 t5 t14 t15 t76 t77 t78) H
def zpf (t0 t3 t4 t5 t14 t15 t76 t77 t78 : AV) (H : zaa) (K : Kt) (Kb5 : Lt) (Kb13 : Lt) : Prop :=
 zac .lss false t78 t77 fun t79 =>
 zag t79
 (zaj 2 t76 t78 fun t81 =>
 zad true 2 t81 H fun t82 =>
 zau [(.str []), .snil] H fun t7 H =>
 zak 2 t7 t82 H fun H =>
 zaf 0 t7 fun t83 =>
 zad false 1 t83 H fun t84 =>
 ACalls tP zh9 [t84] H fun t85 H =>
 aUn .not t85 fun t86 =>
 zab t86 false H (fun K' => K' t4 H) fun t88 H =>
 zab t86 false H (fun K' => zaf 0 t7 (K' · H)) fun t89 H =>
 zab t86 false H (fun K' => zad false 1 t89 H (K' · H)) fun t90 H =>
 zab t86 false H (fun K' => zdp (.bool false) false t88 t90 H (K' · H)) fun t91 H =>
 zai t86 (.bool true) t91 fun t92 =>
 zab t92 false H (fun K' => K' t0 H) fun t94 H =>
 zab t92 false H (fun K' => K' t5 H) fun t95 H =>
 zab t92 false H (fun K' => K' t78 H) fun t96 H =>
 zab t92 false H (fun K' => ACalls tP znk [t94, t95, t96] H K') fun t97 H =>
 zab t92 false H (fun K' => aUn .not t97 (K' · H)) fun t98 H =>
 zai t92 (.bool true) t98 fun t99 =>
 zag t99
 (K (.bool false) H)
 (zaf 0 t7 fun t101 =>
 zad false 1 t101 H fun t102 =>
 zcK t4 t102 (.bool true) H fun H =>
 zac .add false t78 (.int .i64 1) fun t103 =>
 Kb13 (zjW t0 t3 t4 t5 t14 t15 t76 t77 t103) H))
 (zac .add false t15 (.int .i64 1) fun t104 =>
 Kb5 (zjX t0 t3 t4 t14 t104) H)
def zpg (t0 t3 t4 t14 t15 : AV) (H : zaa) (K : Kt) (Kb5 : Lt) : Prop :=
 zac .lss false t15 t14 fun t16 =>
 zag t16
 (zaj 3 t0 t15 fun t20 =>
 zaf 0 t20 fun t21 =>
 zad false 1 t21 H fun t22 =>
 ACalls tP zh9 [t22] H fun t23 H =>
 aUn .not t23 fun t24 =>
 zab t24 false H (fun K' => K' t3 H) fun t26 H =>
 zab t24 false H (fun K' => K' t0 H) fun t27 H =>
 zab t24 false H (fun K' => K' t15 H) fun t28 H =>
 zab t24 false H (fun K' => zaj 3 t27 t28 (K' · H)) fun t29 H =>
 zab t24 false H (fun K' => zaf 0 t29 (K' · H)) fun t30 H =>
 zab t24 false H (fun K' => zad false 1 t30 H (K' · H)) fun t31 H =>
 zab t24 false H (fun K' => zdp (.bool false) false t26 t31 H (K' · H)) fun t32 H =>
 zai t24 (.bool true) t32 fun t33 =>
 zab t33 false H (fun K' => K' t0 H) fun t35 H =>
 zab t33 false H (fun K' => K' t15 H) fun t36 H =>
 zab t33 false H (fun K' => zaj 3 t35 t36 (K' · H)) fun t37 H =>
 zab t33 false H (fun K' => zaf 1 t37 (K' · H)) fun t38 H =>
 zab t33 false H (fun K' => zad false 1 t38 H (K' · H)) fun t39 H =>
 zab t33 false H (fun K' => zac .lss false t39 (.int .i64 0) (K' · H)) fun t40 H =>
 zai t33 (.bool true) t40 fun t41 =>
 zab t41 false H (fun K' => K' t0 H) fun t43 H =>
 zab t41 false H (fun K' => K' t15 H) fun t44 H =>
 zab t41 false H (fun K' => zaj 3 t43 t44 (K' · H)) fun t45 H =>
 zab t41 false H (fun K' => zaf 1 t45 (K' · H)) fun t46 H =>
 zab t41 false H (fun K' => zad false 1 t46 H (K' · H)) fun t47 H =>
 zab t41 false H (fun K' => zac .gtr false t47 (.int .i64 6) (K' · H)) fun t48 H =>
 zai t41 (.bool true) t48 fun t49 =>
 zag t49
 (K (.bool false) H)
 (zaj 3 t0 t15 fun t53 =>
 zaf 0 t53 fun t54 =>
 zad false 1 t54 H fun t55 =>
 zcK t3 t55 (.bool true) H fun H =>
 zaj 3 t0 t15 fun t58 =>
 zaf 2 t58 fun t59 =>
 zad false 1 t59 H fun t60 =>
 zah 1 t60 fun t61 =>
 zac .lss false t61 (.int .i64 1) fun t62 =>
 zab t62 false H (fun K' => K' t0 H) fun t64 H =>
 zab t62 false H (fun K' => K' t15 H) fun t65 H =>
 zab t62 false H (fun K' => zaj 3 t64 t65 (K' · H)) fun t66 H =>
 zab t62 false H (fun K' => zaf 2 t66 (K' · H)) fun t67 H =>
 zab t62 false H (fun K' => zad false 1 t67 H (K' · H)) fun t68 H =>
 zab t62 false H (fun K' => zah 1 t68 (K' · H)) fun t69 H =>
 zab t62 false H (fun K' => zac .gtr false t69 (.int .i64 8) (K' · H)) fun t70 H =>
 zai t62 (.bool true) t70 fun t71 =>
 zag t71
 (K (.bool false) H)
 (zaj 3 t0 t15 fun t74 =>
 zaf 2 t74 fun t75 =>
 zad false 1 t75 H fun t76 =>
 zah 1 t76 fun t77 =>
 zwz t0 t3 t4 t15 t14 t15 t76 t77 (.int .i64 0) H K Kb5)))
 (K (.bool true) H)
def zpe (t0 : AV) (H : zaa) (K : Kt) : Prop :=
 zah 1 t0 fun t9 =>
 zac .gtr false t9 (.int .i64 12) fun t10 =>
 zag t10
 (K (.bool false) H)
 (zdY H fun t11 H =>
 zdY H fun t12 H =>
 zah 1 t0 fun t14 =>
 zwA t0 t11 t12 t14 (.int .i64 0) H K)
theorem zGr {t0 t3 t4 t5 t14 t15 t76 t77 t78 : AV} {H : zaa} {K : Kt} {Kb5 : Lt} (Inv : Nat → AV → zaa → Prop) (n : Nat) (h0 : HSc H → Inv n t78 H)
  (round : Rd1 (fun t78 => zjW t0 t3 t4 t5 t14 t15 t76 t77 t78) (fun t78 => fun H Kb13 => zpf t0 t3 t4 t5 t14 t15 t76 t77 t78 H K Kb5 Kb13) H Inv) : zwz t0 t3 t4 t5 t14 t15 t76 t77 t78 H K Kb5 :=
 lp1 (M := zeW) zGt t78 (by kernel_rfl) Inv n h0 round
theorem zGs {t0 t3 t4 t14 t15 : AV} {H : zaa} {K : Kt} (Inv : Nat → AV → zaa → Prop) (n : Nat) (h0 : HSc H → Inv n t15 H)
  (round : Rd1 (fun t15 => zjX t0 t3 t4 t14 t15) (fun t15 => fun H Kb5 => zpg t0 t3 t4 t14 t15 H K Kb5) H Inv) : zwA t0 t3 t4 t14 t15 H K :=
 lp1 (M := zeW) zwB t15 (by kernel_rfl) Inv n h0 round
theorem zGu {t0 : AV} {H : zaa} {K : Kt} (h : HSc H → zpe t0 H K) : ACalls tP zm5 [t0] H K :=
 zam (M := zeW) Tryz.func158 (c := zph) (by kernel_rfl) (fun hs => Eq.mpr (by kernel_rfl) (h hs))
def zkx : Nat → List Bool
 | 6 => rl false [0,2,6,1,18,3,29]
 | _ => []
noncomputable def zp4 : Code := Tryz.f190.body.getD .skip
noncomputable def zJb : List ResultVar := Tryz.f190.results.toList
def zhm (t0 t1 t8 t27 t28 t29 : AV) : List AV := t0 :: t1 :: ux 6 (t8 :: ux 18 (t27 :: t28 :: t29 :: ux 29 []))
def zI9 : List Bool := zkx 6
noncomputable def zI7 : Code := zas [1, 1, 1, 1, 0, 1, 0, 0] zp4
def zI6 (K : Kt) : AExit → List AV → zaa → Prop := zat tP zkx [1, 1, 1, 1, 0, 1, 0] zp4 (zaA tP zJb K)
def zxK (t0 t1 t8 t27 t28 t29 : AV) (H : zaa) (K : Kt) : Prop := ALoop tP zI7 (zI6 K) (zhm t0 t1 t8 t27 t28 t29) H
def zp3 (t0 t1 t8 t27 t28 t29 : AV) (H : zaa) (K : Kt) (Kb6 : Lt) : Prop :=
 zac .lss false t29 t28 fun t30 =>
 zag t30
 (zaj 3 t27 t29 fun t32 =>
 zad true 3 t32 H fun t33 =>
 zau [(.int .i64 0), (.int .i64 0), .snil] H fun t10 H =>
 zak 3 t10 t33 H fun H =>
 zae H (fun K' => K' t0 H) fun t34 =>
 zae H (fun K' => K' t1 H) fun t35 =>
 zae H (fun K' => zac .add false t35 (.int .i64 1) (K' · H)) fun t36 =>
 zae H (fun K' => zaL 1 3 t34 none (some t36) (K' · H)) fun t37 =>
 zae H (fun K' => zal true 3 t10 H (K' · H)) fun t38 =>
 zae H (fun K' => K' t0 H) fun t39 =>
 zae H (fun K' => K' t1 H) fun t40 =>
 zae H (fun K' => zaj 3 t39 t40 (K' · H)) fun t41 =>
 zae H (fun K' => zaf 1 t41 (K' · H)) fun t42 =>
 zae H (fun K' => zal false 1 t42 H (K' · H)) fun t43 =>
 zaG H (fun H K' => ACalls tP zfn [t37, t38, t43] H K') fun t44 =>
 zae H (fun K' => aUn .not t44 (K' · H)) fun t45 =>
 zae H (fun K' => K' t45 H) fun t46 =>
 zab t46 false H (fun K' => zae H (fun K'' => K'' t8 H) (K' · H)) fun t47 H =>
 zab t46 false H (fun K' => zae H (fun K'' => K'' t29 H) (K' · H)) fun t48 H =>
 zab t46 false H (fun K' => zae H (fun K'' => zaj 1 t47 t48 (K'' · H)) (K' · H)) fun t49 H =>
 zab t46 false H (fun K' => zae H (fun K'' => zal false 1 t49 H (K'' · H)) (K' · H)) fun t50 H =>
 zab t46 false H (fun K' => zae H (fun K'' => aUn .not t50 (K'' · H)) (K' · H)) fun t51 H =>
 zab t46 false H (fun K' => zae H (fun K'' => K'' t51 H) (K' · H)) fun t52 H =>
 zab t52 true H (fun K' => zae H (fun K'' => zal true 3 t10 H (K'' · H)) (K' · H)) fun t53 H =>
 zab t52 true H (fun K' => zae H (fun K'' => K'' t1 H) (K' · H)) fun t54 H =>
 zab t52 true H (fun K' => zaG H (fun H K'' => ACalls tP zic [t53, t54] H K'') (K' · H)) fun t55 H =>
 zab t46 false H (fun K' => zae H (fun K'' => zai t52 t55 (.bool false) (K'' · H)) (K' · H)) fun t56 H =>
 zae H (fun K' => zai t46 (.bool true) t56 (K' · H)) fun t57 =>
 zag t57
 (K (.bool false) H)
 (zac .add false t29 (.int .i64 1) fun t58 =>
 Kb6 (zhm t0 t1 t8 t27 t28 t58) H))
 (K (.bool true) H)
def zxJ (t0 t1 t2 : AV) (H : zaa) (K : Kt) : Prop :=
 zaj 3 t0 t1 fun t13 =>
 zaf 2 t13 fun t14 =>
 zad false 1 t14 H fun t15 =>
 zaj 2 t15 t2 fun t17 =>
 zaf 1 t17 fun t18 =>
 zad false 1 t18 H fun t19 =>
 zah 1 t19 fun t21 =>
 zac .gtr false t21 (.int .i64 6) fun t22 =>
 zag t22
 (K (.bool false) H)
 (ACalls tP zdf [t0, t1, t2] H fun t26 H =>
 zah 1 t19 fun t28 =>
 zxK t0 t1 t26 t19 t28 (.int .i64 0) H K)
theorem zI8 {t0 t1 t8 t27 t28 t29 : AV} {H : zaa} {K : Kt} (Inv : Nat → AV → zaa → Prop) (n : Nat) (h0 : HSc H → Inv n t29 H)
  (round : Rd1 (fun t29 => zhm t0 t1 t8 t27 t28 t29) (fun t29 => fun H Kb6 => zp3 t0 t1 t8 t27 t28 t29 H K Kb6) H Inv) : zxK t0 t1 t8 t27 t28 t29 H K :=
 lp1 (M := zkx) zI9 t29 (by kernel_rfl) Inv n h0 round
theorem zJa {t0 t1 t2 : AV} {H : zaa} {K : Kt} (h : HSc H → zxJ t0 t1 t2 H K) : ACalls tP znk [t0, t1, t2] H K :=
 zam (M := zkx) Tryz.func190 (c := zp4) (by kernel_rfl) (fun hs => Eq.mpr (by kernel_rfl) (h hs))
end Go.Proofs.YtjkkonpjecoieaaGreat

namespace Go.Proofs.YtjkkonpjecoieaaGreat
open Go Go.Abs
set_option maxRecDepth 8000
def zdq (data : List Dat) (d : Nat) (vars : Int) (t : VT) : Bool := zaQ (data.take (d + 1)) vars t && (zbD d vars t || !zcg d t)
theorem zJc (data : List Dat) (d : Nat) (c : Nat) (hd : d < data.length) (hc : c < (data[d]).cons.length) (hl : data.length ≤ 1000000) (hcl : (data[d]).cons.length ≤ 1000000) (hal : ((data[d]).cons[c]).args.length ≤ 1000000)
  (hb : ∀ x ∈ ((data[d]).cons[c]).args, x.nodes ≤ 1000000) (H : zaa) (K : AV → zaa → Prop)
  (hK : K (.bool (decide (((data[d]).cons[c]).args.length ≤ 6) && ((data[d]).cons[c]).args.all (zdq data d (data[d]).vars))) H) :
  ACalls tP znk [.sl (data.map Dat.cs) .none, .int .i64 d, .int .i64 c] H K := by
 refine ACalls.out (zJa fun hs => ?_)
 have e1 : (data.map Dat.cs)[d]? = some (data[d]).cs := by simp [hd]
 have e2 : ((data[d]).cons.map Con.cs)[c]? = some ((data[d]).cons[c]).cs := by simp [hc]
 have hrec := zlC data d c hd hc hl hcl hal hb
 generalize hD : data[d] = D at *
 generalize hA : D.cons[c] = C at *
 have hO : ∀ J, Out H.length K (.bool (decide (C.args.length ≤ 6) && C.args.all (zdq data d D.vars))) (H ++ J) := fun J => Out.bool rfl (Nat.le_refl _) hs hK
 simp [zxJ, e1, e2, Dat.cs, Con.cs, hd, hD, hc, hA]
 by_cases h6 : C.args.length ≤ 6
 ·have h6' : ¬ (6 : Int) < C.args.length := by omega
  have h6'' : ¬ 6 < C.args.length := by omega
  simp [h6', h6'']
  refine hrec _ _ ?_
  simp [h6] at hO
  refine zI8 (Inv := fun q t29 H' => ∃ i : Nat, i ≤ C.args.length ∧ q = C.args.length - i ∧ t29 = .int .i64 i ∧ (C.args.drop i).all (zdq data d D.vars) = C.args.all (zdq data d D.vars) ∧ H = H') C.args.length ?_ ?_
  ·intro _; exact ⟨0, by omega, by omega, rfl, by simp, rfl⟩
  ·rintro q t29 H' ⟨i, hi, rfl, rfl, ho, rfl⟩ hsc hlen hsF Kb hKb
   by_cases hlt : i < C.args.length
   ·rw [List.drop_eq_getElem_cons hlt, List.all_cons] at ho
    have hnb := hb _ (List.getElem_mem hlt)
    obtain ⟨x1, x2, x3, hvx, hx1, hx2, hx3⟩ := zaK C.args[i]
    simp [zp3, hlt, hvx, e1, hd, hD, Dat.cs]
    refine ⟨⟨hx1, hx2, hx3⟩, ?_⟩
    rw [zar (by omega) (by omega), show ((d : Int) + 1).toNat = d + 1 by omega, ← List.map_take]
    refine ⟨by omega, by omega, ?_⟩
    rw [← hvx]
    refine zaF (.bool (zaQ (data.take (d + 1)) D.vars C.args[i])) (fun J => zoF (data.take (d + 1)) D.vars _ (by omega) _ _ ⟨rfl, rfl⟩) ?_
    have hao : zdq data d D.vars C.args[i] = (zaQ (data.take (d + 1)) D.vars C.args[i] && (zbD d D.vars C.args[i] || !zcg d C.args[i])) := rfl
    rw [hao] at ho
    cases hv : zaQ (data.take (d + 1)) D.vars C.args[i] with
    | false =>
     rw [hv] at ho
     simp only [Bool.false_and] at ho
     rw [← ho] at hO
     simp; exact hO _
    | true =>
    rw [hv] at ho
    cases hsf : zbD d D.vars C.args[i] with
    | true =>
     rw [hsf] at ho
     simp [hlt, hsf]
     rw [zar (by omega) (by omega)]
     refine hKb _ _ ⟨C.args.length - (i + 1), by omega, Back.same (by simp) hs ?_ ⟨_, rfl, i + 1, by omega, rfl, by simp, by simpa using ho, rfl⟩⟩
     simp [zhm, AV.sc, AV.scV, AV.scA, AV.scB]
    | false =>
     rw [hsf] at ho
     simp [hlt, hsf]
     refine zaF (.bool (zcg d C.args[i])) (fun J => zJJ d _ _ (Nat.le_refl _) (by omega) _ _ ⟨rfl, rfl⟩) ?_
     cases hm : zcg d C.args[i] with
     | true =>
      rw [hm] at ho
      simp only [Bool.not_true, Bool.or_false, Bool.and_false, Bool.false_and] at ho
      rw [← ho] at hO
      simp; exact hO _
     | false =>
      rw [hm] at ho
      simp
      rw [zar (by omega) (by omega)]
      refine hKb _ _ ⟨C.args.length - (i + 1), by omega, Back.same (by simp) hs ?_ ⟨_, rfl, i + 1, by omega, rfl, by simp, by simpa using ho, rfl⟩⟩
      simp [zhm, AV.sc, AV.scV, AV.scA, AV.scB]
   ·obtain rfl : i = C.args.length := by omega
    rw [List.drop_length, List.all_nil] at ho
    rw [← ho] at hO
    simp [zp3]
    simpa using hO []
 ·have h6' : (6 : Int) < C.args.length := by omega
  have h6'' : 6 < C.args.length := by omega
  simp [h6', h6'']
  simp [h6] at hO
  simpa using hO []
end Go.Proofs.YtjkkonpjecoieaaGreat
namespace Go.Proofs.YtjkkonpjecoieaaGreat
open Go Go.Abs
set_option maxRecDepth 8000
def zbP (l : List (List UInt8)) : List (List UInt8 × AV) := l.map fun s => (s, .bool true)
theorem zeO (s : List UInt8) : ∀ l : List (List UInt8), (zb4 (zbP l) s).getD (.bool false) = .bool (decide (s ∈ l))
 | [] => by simp [zbP, zb4]
 | a :: l => by
  have := zeO s l
  cases h : a == s with
  | true =>
   have h' : a = s := by simpa using h
   simp [zbP, zb4, h, h']
  | false =>
   have h' : a ≠ s := by simpa using h
   have h'' : s ≠ a := fun e => h' e.symm
   simp only [zbP, List.map_cons, zb4, h] at this ⊢
   rw [this]; simp [h'']
theorem zn5 (s : List UInt8) : ∀ l : List (List UInt8), s ∉ l → zc7 (zbP l) s (.bool true) = zbP (l ++ [s])
 | [], _ => rfl
 | a :: l, h => by
  have h1 : (a == s) = false := by simp at h; simpa using fun e => h.1 e.symm
  have := zn5 s l (by simp at h; exact h.2)
  simp only [zbP, List.map_cons, zc7, h1, List.cons_append] at this ⊢
  rw [this]
theorem zCp (m : Nat) (l : List (List UInt8)) : (AB.map (zbP l)).sc m = true := by simp [AB.sc, zbP, AV.scV]
def zbn (data : List Dat) : List (List UInt8) := data.map Dat.name
def zaN (data : List Dat) : List (List UInt8) := data.flatMap fun D => D.cons.map Con.name
def zc3 (data : List Dat) (d : Nat) (vars : Int) (c : Con) : Bool := zcJ c.name && (decide (c.args.length ≤ 6) && c.args.all (zdq data d vars))
def zcq (data : List Dat) (d : Nat) (D : Dat) : Bool := zcJ D.name && decide (0 ≤ D.vars) && decide (D.vars ≤ 6) && decide (1 ≤ D.cons.length) && decide (D.cons.length ≤ 8) && D.cons.all (zc3 data d D.vars)
def zcB (data : List Dat) : List Dat → Nat → Bool
 | [], _ => true
 | D :: l, d => zcq data d D && zcB data l (d + 1)
def zbe (data : List Dat) : Bool := decide (data.length ≤ 12) && zcB data data 0 && !zcd (zbn data) && !zcd (zaN data)
theorem zuq {A R : List (List UInt8)} {s : List UInt8} (h : s ∈ A) : zcd (A ++ s :: R) = true := by
 simp only [zcd, Bool.not_eq_true', decide_eq_false_iff_not, List.nodup_append]
 rintro ⟨_, _, h3⟩
 exact h3 s h s (by simp) rfl
theorem znY {l : List (List UInt8)} (h : l.Nodup) : zcd l = false := by simp [zcd, h]
theorem ztP {A : List (List UInt8)} {s : List UInt8} (h : A.Nodup) (hs : s ∉ A) : (A ++ [s]).Nodup := by
 rw [List.nodup_append]
 refine ⟨h, by simp, ?_⟩
 intro a ha b hb
 simp at hb; subst hb
 exact fun e => hs (e ▸ ha)
def zhx (data : List Dat) : Prop := ∀ D ∈ data, D.cons.length ≤ 1000000 ∧ ∀ c ∈ D.cons, c.args.length ≤ 1000000 ∧ ∀ x ∈ c.args, x.nodes ≤ 1000000
theorem zGw (data : List Dat) (hB : zhx data) (hl : data.length ≤ 1000000) (H : zaa) (K : AV → zaa → Prop) (hK : K (.bool (zbe data)) H) : ACalls tP zm5 [.sl (data.map Dat.cs) .none] H K := by
 refine ACalls.out (zGu fun hs => ?_)
 have hO : ∀ J, Out H.length K (.bool (zbe data)) (H ++ J) := fun J => Out.bool rfl (Nat.le_refl _) hs hK
 by_cases h12 : data.length ≤ 12
 ·have h12' : ¬ (12 : Int) < data.length := by omega
  have h12'' : ¬ 12 < data.length := by omega
  have hD0 : zcB data data 0 = false → ∀ J, Out H.length K (.bool false) (H ++ J) := fun h J => by
   have := hO J; rwa [show zbe data = false by simp [zbe, h]] at this
  have hD1 : zcd (zbn data) = true → ∀ J, Out H.length K (.bool false) (H ++ J) := fun h J => by
   have := hO J; rwa [show zbe data = false by simp [zbe, h]] at this
  have hD2 : zcd (zaN data) = true → ∀ J, Out H.length K (.bool false) (H ++ J) := fun h J => by
   have := hO J; rwa [show zbe data = false by simp [zbe, h]] at this
  simp [zpe, h12', h12'']
  refine zGs (Inv := fun q t15 H' => ∃ i : Nat, i ≤ data.length ∧ q = data.length - i ∧ t15 = .int .i64 i ∧ zcB data (data.drop i) i = zcB data data 0 ∧ (zbn (data.take i)).Nodup ∧ (zaN (data.take i)).Nodup ∧ H' = H ++ [.map (zbP (zbn (data.take i))), .map (zbP (zaN (data.take i)))]) data.length ?_ ?_
  ·intro _; exact ⟨0, by omega, by omega, rfl, by simp, by simp [zbn], by simp [zaN], by simp [zbn, zaN, zbP]⟩
  ·rintro q t15 H' ⟨i, hi, rfl, rfl, ho, hdn, hcn, rfl⟩ hsc hlen hsF Kb hKb
   by_cases hlt : i < data.length
   ·have e1 : (data.map Dat.cs)[i]? = some (data[i]).cs := by simp [hlt]
    obtain ⟨hB1, hB2⟩ := hB _ (List.getElem_mem hlt)
    have hargs := fun c hc => zJc data i c hlt hc hl hB1 (hB2 _ (List.getElem_mem hc)).1 (hB2 _ (List.getElem_mem hc)).2
    rw [List.drop_eq_getElem_cons hlt, zcB] at ho
    have htk : data.take (i + 1) = data.take i ++ [data[i]] := by rw [List.take_append_getElem hlt]
    have hsplit : data = data.take i ++ data[i] :: data.drop (i + 1) := by rw [List.getElem_cons_drop, List.take_append_drop]
    generalize hD : data[i] = D at *
    have hbad : zcq data i D = false → zcB data data 0 = false := fun h => by rw [← ho, h, Bool.false_and]
    have hno : ∀ J, zcq data i D = false → Out H.length K (.bool false) (H ++ [.map (zbP (zbn (data.take i))), .map (zbP (zaN (data.take i)))] ++ J) := fun J h => by
     rw [List.append_assoc]; exact hD0 (hbad h) _
    simp [zpg, hlt, e1, hD, Dat.cs]
    refine zxI _ _ _ ?_
    cases hu : zcJ D.name with
    | false => simp; exact hD0 (hbad (by simp [zcq, hu])) _
    | true =>
    by_cases hmem : D.name ∈ zbn (data.take i)
    ·simp [hlt, e1, hD, Dat.cs, zeO, hmem]
     refine hD1 ?_ _
     rw [hsplit]; simp only [zbn, List.map_append, List.map_cons]
     exact zuq hmem
    by_cases hv0 : D.vars < 0
    ·simp [hlt, e1, hD, Dat.cs, zeO, hmem, hv0]
     exact hD0 (hbad (by simp [zcq, show ¬ 0 ≤ D.vars by omega])) _
    by_cases hv6 : 6 < D.vars
    ·simp [hlt, e1, hD, Dat.cs, zeO, hmem, hv0, hv6]
     exact hD0 (hbad (by simp [zcq, show ¬ D.vars ≤ 6 by omega])) _
    simp [hlt, e1, hD, Dat.cs, zeO, hmem, hv0, hv6, zn5 _ _ hmem]
    by_cases hc1 : D.cons.length < 1
    ·have hc1' : (D.cons.length : Int) < 1 := by omega
     simp [hc1']
     exact hD0 (hbad (by simp [zcq, show ¬ 1 ≤ D.cons.length by omega])) _
    have hc1' : ¬ (D.cons.length : Int) < 1 := by omega
    by_cases hc8 : 8 < D.cons.length
    ·have hc8' : (8 : Int) < D.cons.length := by omega
     simp [hlt, e1, hD, Dat.cs, hc1', hc8', hc8]
     exact hD0 (hbad (by simp [zcq, show ¬ D.cons.length ≤ 8 by omega])) _
    have hc8' : ¬ (8 : Int) < D.cons.length := by omega
    have hdat : zcq data i D = D.cons.all (zc3 data i D.vars) := by
     simp [zcq, hu, show 0 ≤ D.vars by omega, show D.vars ≤ 6 by omega, show 1 ≤ D.cons.length by omega, show D.cons.length ≤ 8 by omega]
    simp [hlt, e1, hD, Dat.cs, hc1', hc8', hc8]
    have hdn' : (zbn (data.take (i + 1))).Nodup := by
     rw [htk]; simp only [zbn, List.map_append, List.map_cons, List.map_nil]; exact ztP hdn hmem
    have hde : zbn (data.take i) ++ [D.name] = zbn (data.take (i + 1)) := by rw [htk]; simp [zbn]
    rw [hde]
    refine zGr (Inv := fun q t78 H' => ∃ j : Nat, j ≤ D.cons.length ∧ q = D.cons.length - j ∧ t78 = .int .i64 j ∧ (D.cons.drop j).all (zc3 data i D.vars) = D.cons.all (zc3 data i D.vars) ∧ (zaN (data.take i) ++ (D.cons.take j).map Con.name).Nodup ∧ H' = H ++ [.map (zbP (zbn (data.take (i + 1)))), .map (zbP (zaN (data.take i) ++ (D.cons.take j).map Con.name))]) D.cons.length ?_ ?_
    ·intro _; exact ⟨0, by omega, by omega, rfl, by simp, by simpa using hcn, by simp⟩
    ·rintro q t78 H' ⟨j, hj, rfl, rfl, hoc, hcj, rfl⟩ hsc1 hlen1 hsF1 Kb1 hKb1
     have hscH : ∀ A B, HSc (H ++ [.map (zbP A), .map (zbP B)]) := fun A B => hs.append (by simp [zCp])
     by_cases hjl : j < D.cons.length
     ·have e2 : (D.cons.map Con.cs)[j]? = some (D.cons[j]).cs := by simp [hjl]
      have hargs' := hargs j hjl
      rw [List.drop_eq_getElem_cons hjl, List.all_cons] at hoc
      have htj : zaN (data.take i) ++ (D.cons.take (j + 1)).map Con.name = (zaN (data.take i) ++ (D.cons.take j).map Con.name) ++ [(D.cons[j]).name] := by
       rw [← List.take_append_getElem hjl, List.map_append, List.append_assoc]; rfl
      have hcs : zaN data = (zaN (data.take i) ++ (D.cons.take j).map Con.name) ++ (D.cons[j]).name :: ((D.cons.drop (j + 1)).map Con.name ++ zaN (data.drop (i + 1))) := by
       have h1 : D.cons.map Con.name = (D.cons.take j).map Con.name ++ (D.cons[j]).name :: (D.cons.drop (j + 1)).map Con.name := by
        rw [← List.map_cons (f := Con.name), List.getElem_cons_drop, ← List.map_append, List.take_append_drop]
       conv => lhs; rw [hsplit]
       simp only [zaN, List.flatMap_append, List.flatMap_cons, List.append_assoc, h1, List.cons_append]
      generalize hC : D.cons[j] = C at *
      have hbad' : zc3 data i D.vars C = false → zcB data data 0 = false := fun h => hbad (by rw [hdat, ← hoc, h, Bool.false_and])
      generalize hA : zaN (data.take i) ++ (D.cons.take j).map Con.name = A at *
      simp only [zpf]
      simp [hjl, hC, Con.cs, Nat.add_assoc]
      refine zxI _ _ _ ?_
      cases hu2 : zcJ C.name with
      | false => simp; exact hD0 (hbad' (by simp [zc3, hu2])) _
      | true =>
      by_cases hm2 : C.name ∈ A
      ·simp [zeO, hm2]
       exact hD2 (by rw [hcs]; exact zuq hm2) _
      ·simp [zeO, hm2]
       refine hargs' _ _ ?_
       have hce : zc3 data i D.vars C = (decide (C.args.length ≤ 6) && C.args.all (zdq data i D.vars)) := by simp [zc3, hu2]
       rw [← hce]
       cases hco : zc3 data i D.vars C with
       | false => simp; exact hD0 (hbad' hco) _
       | true =>
        rw [hco, Bool.true_and] at hoc
        simp [zn5 _ _ hm2]
        rw [zar (by omega) (by omega)]
        refine hKb1 _ _ ⟨D.cons.length - (j + 1), by omega, Back.at (J := [.cells [.str C.name, .sl (VT.css C.args) .none]]) (H2 := H ++ [.map (zbP (zbn (data.take (i + 1)))), .map (zbP (A ++ [C.name]))]) (by simp) (by simp) (hscH _ _) ?_ ⟨_, rfl, j + 1, by omega, rfl, by simp, hoc, ?_, ?_⟩⟩
        ·simp [zjW, AV.sc, AV.scV, AV.scA, AV.scB]
        ·rw [htj]; exact ztP hcj hm2
        ·rw [htj]
     ·obtain rfl : j = D.cons.length := by omega
      rw [List.drop_length, List.all_nil] at hoc
      rw [List.take_length] at *
      simp [zpf]
      rw [zar (by omega) (by omega)]
      have hce : zaN (data.take i) ++ D.cons.map Con.name = zaN (data.take (i + 1)) := by rw [htk]; simp [zaN]
      rw [hce] at hcj ⊢
      refine hKb _ _ ⟨data.length - (i + 1), by omega, Back.at (J := []) (by simp) (by simp) (hscH _ _) ?_ ⟨_, rfl, i + 1, by omega, rfl, by simp, ?_, hdn', hcj, rfl⟩⟩
      ·simp [zjX, AV.sc, AV.scV, AV.scA, AV.scB]
      ·rw [← ho, hdat, ← hoc, Bool.true_and]
   ·obtain rfl : i = data.length := by omega
    rw [List.drop_length, zcB] at ho
    rw [List.take_length] at *
    simp [zpg]
    have := hO [.map (zbP (zbn data)), .map (zbP (zaN data))]
    rwa [show zbe data = true by simp [zbe, h12, ← ho, znY hdn, znY hcn]] at this
 ·have h12' : (12 : Int) < data.length := by omega
  have h12'' : 12 < data.length := by omega
  rw [show zbe data = false by simp [zbe, h12]] at hO
  simp [zpe, h12', h12'']
  simpa using hO []
def zrR (c : Con) : Prop := c.name.length ≤ 40 ∧ c.args.length ≤ 8 ∧ ∀ t ∈ c.args, t.nodes ≤ 20
def zl9 (d : Dat) : Prop := d.name.length ≤ 40 ∧ d.cons.length ≤ 10 ∧ ∀ c ∈ d.cons, zrR c
def za5 (ds : List Dat) : Prop := ds.length ≤ 14 ∧ ∀ d ∈ ds, zl9 d
theorem zgw {α : Type} {l : List α} {i : Nat} (h : i < l.length) {p : α → Prop} (h1 : ∀ x ∈ l.take i, p x) (h2 : p l[i]) : ∀ x ∈ l.take (i + 1), p x := by
 rw [List.take_succ_eq_append_getElem h]
 intro x hx
 rcases List.mem_append.1 hx with hx | hx
 ·exact h1 x hx
 ·simp at hx; subst hx; exact h2
theorem ztw {α : Type} {cs : α → List AV} {l : List α} {i : Nat} (h : i < l.length) : (l.map cs)[i]?.getD [] = cs l[i] := by simp [h]
theorem vt3 (v : VT) : ∃ a b c, v.cs = [a, b, c] ∧ a.known = true ∧ b.known = true ∧ c.known = true := by
 obtain ⟨k, n, ks⟩ := v; exact ⟨_, _, _, rfl, rfl, rfl, rfl⟩
theorem zKM (ds : List Dat) (H : zaa) (K : AV → zaa → Prop) (hlen : ds.length ≤ 9223372036854775807) (hK : ∀ b, (b = true → za5 ds) → K (.bool b) H) : ACalls tP znt [.sl (ds.map Dat.cs) .none] H K := by
 refine ACalls.out (zKK fun hs => ?_)
 have hF : ∀ J, Out H.length K (.bool false) (H ++ J) := fun J => Out.bool rfl (Nat.le_refl _) hs (hK false fun h => by cases h)
 have hF0 : Out H.length K (.bool false) H := by simpa using hF []
 by_cases h14 : ds.length > 14
 ·have : (14 : Int) < ds.length := by omega
  simp [zqq, this]
  exact hF0
 have : ¬ (14 : Int) < ds.length := by omega
 simp [zqq, this]
 refine zKH (Inv := fun q t15 H' => ∃ i : Nat, i ≤ ds.length ∧ q = ds.length - i ∧ t15 = .int .i64 i ∧ (∀ d ∈ ds.take i, zl9 d) ∧ H = H') ds.length ?_ ?_
 ·intro _; exact ⟨0, by omega, by omega, rfl, by simp, rfl⟩
 ·rintro q t15 H' ⟨i, hi, rfl, rfl, ha, rfl⟩ hsc hl hsF Kb4 hKb4
  by_cases hil : i < ds.length
  ·have hat : (ds.map Dat.cs)[i]?.getD [] = [.str ds[i].name, .int .i64 ds[i].vars, .sl (ds[i].cons.map Con.cs) .none] := ztw hil
   have next : zl9 ds[i] → ∀ J, Kb4 (zhn (.sl (ds.map Dat.cs) .none) (.int .i64 ds.length) (.int .i64 (i + 1))) (H ++ J) := by
    intro hd J
    refine hKb4 _ _ ⟨ds.length - (i + 1), by omega, Back.same (Nat.le_refl _) hs ?_ ⟨_, rfl, i + 1, by omega, rfl, by simp, zgw hil ha hd, rfl⟩⟩
    simp [zhn, AV.sc, AV.scV, AV.scA, AV.scB]
   generalize hdd : ds[i] = d at *
   simp [zqs, hil, hat, AV.known, hdd, Dat.cs]
   by_cases hn : d.name.length > 40
   ·have : (40 : Int) < d.name.length := by omega
    simp [this]
    exact hF _
   have hn' : ¬ (40 : Int) < d.name.length := by omega
   by_cases hc : d.cons.length > 10
   ·have : (10 : Int) < d.cons.length := by omega
    simp [hn', this]
    exact hF _
   have hc' : ¬ (10 : Int) < d.cons.length := by omega
   simp [hn', hc']
   refine zKI (Inv := fun q t32 H' => ∃ j : Nat, j ≤ d.cons.length ∧ q = d.cons.length - j ∧ t32 = .int .i64 j ∧ (∀ c ∈ d.cons.take j, zrR c) ∧ H' = H ++ [.cells [.str d.name, .int .i64 d.vars, .sl (d.cons.map Con.cs) .none]]) d.cons.length ?_ ?_
   ·intro _; exact ⟨0, by omega, by omega, rfl, by simp, rfl⟩
   ·rintro q t32 H' ⟨j, hj, rfl, rfl, hb, rfl⟩ hsc9 hl9 hsF9 Kb9 hKb9
    by_cases hjl : j < d.cons.length
    ·have hat : (d.cons.map Con.cs)[j]?.getD [] = [.str d.cons[j].name, .sl (VT.css d.cons[j].args) .none] := ztw hjl
     generalize hcc : d.cons[j] = c at *
     simp [zqt, hjl, hat, AV.known, hcc, Con.cs]
     by_cases hn : c.name.length > 40
     ·have : (40 : Int) < c.name.length := by omega
      simp [this]
      exact hF _
     have hn' : ¬ (40 : Int) < c.name.length := by omega
     by_cases hc : c.args.length > 8
     ·have : (8 : Int) < c.args.length := by omega
      simp [hn', this]
      exact hF _
     have hc' : ¬ (8 : Int) < c.args.length := by omega
     simp [hn', hc']
     refine zKG (Inv := fun q t49 H' => ∃ (k : Nat) (l : Int), k ≤ c.args.length ∧ q = c.args.length - k ∧ t49 = .int .i64 k ∧ -1 ≤ l ∧ l ≤ 20 ∧ (∀ t ∈ c.args.take k, t.nodes ≤ 20) ∧ H' = H ++ [.cells [.str d.name, .int .i64 d.vars, .sl (d.cons.map Con.cs) .none], .cells [.str c.name, .sl (VT.css c.args) .none], .cells [.int .i64 l]]) c.args.length ?_ ?_
     ·intro _; exact ⟨0, 20, by omega, by omega, rfl, by omega, by omega, by simp, rfl⟩
     ·rintro q t49 H' ⟨k, l, hk, rfl, rfl, hl0, hl1, hb15, rfl⟩ hsc15 hl15 hsF15 Kb15 hKb15
      by_cases hkl : k < c.args.length
      ·obtain ⟨x, y, z, hv, hx, hy, hz⟩ := vt3 c.args[k]
       simp [zqr, hkl, hv, hx, hy, hz]
       rw [← hv]
       refine zzc _ _ (Nat.le_refl _) l (by omega) hl0 _ (H.length + 2) (by simp) _ ?_ ?_
       ·intro hle
        simp
        rw [zar (by omega) (by omega)]
        refine hKb15 _ _ ⟨c.args.length - (k + 1), by omega, Back.at (J := [_]) (H2 := H ++ [.cells [.str d.name, .int .i64 d.vars, .sl (d.cons.map Con.cs) .none], .cells [.str c.name, .sl (VT.css c.args) .none], .cells [.int .i64 (l - c.args[k].nodes)]]) (by simp; rfl) (by simp) (hs.append rfl) ?_ ⟨_, rfl, k + 1, l - c.args[k].nodes, by omega, rfl, by simp, by omega, by omega, zgw hkl hb15 (by omega), rfl⟩⟩
        simp [zkQ, AV.sc, AV.scV, AV.scA, AV.scB]
       ·intro hle l'
        simp
        exact hF _
      ·obtain rfl : k = c.args.length := by omega
       rw [List.take_length] at hb15
       simp [zqr]
       rw [zar (by omega) (by omega)]
       refine hKb9 _ _ ⟨d.cons.length - (j + 1), by omega, Back.at (J := [_, _]) (H2 := H ++ [.cells [.str d.name, .int .i64 d.vars, .sl (d.cons.map Con.cs) .none]]) (by simp; exact ⟨rfl, rfl⟩) (by simp) (hs.append rfl) ?_ ⟨_, rfl, j + 1, by omega, rfl, by simp, zgw hjl hb (by rw [hcc]; exact ⟨by omega, by omega, hb15⟩), rfl⟩⟩
       simp [zkR, AV.sc, AV.scV, AV.scA, AV.scB]
    ·obtain rfl : j = d.cons.length := by omega
     rw [List.take_length] at hb
     simp [zqt]
     rw [zar (by omega) (by omega)]
     exact next ⟨by omega, by omega, hb⟩ _
  ·obtain rfl : i = ds.length := by omega
   rw [List.take_length] at ha
   simp [zqs]
   exact Out.bool (J := []) (by simp) (Nat.le_refl _) hs (hK true fun _ => ⟨by omega, ha⟩)
end Go.Proofs.YtjkkonpjecoieaaGreat
