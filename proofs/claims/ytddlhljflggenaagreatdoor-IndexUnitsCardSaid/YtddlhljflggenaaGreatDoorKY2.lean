import Derived.Test.YtddlhljflggenaaGreatDoorKTW5
import Derived.Test.YtddlhljflggenaaGreatDoorKNum
import Derived.Test.YtddlhljflggenaaGreatDoorProg
import Derived.KernelRfl
import Derived.Test.YtddlhljflggenaaGreatDoorKGT1
import Derived.Test.YtddlhljflggenaaGreatDoorKY4
set_option linter.unusedSimpArgs false
set_option linter.unusedVariables false
namespace Go.Proofs.YtddlhljflggenaaGreatDoor
open Go Go.Abs
set_option maxRecDepth 4000
set_option maxRecDepth 4000
theorem ziC (s : List UInt8) (i n : Nat) : List.drop i (List.take (i + n) s) = List.take n (List.drop i s) := by
 rw [List.drop_take]; congr 1; omega
def zfh (t0 t5 t6 t7 t8 : AV) (H : zaa) (K : AV → zaa → Prop) (Kb5 : List AV → zaa → Prop) : Prop :=
 zac .gtr false t8 (.int .i64 24) fun t118 =>
 zaf t118
 (zaw [.snil, t6, (.int .i64 9)] (K · H))
 (ACalls tP zeX [t7] H fun t121 H =>
 zaf t121
 (zd4 t0 t5 t6 t8 (.int .i64 2) H K Kb5)
 (zac .add false t6 t8 fun t126 =>
 zaK 0 0 t0 (some t6) (some t126) fun t127 =>
 ACalls tP zhU [t127] H fun t128 H =>
 zaf t128
 (zd4 t0 t5 t6 t8 (.int .i64 4) H K Kb5)
 (zd4 t0 t5 t6 t8 (.int .i64 1) H K Kb5)))
section
variable (s : List UInt8) (hl : ¬ s.length > 16384) (i : Nat) (hlt : i < s.length) (H : zaa) (l : List Tk) (hll : l.length ≤ i) (hperm : ∀ n, HSc (H ++ [.perm za2 3 n])) (K : AV → zaa → Prop) (Kb : List AV → zaa → Prop)
include hl hlt hll hperm
theorem zCK (hLU : (zbr s[i] || bUp s[i]) = true)
  (app : ∀ (k : Int) (n : Nat), tok (kwF kwds) s[i] (s.drop (i + 1)) = .ok (k, n) → ∀ t, (s.drop i).take n = t → zgJ (.str s) (.sl (l.map Tk.cs ++ [[.int .i64 k, .str t, .int .i64 i]]) (.own H.length)) (.int .i64 i) (.int .i64 n) (H ++ [.perm za2 3 (l.length + 1)]) (Out H.length K) Kb)
  (bad : ∀ e : Int, tok (kwF kwds) s[i] (s.drop (i + 1)) = .error e → Out H.length K (.tup [.snil, .int .i64 i, .int .i64 e]) (H ++ [.perm za2 3 l.length])) :
  znv (.str s) (.sl (l.map Tk.cs) (.own H.length)) (.int .i64 i) (.int .u8 s[i].toNat) (.int .i64 1) (H ++ [.perm za2 3 l.length]) (Out H.length K) Kb := by
 refine zCW (Inv := fun q t8 H' => ∃ (j : Nat), i + j ≤ s.length ∧ 0 < j ∧ q = s.length - j ∧ t8 = .int .i64 j ∧ H' = H ++ [.perm za2 3 l.length] ∧ j + ((s.drop (i + j)).takeWhile bIn).length = ((s.drop (i + 1)).takeWhile bIn).length + 1) (s.length - 1) ?_ ?_
 ·intro _; exact ⟨1, by omega, by omega, by omega, rfl, rfl, by omega⟩
 ·rintro q t8 H' ⟨j, hij, hj0, rfl, rfl, rfl, hn⟩ hsc hlen hsF Kb18 hKb18
  have w1 : IntKind.i64.wrap ((i : Int) + j) = i + j := zam (by omega) (by omega)
  have w2 : IntKind.i64.wrap ((j : Int) + 1) = j + 1 := zam (by omega) (by omega)
  have fin : ((s.drop (i + j)).takeWhile bIn).length = 0 → zfh (.str s) (.sl (l.map Tk.cs) (.own H.length)) (.int .i64 i) (.int .u8 s[i].toNat) (.int .i64 j) (H ++ [.perm za2 3 l.length]) (Out H.length K) Kb := by
   intro h0
   rw [h0] at hn
   have htk : tok (kwF kwds) s[i] (s.drop (i + 1)) = if j > 24 then .error 9 else .ok (if bUp s[i] = true then 2 else if kwF kwds ((s.drop i).take j) = true then 4 else 1, j) := by
    rw [List.drop_eq_getElem_cons hlt]
    simp only [tok, hLU, if_true, ← hn, Nat.add_zero]
   by_cases h24 : j > 24
   ·have h24' : (24 : Int) < j := by omega
    rw [if_pos h24] at htk
    simp [zfh, h24', AV.isV]
    exact bad 9 htk
   ·have h24' : ¬ (24 : Int) < j := by omega
    rw [if_neg h24] at htk
    simp [zfh, h24']
    refine ziI _ _ _ ?_
    have fin2 : ∀ k, k = (if bUp s[i] = true then 2 else if kwF kwds ((s.drop i).take j) = true then 4 else 1 : Int) → zd4 (.str s) (.sl (l.map Tk.cs) (.own H.length)) (.int .i64 i) (.int .i64 j) (.int .i64 k) (H ++ [.perm za2 3 l.length]) (Out H.length K) Kb := by
     intro k hk
     rw [← hk] at htk
     have := app k j htk _ rfl
     simp [zd4, w1, w2, zau, zaH, zay, za8, plain, AV.pd, zat, zaI, zaE, zd5]
     refine ⟨by omega, by omega, by omega, ?_⟩
     rw [show ((i : Int) + j).toNat = i + j by omega, ziC]
     exact this
    cases hU : bUp s[i] with
    | true => simp; exact fin2 2 (by simp [hU])
    | false =>
     simp [w1, w2]
     refine ⟨by omega, by omega, ?_⟩
     rw [show ((i : Int) + j).toNat = i + j by omega, ziC]
     refine zz2 _ _ _ ?_
     cases hkw : kwF kwds ((s.drop i).take j) with
     | true => simp; exact fin2 4 (by simp [hU, hkw])
     | false => simp; exact fin2 1 (by simp [hU, hkw])
  by_cases hjlt : i + j < s.length
  ·have e95 : ((s[i + j].toNat : Int) == 95) = (s[i + j] == 95) := zbP s[i + j] 95
   have hjlt' : (i + j : Int) < s.length := by omega
   rw [List.drop_eq_getElem_cons hjlt, List.takeWhile_cons] at hn fin
   have key : bIn s[i + j] = true → Kb18 (zgI (.str s) (.sl (l.map Tk.cs) (.own H.length)) (.int .i64 i) (.int .u8 s[i].toNat) (.int .i64 (j + 1))) (H ++ [.perm za2 3 l.length]) := by
    intro hbin
    rw [hbin] at hn
    simp at hn
    refine hKb18 _ _ ⟨s.length - (j + 1), by omega, Back.here (by simp) (hperm _) ?_ ⟨_, rfl, j + 1, by omega, by omega, rfl, by simp, rfl, by rw [← Nat.add_assoc]; omega⟩⟩
    simp [zgI, AV.sc, AV.scV, AV.scA, AV.scB]
   have no : bIn s[i + j] = false → zfh (.str s) (.sl (l.map Tk.cs) (.own H.length)) (.int .i64 i) (.int .u8 s[i].toNat) (.int .i64 j) (H ++ [.perm za2 3 l.length]) (Out H.length K) Kb := by
    intro hbin
    rw [hbin] at fin
    exact fin (by simp)
   have hget : s[((i : Int) + j).toNat]?.getD 0 = s[i + j] := by
    rw [show ((i : Int) + j).toNat = i + j by omega]
    simp [hjlt]
   unfold bIn at key no
   simp [zns, w1, w2, hjlt', hget]
   refine ⟨by omega, ?_⟩
   refine zsu _ _ _ ?_
   cases hL : zbr s[i + j] with
   | true => simpa using key (by simp [hL])
   | false =>
    simp [w1, w2, hjlt', hget]
    refine ⟨by omega, ziI _ _ _ ?_⟩
    cases hU : bUp s[i + j] with
    | true => simpa using key (by simp [hU])
    | false =>
     simp [w1, w2, hjlt', hget]
     refine ⟨by omega, zlD _ _ _ ?_⟩
     cases hD : zaJ s[i + j] with
     | true => simpa using key (by simp [hD])
     | false =>
      simp [w1, w2, hjlt', hget, e95]
      refine ⟨by omega, ?_⟩
      cases h95 : (s[i + j] == 95) with
      | true => simpa using key (by simp [h95])
      | false => simpa [zfh, w1] using no (by simp [hL, hU, hD, h95])
  ·have hjlt' : ¬ (i + j : Int) < s.length := by omega
   have : s.drop (i + j) = [] := List.drop_eq_nil_of_le (by omega)
   rw [this] at fin
   have := fin rfl
   simp [zns, w1, w2, hjlt']
   simpa [zfh, w1] using this
end
def ziR (t0 t5 t6 t8 : AV) (H : zaa) (K : AV → zaa → Prop) (Kb5 : List AV → zaa → Prop) : Prop :=
 zac .add false t6 t8 fun t172 =>
 zaK 0 0 t0 (some t6) (some t172) fun t173 =>
 ACalls tP zeY [t173] H fun t174 H =>
 zav t174 0 fun t175 =>
 zav t174 1 fun t176 =>
 aUn .not t176 fun t178 =>
 zaf t178
 (zaw [.snil, t6, (.int .i64 9)] (K · H))
 (zac .add false t6 t8 fun t185 =>
 zaK 0 0 t0 (some t6) (some t185) fun t186 =>
 zau [(.int .i64 0), (.str []), (.int .i64 0)] [(0, 1), (1, 1), (2, 1)] [(0, (.int .i64 3)), (1, t186), (2, t6)] fun t188 =>
 zay 3 [(.int .i64 0), (.str []), (.int .i64 0)] 1 [(0, t188)] fun t189 =>
 zat za2 3 32 t5 t189 H fun t190 H =>
 zd5 t0 t190 t6 t8 H K Kb5)
def zfi (t0 t5 t6 t7 t8 : AV) (H : zaa) (K : AV → zaa → Prop) (Kb5 : List AV → zaa → Prop) : Prop :=
 zac .gtr false t8 (.int .i64 1) fun t161 =>
 zab t161 true H (fun K' => K' t7 H) fun t163 H =>
 zab t161 true H (fun K' => zac .eql false t163 (.int .u8 48) (K' · H)) fun t164 H =>
 zai t161 t164 (.bool false) fun t165 =>
 zaf t165
 (zaw [.snil, t6, (.int .i64 2)] (K · H))
 (zac .add false t6 t8 fun t172 =>
 zaK 0 0 t0 (some t6) (some t172) fun t173 =>
 ACalls tP zeY [t173] H fun t174 H =>
 zav t174 0 fun t175 =>
 zav t174 1 fun t176 =>
 aUn .not t176 fun t178 =>
 zaf t178
 (zaw [.snil, t6, (.int .i64 9)] (K · H))
 (zac .add false t6 t8 fun t185 =>
 zaK 0 0 t0 (some t6) (some t185) fun t186 =>
 zau [(.int .i64 0), (.str []), (.int .i64 0)] [(0, 1), (1, 1), (2, 1)] [(0, (.int .i64 3)), (1, t186), (2, t6)] fun t188 =>
 zay 3 [(.int .i64 0), (.str []), (.int .i64 0)] 1 [(0, t188)] fun t189 =>
 zat za2 3 32 t5 t189 H fun t190 H =>
 zd5 t0 t190 t6 t8 H K Kb5))
section
variable (s : List UInt8) (hl : ¬ s.length > 16384) (i : Nat) (hlt : i < s.length) (H : zaa) (l : List Tk) (hll : l.length ≤ i) (hperm : ∀ n, HSc (H ++ [.perm za2 3 n])) (K : AV → zaa → Prop) (Kb : List AV → zaa → Prop)
include hl hlt hll hperm
theorem zAr (hLU : ¬ (zbr s[i] || bUp s[i]) = true) (hD : zaJ s[i] = true)
  (app : ∀ (k : Int) (n : Nat), tok (kwF kwds) s[i] (s.drop (i + 1)) = .ok (k, n) → ∀ t, (s.drop i).take n = t → zgJ (.str s) (.sl (l.map Tk.cs ++ [[.int .i64 k, .str t, .int .i64 i]]) (.own H.length)) (.int .i64 i) (.int .i64 n) (H ++ [.perm za2 3 (l.length + 1)]) (Out H.length K) Kb)
  (bad : ∀ e : Int, tok (kwF kwds) s[i] (s.drop (i + 1)) = .error e → Out H.length K (.tup [.snil, .int .i64 i, .int .i64 e]) (H ++ [.perm za2 3 l.length])) :
  znw (.str s) (.sl (l.map Tk.cs) (.own H.length)) (.int .i64 i) (.int .u8 s[i].toNat) (.int .i64 1) (H ++ [.perm za2 3 l.length]) (Out H.length K) Kb := by
 refine zCX (Inv := fun q t8 H' => ∃ (j : Nat), i + j ≤ s.length ∧ 0 < j ∧ q = s.length - j ∧ t8 = .int .i64 j ∧ H' = H ++ [.perm za2 3 l.length] ∧ j + ((s.drop (i + j)).takeWhile zaJ).length = ((s.drop (i + 1)).takeWhile zaJ).length + 1) (s.length - 1) ?_ ?_
 ·intro _; exact ⟨1, by omega, by omega, by omega, rfl, rfl, by omega⟩
 ·rintro q t8 H' ⟨j, hij, hj0, rfl, rfl, rfl, hn⟩ hsc hlen hsF Kb18 hKb18
  have w1 : IntKind.i64.wrap ((i : Int) + j) = i + j := zam (by omega) (by omega)
  have w2 : IntKind.i64.wrap ((j : Int) + 1) = j + 1 := zam (by omega) (by omega)
  have e48 : ((s[i].toNat : Int) == 48) = (s[i] == 48) := zbP s[i] 48
  have fin : ((s.drop (i + j)).takeWhile zaJ).length = 0 → zfi (.str s) (.sl (l.map Tk.cs) (.own H.length)) (.int .i64 i) (.int .u8 s[i].toNat) (.int .i64 j) (H ++ [.perm za2 3 l.length]) (Out H.length K) Kb := by
   intro h0
   rw [h0] at hn
   have hdj : (s.drop i).take j = s[i] :: (s.drop (i + 1)).takeWhile zaJ := by
    rw [List.drop_eq_getElem_cons hlt, show j = ((s.drop (i + 1)).takeWhile zaJ).length + 1 by omega, ziB]
   have htk : tok (kwF kwds) s[i] (s.drop (i + 1)) = if (s[i] == 48 && decide (j > 1)) = true then .error 2 else if zbD ((s.drop i).take j) 0 = true then .ok (3, j) else .error 9 := by
    rw [List.drop_eq_getElem_cons hlt]
    simp only [tok, hLU, hD, if_true, ← hn, Nat.add_zero]
    rfl
   have hval : ∀ (K : AV → zaa → Prop) (H : zaa), (∀ n, K (.tup [.int .i64 n, .bool (zbD ((s.drop i).take j) 0)]) H) → ACalls tP zeY [.str ((s.drop i).take j)] H K := by
    intro K H hK
    refine zCz _ ?_ (by simp; omega) _ _ hK
    intro c hc
    rw [hdj] at hc
    rcases List.mem_cons.1 hc with rfl | hc
    ·exact hD
    ·exact List.all_eq_true.1 (List.all_takeWhile) c hc
   have rest : ¬ (s[i] == 48 && decide (j > 1)) = true → ziR (.str s) (.sl (l.map Tk.cs) (.own H.length)) (.int .i64 i) (.int .i64 j) (H ++ [.perm za2 3 l.length]) (Out H.length K) Kb := by
    intro hne
    rw [if_neg hne] at htk
    simp [ziR, w1]
    refine ⟨by omega, by omega, ?_⟩
    rw [show ((i : Int) + j).toNat = i + j by omega, ziC]
    refine hval _ _ fun n => ?_
    cases hv : zbD ((s.drop i).take j) 0 with
    | false =>
     rw [hv] at htk
     simp [AV.isV]
     exact bad 9 htk
    | true =>
     rw [hv] at htk
     have := app 3 j htk _ rfl
     simp [zau, zaH, zay, za8, plain, AV.pd, zat, zaI, zaE, zd5]
     refine ⟨by omega, by omega, by omega, ?_⟩
     exact this
   by_cases h1 : j > 1
   ·have h1' : (1 : Int) < j := by omega
    have hd : decide (j > 1) = true := decide_eq_true h1
    rw [hd] at rest htk
    cases hz : (s[i] == 48) with
    | true =>
     rw [hz] at htk
     simp [zfi, h1', e48, hz, AV.isV]
     exact bad 2 htk
    | false =>
     have := rest (by rw [hz]; decide)
     simp [zfi, h1', e48, hz]
     simpa [ziR] using this
   ·have h1' : ¬ (1 : Int) < j := by omega
    have := rest (by rw [decide_eq_false h1]; simp)
    simp [zfi, h1']
    simpa [ziR] using this
  by_cases hjlt : i + j < s.length
  ·have hjlt' : (i + j : Int) < s.length := by omega
   rw [List.drop_eq_getElem_cons hjlt, List.takeWhile_cons] at hn fin
   have hget : s[((i : Int) + j).toNat]?.getD 0 = s[i + j] := by
    rw [show ((i : Int) + j).toNat = i + j by omega]
    simp [hjlt]
   simp [znt, w1, w2, hjlt', hget]
   refine ⟨by omega, ?_⟩
   refine zlD _ _ _ ?_
   cases hb : zaJ s[i + j] with
   | true =>
    rw [hb] at hn
    simp at hn
    simp [w1, w2]
    refine hKb18 _ _ ⟨s.length - (j + 1), by omega, Back.here (by simp) (hperm _) ?_ ⟨_, rfl, j + 1, by omega, by omega, rfl, by simp, rfl, by rw [← Nat.add_assoc]; omega⟩⟩
    simp [ziT, AV.sc, AV.scV, AV.scA, AV.scB]
   | false =>
    rw [hb] at fin
    have := fin (by simp)
    simp [w1, w2]
    simpa [zfi, w1] using this
  ·have hjlt' : ¬ (i + j : Int) < s.length := by omega
   have : s.drop (i + j) = [] := List.drop_eq_nil_of_le (by omega)
   rw [this] at fin
   have := fin rfl
   simp [znt, w1, w2, hjlt']
   simpa [zfi, w1] using this
end
theorem zCg (s : List UInt8) (H : zaa) (K : AV → zaa → Prop) (hK : K (zdZ s) H) : ACalls tP zl4 [.str s] H K := by
 refine ACalls.out (zC2 fun hs => ?_)
 by_cases hl : s.length > 16384
 ·have hl' : (16384 : Int) < s.length := by omega
  simp [znq, hl', AV.isV]
  unfold zdZ at hK
  rw [if_pos hl] at hK
  exact Out.tup0 hs hK ⟨zdY, zaC rfl rfl, zaC rfl rfl, trivial⟩
 have hl' : ¬ (16384 : Int) < s.length := by omega
 unfold zdZ at hK
 rw [if_neg hl] at hK
 simp [znq, hl']
 have hperm : ∀ n, HSc (H ++ [.perm za2 3 n]) := fun n => hs.append rfl
 unfold ziU
 refine ALoop.own 5 za2 3 rfl ?_
 show ziU (.str s) (.sl [] (.own H.length)) (.int .i64 0) (H ++ [.perm za2 3 0]) (Out H.length K)
 refine zCY (Inv := fun q t5 t6 H' => ∃ (i : Nat) (l : List Tk), i ≤ s.length ∧ l.length ≤ i ∧ q = s.length - i ∧ t6 = .int .i64 i ∧ t5 = .sl (l.map Tk.cs) (.own H.length) ∧ H' = H ++ [.perm za2 3 l.length] ∧ cat l (zba (kwF kwds) (s.drop i) i) = zba (kwF kwds) s 0) s.length ?_ ?_
 ·intro _; exact ⟨0, [], by omega, by simp, by omega, rfl, rfl, rfl, by simp⟩
 ·rintro q t5 t6 H' ⟨i, l, hi, hll, rfl, rfl, rfl, rfl, ho⟩ hsc hlen hsF Kb hKb
  by_cases hlt : i < s.length
  ·have hdr := List.drop_eq_getElem_cons hlt
   have e9 : ((s[i].toNat : Int) == 9) = (s[i] == 9) := zbP s[i] 9
   have e10 : ((s[i].toNat : Int) == 10) = (s[i] == 10) := zbP s[i] 10
   have e13 : ((s[i].toNat : Int) == 13) = (s[i] == 13) := zbP s[i] 13
   have e32 : ((s[i].toNat : Int) == 32) = (s[i] == 32) := zbP s[i] 32
   have e35 : ((s[i].toNat : Int) == 35) = (s[i] == 35) := zbP s[i] 35
   cases hbl : zcD s[i] with
   | true =>
    rw [hdr, zt3 _ hbl] at ho
    have key : zd3 (.str s) (.sl (l.map Tk.cs) (.own H.length)) (.int .i64 (IntKind.i64.wrap (i + 1))) (H ++ [.perm za2 3 l.length]) (Out H.length K) Kb := by
     simp [zd3]
     rw [zam (by omega) (by omega)]
     refine hKb _ _ ⟨s.length - (i + 1), by omega, Back.here (by simp) (hperm _) ?_ ⟨_, _, rfl, i + 1, l, by omega, by omega, rfl, by simp, rfl, rfl, ho⟩⟩
     simp [zeu, AV.sc, AV.scV, AV.scA, AV.scB]
    unfold zcD at hbl
    cases h9 : (s[i] == 9) <;> cases h10 : (s[i] == 10) <;> cases h13 : (s[i] == 13) <;> cases h32 : (s[i] == 32) <;> simp [h9, h10, h13, h32] at hbl <;> simpa [ziQ, hlt, e9, e10, e13, e32, h9, h10, h13, h32] using key
   | false =>
    have hbl' := hbl
    unfold zcD at hbl'
    simp only [Bool.or_eq_false_iff] at hbl'
    obtain ⟨⟨⟨h9, h10⟩, h13⟩, h32⟩ := hbl'
    have app : ∀ (k : Int) (n : Nat), tok (kwF kwds) s[i] (s.drop (i + 1)) = .ok (k, n) → (s[i] == 35) = false → ∀ t, (s.drop i).take n = t → zgJ (.str s) (.sl (l.map Tk.cs ++ [[.int .i64 k, .str t, .int .i64 i]]) (.own H.length)) (.int .i64 i) (.int .i64 n) (H ++ [.perm za2 3 (l.length + 1)]) (Out H.length K) Kb := by
     intro k n ht hsh t hte
     subst hte
     rw [hdr, zt6 _ hbl hsh ht, zrC, ← hdr] at ho
     have hn := zm9 ht
     rw [← hdr] at hn
     simp at hn
     have hn0 := zna ht
     simp [zgJ, zd3]
     rw [zam (by omega) (by omega)]
     refine hKb _ _ ⟨s.length - (i + n), by omega, Back.here (by simp) (hperm _) ?_ ⟨_, _, rfl, i + n, l ++ [⟨k, (s.drop i).take n, i⟩], by omega, by simp; omega, rfl, by simp, by simp [Tk.cs], by simp, ?_⟩⟩
     ·simp [zeu, AV.sc, AV.scV, AV.scA, AV.scB]
     ·rw [List.drop_drop] at ho; exact ho
    have bad : ∀ e : Int, tok (kwF kwds) s[i] (s.drop (i + 1)) = .error e → (s[i] == 35) = false → Out H.length K (.tup [.snil, .int .i64 i, .int .i64 e]) (H ++ [.perm za2 3 l.length]) := by
     intro e ht hsh
     rw [hdr, zt4 _ hbl hsh ht] at ho
     rw [← ho] at hK
     exact zsY hs hK
    simp [ziQ, hlt, e9, e10, e13, e32, e35, h9, h10, h13, h32]
    cases hsh : (s[i] == 35) with
    | true =>
     simp
     rw [hdr, zt5 _ hbl hsh] at ho
     obtain ⟨c1, c2⟩ := ziw h10 (s.drop (i + 1))
     rw [Nat.add_assoc, ← c1, ← c2, ← hdr] at ho
     refine zCV (Inv := fun q t6 H' => ∃ (j : Nat), i ≤ j ∧ j ≤ s.length ∧ q = s.length - j ∧ t6 = .int .i64 j ∧ H' = H ++ [.perm za2 3 l.length] ∧ cat l (zba (kwF kwds) (zdv (s.drop j)) (j + zdw (s.drop j))) = zba (kwF kwds) s 0) (s.length - i) ?_ ?_
     ·intro _; exact ⟨i, by omega, by omega, by omega, rfl, rfl, ho⟩
     ·rintro q t6 H' ⟨j, hij, hj, rfl, rfl, rfl, ho⟩ hsc hlen hsF Kb9 hKb9
      by_cases hjlt : j < s.length
      ·have hdrj := List.drop_eq_getElem_cons hjlt
       have e10 : ((s[j].toNat : Int) != 10) = !(s[j] == 10) := by rw [← zbP s[j] 10]; rfl
       simp [znr, hjlt, e10]
       cases hz : (s[j] == 10) with
       | true =>
        obtain ⟨d1, d2⟩ := ztL hz (s.drop (j + 1))
        rw [hdrj, d1, d2, ← hdrj, Nat.add_zero] at ho
        have hij' : i ≠ j := by rintro rfl; rw [h10] at hz; cases hz
        simp [zd3]
        refine hKb _ _ ⟨s.length - j, by omega, Back.here (by simp) (hperm _) ?_ ⟨_, _, rfl, j, l, by omega, by omega, rfl, by simp, rfl, rfl, ho⟩⟩
        simp [zeu, AV.sc, AV.scV, AV.scA, AV.scB]
       | false =>
        obtain ⟨d1, d2⟩ := ziw hz (s.drop (j + 1))
        rw [hdrj, d1, d2, ← Nat.add_assoc] at ho
        simp
        rw [zam (by omega) (by omega)]
        refine hKb9 _ _ ⟨s.length - (j + 1), by omega, Back.here (by simp) (hperm _) ?_ ⟨_, rfl, j + 1, by omega, by omega, rfl, by simp, rfl, ho⟩⟩
        simp [ziS, AV.sc, AV.scV, AV.scA, AV.scB]
      ·obtain rfl : j = s.length := by omega
       simp [znr, zd3]
       rw [List.drop_length, skipC_nil.1, skipC_nil.2, Nat.add_zero] at ho
       refine hKb _ _ ⟨0, by omega, Back.here (by simp) (hperm _) ?_ ⟨_, _, rfl, s.length, l, by omega, by omega, by omega, by simp, rfl, rfl, by rw [List.drop_length]; exact ho⟩⟩
       simp [zeu, AV.sc, AV.scV, AV.scA, AV.scB]
    | false =>
     replace app := fun k n h => app k n h hsh
     replace bad := fun e h => bad e h hsh
     simp
     refine zsu _ _ _ ?_
     by_cases hLU : (zbr s[i] || bUp s[i]) = true
     ·have hc : zbr s[i] = true ∨ (zbr s[i] = false ∧ bUp s[i] = true) := by cases hL : zbr s[i] <;> simp [hL] at hLU ⊢; exact hLU
      rcases hc with hL | ⟨hL, hU⟩
      case' inl => simp [hL]
      case' inr => simp [hL]; refine ziI _ _ _ ?_; simp [hU]
      all_goals exact zCK s hl i hlt H l hll hperm K Kb hLU app bad
     ·have hL : zbr s[i] = false := by simp at hLU; exact hLU.1
      have hU : bUp s[i] = false := by simp at hLU; exact hLU.2
      simp [hL]
      refine ziI _ _ _ ?_
      simp [hU]
      refine zlD _ _ _ ?_
      cases hD : zaJ s[i] with
      | true =>
       simp
       exact zAr s hl i hlt H l hll hperm K Kb hLU hD app bad
      | false =>
       simp
       refine ⟨by omega, ?_⟩
       have htk : tok (kwF kwds) s[i] (s.drop (i + 1)) = if sgn (s.drop i) = 0 then .error 2 else .ok (5, sgn (s.drop i)) := by
        simp only [tok, hLU, hD, hdr]
        rfl
       rw [hdr]
       refine zBy _ _ _ _ ?_
       rw [← hdr]
       by_cases hz : sgn (s.drop i) = 0
       ·simp [hz, AV.isV]
        exact bad 2 (by rw [htk, if_pos hz])
       ·have hz' : ((sgn (s.drop i) : Int) == 0) = false := by simpa using hz
        have ht := htk
        rw [if_neg hz] at ht
        have hn := zm9 ht
        rw [← hdr] at hn
        simp at hn
        have := app 5 (sgn (s.drop i)) ht _ rfl
        simp [hz']
        rw [zam (by omega) (by omega)]
        simp [zau, zaH, zay, za8, plain, AV.pd, zat, zaI, zaE, zd5]
        refine ⟨by omega, by omega, by omega, ?_⟩
        rw [show ((i : Int) + (sgn (s.drop i) : Int)).toNat = i + sgn (s.drop i) by omega, ziC]
        exact this
  ·obtain rfl : i = s.length := by omega
   rw [List.drop_length, znb] at ho
   rw [← ho] at hK
   simp [ziQ, zau, zaH, zay, za8, plain, AV.pd, zat, zaI, zaE, AV.isV]
   refine ⟨by omega, ?_⟩
   simp [cat, Tk.cs] at hK
   exact Out.tup hs hK ⟨slV, zaC rfl rfl, zaC rfl rfl, trivial⟩
end Go.Proofs.YtddlhljflggenaaGreatDoor
namespace Go.Proofs.YtddlhljflggenaaGreatDoor
open Go Go.Abs
set_option maxRecDepth 100000
def zdf : Nat → List Bool
 | 5 => rl false [0,1,2,3,115]
 | 12 => rl false [0,1,2,5,113]
 | 18 => rl false [0,1,2,5,85,3,25]
 | _ => []
noncomputable def zpk : Code := Tryz.f44.body.getD .skip
noncomputable def zHV : List ResultVar := Tryz.f44.results.toList
def zj8 (t0 t3 t4 t5 : AV) : List AV := t0 :: ux 2 (t3 :: t4 :: t5 :: ux 115 [])
def zww : List Bool := zdf 5
noncomputable def zpm : Code := zao [1, 1, 1, 0, 1, 0, 0] zpk
def zwr (K : Kt) : AExit → List AV → zaa → Prop := zap tP zdf [1, 1, 1, 0, 1, 0] zpk (zaA tP zHV K)
def zka (t0 t3 t4 t5 : AV) (H : zaa) (K : Kt) : Prop := ALoop tP zpm (zwr K) (zj8 t0 t3 t4 t5) H
def zj6 (t0 t3 t4 t5 t6 t7 : AV) : List AV := t0 :: ux 2 (t3 :: t4 :: t5 :: t6 :: t7 :: ux 113 [])
def zwv : List Bool := zdf 12
noncomputable def zpl : Code := zao [1, 0, 0, 1, 1, 1, 1, 0, 0] zpm
def zwq (K : Kt) (Kb5 : Lt) : AExit → List AV → zaa → Prop := zap tP zdf [1, 0, 0, 1, 1, 1, 1, 0] zpm (zaU zww Kb5 (zwr K))
def zwt (t0 t3 t4 t5 t6 t7 : AV) (H : zaa) (K : Kt) (Kb5 : Lt) : Prop := ALoop tP zpl (zwq K Kb5) (zj6 t0 t3 t4 t5 t6 t7) H
def zj7 (t0 t3 t4 t5 t6 t7 t93 t94 t95 : AV) : List AV := t0 :: ux 2 (t3 :: t4 :: t5 :: t6 :: t7 :: ux 85 (t93 :: t94 :: t95 :: ux 25 []))
def zHT : List Bool := zdf 18
noncomputable def zHP : Code := zao [1, 0, 0, 1, 1, 1, 0, 0] zpl
def zHO (K : Kt) (Kb5 : Lt) (Kb12 : Lt) : AExit → List AV → zaa → Prop := zap tP zdf [1, 0, 0, 1, 1, 1, 0] zpl (zaU zwv Kb12 (zwq K Kb5))
def zwu (t0 t3 t4 t5 t6 t7 t93 t94 t95 : AV) (H : zaa) (K : Kt) (Kb5 : Lt) (Kb12 : Lt) : Prop := ALoop tP zHP (zHO K Kb5 Kb12) (zj7 t0 t3 t4 t5 t6 t7 t93 t94 t95) H
def zws (t0 t3 t4 t5 t6 t7 t93 t94 t95 : AV) (H : zaa) (K : Kt) (Kb5 : Lt) (Kb12 : Lt) (Kb18 : Lt) : Prop :=
 zac .add false t95 (.int .i64 1) fun t112 =>
 Kb18 (zj7 t0 t3 t4 t5 t6 t7 t93 t94 t112) H
def zj9 (t0 t3 t4 t5 t6 t7 t93 t94 t95 : AV) (H : zaa) (K : Kt) (Kb5 : Lt) (Kb12 : Lt) (Kb18 : Lt) : Prop :=
 zws t0 t3 t4 t5 t6 t7 t93 t94 t95 H K Kb5 Kb12 Kb18
def zpj (t0 t3 t4 t5 t6 t7 t93 t94 t95 : AV) (H : zaa) (K : Kt) (Kb5 : Lt) (Kb12 : Lt) (Kb18 : Lt) : Prop :=
 zac .lss false t95 t94 fun t96 =>
 zaf t96
 (zaj 3 t93 t95 fun t97 =>
 zad true 3 t97 H fun t98 =>
 zaz [(.int .i64 0), (.int .i64 0), .snil] H fun t9 H =>
 zal 3 t9 t98 H fun H =>
 zad true 3 t9 H fun t99 =>
 zag 1 t6 fun t101 =>
 zad false 1 t101 H fun t102 =>
 ACalls tP zie [t99, t5, t102] H fun t103 H =>
 zaf t103
 (zj9 t0 t3 t4 t5 t6 t7 t93 t94 t95 H K Kb5 Kb12 Kb18)
 (zae H (fun K' => K' t0 H) fun t104 =>
 zae H (fun K' => K' t5 H) fun t105 =>
 zae H (fun K' => zaK 1 3 t104 none (some t105) (K' · H)) fun t106 =>
 zae H (fun K' => zas true 3 t9 H (K' · H)) fun t107 =>
 zae H (fun K' => zag 1 t6 (K' · H)) fun t108 =>
 zae H (fun K' => zas false 1 t108 H (K' · H)) fun t109 =>
 zbj H (fun H K' => ACalls tP zh7 [t106, t107, t109] H K') fun t110 =>
 zae H (fun K' => aUn .not t110 (K' · H)) fun t111 =>
 zaf t111
 (K (.bool false) H)
 (zj9 t0 t3 t4 t5 t6 t7 t93 t94 t95 H K Kb5 Kb12 Kb18)))
 (zac .add false t7 (.int .i64 1) fun t60 =>
 Kb12 (zj6 t0 t3 t4 t5 t6 t60) H)
def zpi (t0 t3 t4 t5 t6 t7 : AV) (H : zaa) (K : Kt) (Kb5 : Lt) (Kb12 : Lt) : Prop :=
 zag 2 t6 fun t55 =>
 zad false 1 t55 H fun t56 =>
 zah 1 t56 fun t57 =>
 zac .lss false t7 t57 fun t58 =>
 zaf t58
 (zag 2 t6 fun t61 =>
 zad false 1 t61 H fun t62 =>
 zaj 2 t62 t7 fun t64 =>
 zag 0 t64 fun t65 =>
 zad false 1 t65 H fun t66 =>
 ACalls tP zid [t66] H fun t67 H =>
 aUn .not t67 fun t68 =>
 zab t68 false H (fun K' => zag 2 t6 (K' · H)) fun t70 H =>
 zab t68 false H (fun K' => zad false 1 t70 H (K' · H)) fun t71 H =>
 zab t68 false H (fun K' => K' t7 H) fun t72 H =>
 zab t68 false H (fun K' => zaj 2 t71 t72 (K' · H)) fun t73 H =>
 zab t68 false H (fun K' => zag 1 t73 (K' · H)) fun t74 H =>
 zab t68 false H (fun K' => zad false 1 t74 H (K' · H)) fun t75 H =>
 zab t68 false H (fun K' => zah 1 t75 (K' · H)) fun t76 H =>
 zab t68 false H (fun K' => zac .gtr false t76 (.int .i64 6) (K' · H)) fun t77 H =>
 zai t68 (.bool true) t77 fun t78 =>
 zaf t78
 (K (.bool false) H)
 (zag 2 t6 fun t80 =>
 zad false 1 t80 H fun t81 =>
 zaj 2 t81 t7 fun t83 =>
 zag 0 t83 fun t84 =>
 zad false 1 t84 H fun t85 =>
 zay 1 [(.str [])] 1 [(0, t85)] fun t86 =>
 zat zbx 1 16 t4 t86 H fun t87 H =>
 zag 2 t6 fun t88 =>
 zad false 1 t88 H fun t89 =>
 zaj 2 t89 t7 fun t91 =>
 zag 1 t91 fun t92 =>
 zad false 1 t92 H fun t93 =>
 zah 1 t93 fun t94 =>
 zwu t0 t3 t87 t5 t6 t7 t93 t94 (.int .i64 0) H K Kb5 Kb12))
 (zac .add false t5 (.int .i64 1) fun t18 =>
 Kb5 (zj8 t0 t3 t4 t18) H)
def zez (t0 t3 t4 t5 : AV) (H : zaa) (K : Kt) (Kb5 : Lt) : Prop :=
 zah 1 t0 fun t15 =>
 zac .lss false t5 t15 fun t16 =>
 zaf t16
 (zaj 3 t0 t5 fun t21 =>
 zad true 3 t21 H fun t22 =>
 zaz [(.str []), (.int .i64 0), .snil] H fun t6 H =>
 zal 3 t6 t22 H fun H =>
 zag 1 t6 fun t23 =>
 zad false 1 t23 H fun t24 =>
 zac .lss false t24 (.int .i64 0) fun t25 =>
 zab t25 false H (fun K' => zag 1 t6 (K' · H)) fun t27 H =>
 zab t25 false H (fun K' => zad false 1 t27 H (K' · H)) fun t28 H =>
 zab t25 false H (fun K' => zac .gtr false t28 (.int .i64 6) (K' · H)) fun t29 H =>
 zai t25 (.bool true) t29 fun t30 =>
 zab t30 false H (fun K' => zag 2 t6 (K' · H)) fun t32 H =>
 zab t30 false H (fun K' => zad false 1 t32 H (K' · H)) fun t33 H =>
 zab t30 false H (fun K' => zah 1 t33 (K' · H)) fun t34 H =>
 zab t30 false H (fun K' => zac .lss false t34 (.int .i64 1) (K' · H)) fun t35 H =>
 zai t30 (.bool true) t35 fun t36 =>
 zab t36 false H (fun K' => zag 2 t6 (K' · H)) fun t38 H =>
 zab t36 false H (fun K' => zad false 1 t38 H (K' · H)) fun t39 H =>
 zab t36 false H (fun K' => zah 1 t39 (K' · H)) fun t40 H =>
 zab t36 false H (fun K' => zac .gtr false t40 (.int .i64 8) (K' · H)) fun t41 H =>
 zai t36 (.bool true) t41 fun t42 =>
 zab t42 false H (fun K' => zag 0 t6 (K' · H)) fun t44 H =>
 zab t42 false H (fun K' => zad false 1 t44 H (K' · H)) fun t45 H =>
 zab t42 false H (fun K' => ACalls tP zid [t45] H K') fun t46 H =>
 zab t42 false H (fun K' => aUn .not t46 (K' · H)) fun t47 H =>
 zai t42 (.bool true) t47 fun t48 =>
 zaf t48
 (K (.bool false) H)
 (zag 0 t6 fun t50 =>
 zad false 1 t50 H fun t51 =>
 zay 1 [(.str [])] 1 [(0, t51)] fun t52 =>
 zat zbx 1 16 t3 t52 H fun t53 H =>
 zwt t0 t53 t4 t5 t6 (.int .i64 0) H K Kb5))
 (ACalls tP zgp [t3] H fun t114 H =>
 aUn .not t114 fun t115 =>
 zab t115 true H (fun K' => K' t4 H) fun t117 H =>
 zab t115 true H (fun K' => ACalls tP zgp [t117] H K') fun t118 H =>
 zab t115 true H (fun K' => aUn .not t118 (K' · H)) fun t119 H =>
 zai t115 t119 (.bool false) fun t120 =>
 K t120 H)
def zph (t0 : AV) (H : zaa) (K : Kt) : Prop :=
 zah 1 t0 fun t11 =>
 zac .gtr false t11 (.int .i64 12) fun t12 =>
 zaf t12
 (K (.bool false) H)
 (zka t0 .snil .snil (.int .i64 0) H K)
theorem zHR {t0 t3 t4 t5 t6 t7 t93 t94 t95 : AV} {H : zaa} {K : Kt} {Kb5 : Lt} {Kb12 : Lt} (Inv : Nat → AV → zaa → Prop) (n : Nat) (h0 : HSc H → Inv n t95 H)
  (round : Rd1 (fun t95 => zj7 t0 t3 t4 t5 t6 t7 t93 t94 t95) (fun t95 => fun H Kb18 => zpj t0 t3 t4 t5 t6 t7 t93 t94 t95 H K Kb5 Kb12 Kb18) H Inv) : zwu t0 t3 t4 t5 t6 t7 t93 t94 t95 H K Kb5 Kb12 :=
 lp1 (M := zdf) zHT t95 (by kernel_rfl) Inv n h0 round
theorem zHQ {t0 t3 t4 t5 t6 t7 : AV} {H : zaa} {K : Kt} {Kb5 : Lt} (Inv : Nat → AV → AV → zaa → Prop) (n : Nat) (h0 : HSc H → Inv n t4 t7 H)
  (round : Rd2 (fun t4 => fun t7 => zj6 t0 t3 t4 t5 t6 t7) (fun t4 => fun t7 => fun H Kb12 => zpi t0 t3 t4 t5 t6 t7 H K Kb5 Kb12) H Inv) : zwt t0 t3 t4 t5 t6 t7 H K Kb5 :=
 lp2 (M := zdf) zwv t4 t7 (by kernel_rfl) Inv n h0 round
theorem zHS {t0 t3 t4 t5 : AV} {H : zaa} {K : Kt} (Inv : Nat → AV → AV → AV → zaa → Prop) (n : Nat) (h0 : HSc H → Inv n t3 t4 t5 H)
  (round : Rd3 (fun t3 => fun t4 => fun t5 => zj8 t0 t3 t4 t5) (fun t3 => fun t4 => fun t5 => fun H Kb5 => zez t0 t3 t4 t5 H K Kb5) H Inv) : zka t0 t3 t4 t5 H K :=
 lp3 (M := zdf) zww t3 t4 t5 (by kernel_rfl) Inv n h0 round
theorem zHU {t0 : AV} {H : zaa} {K : Kt} (h : HSc H → zph t0 H K) : ACalls tP zmp [t0] H K :=
 zar (M := zdf) Tryz.func44 (c := zpk) (by kernel_rfl) (fun hs => Eq.mpr (by kernel_rfl) (h hs))
def zeD : Nat → List Bool
 | 2 => rl false [0,1,2,1,21]
 | 5 => rl false [0,1,2,2,20]
 | _ => []
noncomputable def zqd : Code := Tryz.f78.body.getD .skip
noncomputable def zKv : List ResultVar := Tryz.f78.results.toList
def zkJ (t0 t3 : AV) : List AV := t0 :: ux 2 (t3 :: ux 21 [])
def zxN : List Bool := zeD 2
noncomputable def zqe : Code := zao [1, 0, 1, 0, 0] zqd
def zxK (K : Kt) : AExit → List AV → zaa → Prop := zap tP zeD [1, 0, 1, 0] zqd (zaA tP zKv K)
def zxL (t0 t3 : AV) (H : zaa) (K : Kt) : Prop := ALoop tP zqe (zxK K) (zkJ t0 t3) H
def zkK (t0 t3 t4 : AV) : List AV := t0 :: ux 2 (t3 :: t4 :: ux 20 [])
def zKt : List Bool := zeD 5
noncomputable def zKq : Code := zao [1, 0, 0, 1, 0, 0] zqe
def zKp (K : Kt) (Kb2 : Lt) : AExit → List AV → zaa → Prop := zap tP zeD [1, 0, 0, 1, 0] zqe (zaU zxN Kb2 (zxK K))
def zxM (t0 t3 t4 : AV) (H : zaa) (K : Kt) (Kb2 : Lt) : Prop := ALoop tP zKq (zKp K Kb2) (zkK t0 t3 t4) H
def zqc (t0 t3 t4 : AV) (H : zaa) (K : Kt) (Kb2 : Lt) (Kb5 : Lt) : Prop :=
 zac .lss false t4 t3 fun t13 =>
 zaf t13
 (zae H (fun K' => K' t0 H) fun t16 =>
 zae H (fun K' => K' t3 H) fun t17 =>
 zae H (fun K' => zaj 1 t16 t17 (K' · H)) fun t18 =>
 zae H (fun K' => zas false 1 t18 H (K' · H)) fun t19 =>
 zae H (fun K' => K' t0 H) fun t20 =>
 zae H (fun K' => K' t4 H) fun t21 =>
 zae H (fun K' => zaj 1 t20 t21 (K' · H)) fun t22 =>
 zae H (fun K' => zas false 1 t22 H (K' · H)) fun t23 =>
 zae H (fun K' => zac .eql false t19 t23 (K' · H)) fun t24 =>
 zaf t24
 (K (.bool true) H)
 (zac .add false t4 (.int .i64 1) fun t15 =>
 Kb5 (zkK t0 t3 t15) H))
 (zac .add false t3 (.int .i64 1) fun t10 =>
 Kb2 (zkJ t0 t10) H)
def zqb (t0 t3 : AV) (H : zaa) (K : Kt) (Kb2 : Lt) : Prop :=
 zah 1 t0 fun t7 =>
 zac .lss false t3 t7 fun t8 =>
 zaf t8
 (zxM t0 t3 (.int .i64 0) H K Kb2)
 (K (.bool false) H)
def zxJ (t0 : AV) (H : zaa) (K : Kt) : Prop :=
 zxL t0 (.int .i64 0) H K
theorem zKs {t0 t3 t4 : AV} {H : zaa} {K : Kt} {Kb2 : Lt} (Inv : Nat → AV → zaa → Prop) (n : Nat) (h0 : HSc H → Inv n t4 H)
  (round : Rd1 (fun t4 => zkK t0 t3 t4) (fun t4 => fun H Kb5 => zqc t0 t3 t4 H K Kb2 Kb5) H Inv) : zxM t0 t3 t4 H K Kb2 :=
 lp1 (M := zeD) zKt t4 (by kernel_rfl) Inv n h0 round
theorem zKr {t0 t3 : AV} {H : zaa} {K : Kt} (Inv : Nat → AV → zaa → Prop) (n : Nat) (h0 : HSc H → Inv n t3 H)
  (round : Rd1 (fun t3 => zkJ t0 t3) (fun t3 => fun H Kb2 => zqb t0 t3 H K Kb2) H Inv) : zxL t0 t3 H K :=
 lp1 (M := zeD) zxN t3 (by kernel_rfl) Inv n h0 round
theorem zKu {t0 : AV} {H : zaa} {K : Kt} (h : HSc H → zxJ t0 H K) : ACalls tP zgp [t0] H K :=
 zar (M := zeD) Tryz.func78 (c := zqd) (by kernel_rfl) (fun hs => Eq.mpr (by kernel_rfl) (h hs))
end Go.Proofs.YtddlhljflggenaaGreatDoor

namespace Go.Proofs.YtddlhljflggenaaGreatDoor
open Go Go.Abs
set_option maxRecDepth 8000
theorem zcz {k : AV → Prop} (a b : AV) (vs : List AV) : zav (.tup (a :: b :: vs)) 1 k = k b := propext Iff.rfl
theorem zcA {k : AV → Prop} (a b c : AV) (vs : List AV) : zav (.tup (a :: b :: c :: vs)) 2 k = k c := propext Iff.rfl
def zes (s : List UInt8) : List Tk × Int × Int :=
 if s.length > 16384 then ([], 0, 9) else
 match zba (kwF kwds) s 0 with
 | .error (p, e) => ([], p, e)
 | .ok l => (l, 0, 0)
theorem ztQ (s : List UInt8) : zdZ s = .tup [.sl ((zes s).1.map Tk.cs) .none, .int .i64 (zes s).2.1, .int .i64 (zes s).2.2] := by
 unfold zdZ zes
 split
 ·rfl
 ·split <;> (rename_i h; simp [h])
def zbz (s : List UInt8) (x : List Tk × Int × Int) : Bool := x.2.2 == 0 && match x.1 with
 | [a, _] => a.kind == 2 && a.text == s
 | _ => false
def zcn (s : List UInt8) : Bool := zbz s (zes s)
theorem zx7 (s : List UInt8) (H : zaa) (K : AV → zaa → Prop) (hK : K (.bool (zcn s)) H) : ACalls tP zij [.str s] H K := by
 refine ACalls.out (zLI fun hs => ?_)
 have hO : Out H.length K (.bool (zcn s)) H := Out.bool (J := []) (by simp) (Nat.le_refl _) hs hK
 simp only [zx6]
 refine zCf s _ _ ?_
 rw [ztQ]
 rw [zcn] at hO
 generalize zes s = x at hO ⊢
 obtain ⟨l, p, e⟩ := x
 clear hK
 cases h0 : e == 0 with
 | false =>
  rw [show zbz s (l, p, e) = false by simp [zbz, h0]] at hO
  simp [zcz, zcA, h0]; exact hO
 | true =>
 match l with
 | [] =>
  rw [show zbz s ([], p, e) = false by simp [zbz]] at hO
  simp [zcz, zcA, h0]; exact hO
 | [x] =>
  rw [show zbz s ([x], p, e) = false by simp [zbz]] at hO
  simp [zcz, zcA, h0]; exact hO
 | [a, x] =>
  rw [show zbz s ([a, x], p, e) = (a.kind == 2 && a.text == s) by simp [zbz, h0]] at hO
  cases hk : a.kind == 2 with
  | false => rw [hk] at hO; simp [zcz, zcA, h0, Tk.cs, hk]; exact hO
  | true => rw [hk] at hO; simp [zcz, zcA, h0, Tk.cs, hk]; exact hO
 | a :: b :: c :: r =>
  rw [show zbz s (a :: b :: c :: r, p, e) = false by simp [zbz]] at hO
  have : ¬ ((r.length : Int) + 1 + 1 + 1 = 2) := by omega
  have h2 : ((r.length : Int) + 1 + 1 + 1 == 2) = false := by simpa using this
  simp [zcz, zcA, h0, h2]; exact hO
theorem zxG (s : List UInt8) (H : zaa) (K : AV → zaa → Prop) (hK : K (.bool (zcn s)) H) : ACalls tP zid [.str s] H K := by
 refine ACalls.out (zKi fun hs => ?_)
 have hO : Out H.length K (.bool (zcn s)) H := Out.bool (J := []) (by simp) (Nat.le_refl _) hs hK
 simp only [zxF]
 refine zCg s _ _ ?_
 rw [ztQ]
 rw [zcn] at hO
 generalize zes s = x at hO ⊢
 obtain ⟨l, p, e⟩ := x
 clear hK
 cases h0 : e == 0 with
 | false =>
  rw [show zbz s (l, p, e) = false by simp [zbz, h0]] at hO
  simp [zcz, zcA, h0]; exact hO
 | true =>
 match l with
 | [] =>
  rw [show zbz s ([], p, e) = false by simp [zbz]] at hO
  simp [zcz, zcA, h0]; exact hO
 | [x] =>
  rw [show zbz s ([x], p, e) = false by simp [zbz]] at hO
  simp [zcz, zcA, h0]; exact hO
 | [a, x] =>
  rw [show zbz s ([a, x], p, e) = (a.kind == 2 && a.text == s) by simp [zbz, h0]] at hO
  cases hk : a.kind == 2 with
  | false => rw [hk] at hO; simp [zcz, zcA, h0, Tk.cs, hk]; exact hO
  | true => rw [hk] at hO; simp [zcz, zcA, h0, Tk.cs, hk]; exact hO
 | a :: b :: c :: r =>
  rw [show zbz s (a :: b :: c :: r, p, e) = false by simp [zbz]] at hO
  have : ¬ ((r.length : Int) + 1 + 1 + 1 = 2) := by omega
  have h2 : ((r.length : Int) + 1 + 1 + 1 == 2) = false := by simpa using this
  simp [zcz, zcA, h0, h2]; exact hO
def zbJ (l : List (List UInt8)) : Bool := !decide l.Nodup
def strs (l : List (List UInt8)) : List (List AV) := l.map fun s => [.str s]
@[simp] theorem zPi (l : List (List UInt8)) : (strs l).length = l.length := by simp [strs]
theorem zCn {l : List (List UInt8)} {i : Nat} (h : i < (strs l).length) : (strs l)[i] = [.str (l[i]'(by simpa using h))] := by simp [strs]
theorem zA4 {l : List (List UInt8)} {i j : Nat} (hi : i < l.length) (hj : j < i) (h : l[i] = l[j]) : zbJ l = true := by
 simp only [zbJ, Bool.not_eq_true', decide_eq_false_iff_not]
 intro hn
 exact (List.pairwise_iff_getElem.mp hn) j i (by omega) hi hj h.symm
theorem zKw (l : List (List UInt8)) (hl : l.length ≤ 1000000) (H : zaa) (K : AV → zaa → Prop) (hK : K (.bool (zbJ l)) H) : ACalls tP zgp [.sl (strs l) .none] H K := by
 refine ACalls.out (zKu fun hs => ?_)
 have hO : Out H.length K (.bool (zbJ l)) H := Out.bool (J := []) (by simp) (Nat.le_refl _) hs hK
 simp [zxJ]
 refine zKr (Inv := fun q t3 H' => ∃ i : Nat, i ≤ l.length ∧ q = l.length - i ∧ t3 = .int .i64 i ∧ (∀ a b (ha : a < i) (hb : b < a) (h' : a < l.length), l[a] ≠ l[b]) ∧ H = H') l.length ?_ ?_
 ·intro _; exact ⟨0, by omega, by omega, rfl, by omega, rfl⟩
 ·rintro q t3 H' ⟨i, hi, rfl, rfl, hne, rfl⟩ hsc hlen hsF Kb hKb
  by_cases hlt : i < l.length
  ·simp [zqb, hlt]
   refine zKs (Inv := fun q t4 H' => ∃ j : Nat, j ≤ i ∧ q = i - j ∧ t4 = .int .i64 j ∧ (∀ b (hb : b < j) (hb' : b < l.length), l[i] ≠ l[b]) ∧ H = H') i ?_ ?_
   ·intro _; exact ⟨0, by omega, by omega, rfl, by omega, rfl⟩
   ·rintro q t4 H' ⟨j, hj, rfl, rfl, hnj, rfl⟩ hsc1 hlen1 hsF1 Kb1 hKb1
    by_cases hjl : j < i
    ·simp [zqc, hjl, hlt, show j < l.length by omega, zCn]
     cases he : l[i] == l[j] with
     | true =>
      rw [zA4 hlt hjl (by simpa using he)] at hO
      simpa using hO
     | false =>
      simp
      rw [zam (by omega) (by omega)]
      refine hKb1 _ _ ⟨i - (j + 1), by omega, Back.at (J := []) (H2 := H) (by simp) (Nat.le_refl _) hs ?_ ⟨_, rfl, j + 1, by omega, rfl, by simp, ?_, rfl⟩⟩
      ·simp [zkK, AV.sc, AV.scV, AV.scA, AV.scB]
      ·intro b hb hb'
       by_cases hbj : b = j
       ·subst hbj; simpa using he
       ·exact hnj b (by omega) hb'
    ·obtain rfl : j = i := by omega
     simp [zqc]
     rw [zam (by omega) (by omega)]
     refine hKb _ _ ⟨l.length - (j + 1), by omega, Back.at (J := []) (H2 := H) (by simp) (Nat.le_refl _) hs ?_ ⟨_, rfl, j + 1, by omega, rfl, by simp, ?_, rfl⟩⟩
     ·simp [zkJ, AV.sc, AV.scV, AV.scA, AV.scB]
     ·intro a b ha hb h'
      by_cases haj : a = j
      ·subst haj; exact hnj b hb (by omega)
      ·exact hne a b (by omega) hb h'
  ·obtain rfl : i = l.length := by omega
   have : zbJ l = false := by
    simp only [zbJ, Bool.not_eq_false', decide_eq_true_eq]
    refine List.pairwise_iff_getElem.mpr fun a b ha hb hab he => ?_
    exact hne b a hb hab hb he.symm
   rw [this] at hO
   simp [zqb]
   exact hO
def zeA : Nat → List Bool
 | 5 => rl false [0,1,2,2,9,2,89]
 | 13 => rl false [0,1,2,3,8,2,60,3,26]
 | _ => []
noncomputable def zpK : Code := Tryz.f56.body.getD .skip
noncomputable def zIT : List ResultVar := Tryz.f56.results.toList
def zkt (t0 t3 t4 t14 t15 : AV) : List AV := t0 :: ux 2 (t3 :: t4 :: ux 9 (t14 :: t15 :: ux 89 []))
def zwU : List Bool := zeA 5
noncomputable def zpL : Code := zao [1, 1, 1, 0, 1, 0, 0] zpK
def zwR (K : Kt) : AExit → List AV → zaa → Prop := zap tP zeA [1, 1, 1, 0, 1, 0] zpK (zaA tP zIT K)
def zwT (t0 t3 t4 t14 t15 : AV) (H : zaa) (K : Kt) : Prop := ALoop tP zpL (zwR K) (zkt t0 t3 t4 t14 t15) H
def zks (t0 t3 t4 t5 t14 t15 t76 t77 t78 : AV) : List AV := t0 :: ux 2 (t3 :: t4 :: t5 :: ux 8 (t14 :: t15 :: ux 60 (t76 :: t77 :: t78 :: ux 26 [])))
def zIR : List Bool := zeA 13
noncomputable def zIO : Code := zao [1, 1, 0, 0, 1, 1, 1, 1, 1, 0, 0] zpL
def zIN (K : Kt) (Kb5 : Lt) : AExit → List AV → zaa → Prop := zap tP zeA [1, 1, 0, 0, 1, 1, 1, 1, 1, 0] zpL (zaU zwU Kb5 (zwR K))
def zwS (t0 t3 t4 t5 t14 t15 t76 t77 t78 : AV) (H : zaa) (K : Kt) (Kb5 : Lt) : Prop := ALoop tP zIO (zIN K Kb5) (zks t0 t3 t4 t5 t14 t15 t76 t77 t78) H
def zpI (t0 t3 t4 t5 t14 t15 t76 t77 t78 : AV) (H : zaa) (K : Kt) (Kb5 : Lt) (Kb13 : Lt) : Prop :=
 zac .lss false t78 t77 fun t79 =>
 zaf t79
 (zaj 2 t76 t78 fun t81 =>
 zad true 2 t81 H fun t82 =>
 zaz [(.str []), .snil] H fun t7 H =>
 zal 2 t7 t82 H fun H =>
 zag 0 t7 fun t83 =>
 zad false 1 t83 H fun t84 =>
 ACalls tP zij [t84] H fun t85 H =>
 aUn .not t85 fun t86 =>
 zab t86 false H (fun K' => K' t4 H) fun t88 H =>
 zab t86 false H (fun K' => zag 0 t7 (K' · H)) fun t89 H =>
 zab t86 false H (fun K' => zad false 1 t89 H (K' · H)) fun t90 H =>
 zab t86 false H (fun K' => zcZ (.bool false) false t88 t90 H (K' · H)) fun t91 H =>
 zai t86 (.bool true) t91 fun t92 =>
 zab t92 false H (fun K' => K' t0 H) fun t94 H =>
 zab t92 false H (fun K' => K' t5 H) fun t95 H =>
 zab t92 false H (fun K' => K' t78 H) fun t96 H =>
 zab t92 false H (fun K' => ACalls tP zmE [t94, t95, t96] H K') fun t97 H =>
 zab t92 false H (fun K' => aUn .not t97 (K' · H)) fun t98 H =>
 zai t92 (.bool true) t98 fun t99 =>
 zaf t99
 (K (.bool false) H)
 (zag 0 t7 fun t101 =>
 zad false 1 t101 H fun t102 =>
 zcp t4 t102 (.bool true) H fun H =>
 zac .add false t78 (.int .i64 1) fun t103 =>
 Kb13 (zks t0 t3 t4 t5 t14 t15 t76 t77 t103) H))
 (zac .add false t15 (.int .i64 1) fun t104 =>
 Kb5 (zkt t0 t3 t4 t14 t104) H)
def zpJ (t0 t3 t4 t14 t15 : AV) (H : zaa) (K : Kt) (Kb5 : Lt) : Prop :=
 zac .lss false t15 t14 fun t16 =>
 zaf t16
 (zaj 3 t0 t15 fun t20 =>
 zag 0 t20 fun t21 =>
 zad false 1 t21 H fun t22 =>
 ACalls tP zij [t22] H fun t23 H =>
 aUn .not t23 fun t24 =>
 zab t24 false H (fun K' => K' t3 H) fun t26 H =>
 zab t24 false H (fun K' => K' t0 H) fun t27 H =>
 zab t24 false H (fun K' => K' t15 H) fun t28 H =>
 zab t24 false H (fun K' => zaj 3 t27 t28 (K' · H)) fun t29 H =>
 zab t24 false H (fun K' => zag 0 t29 (K' · H)) fun t30 H =>
 zab t24 false H (fun K' => zad false 1 t30 H (K' · H)) fun t31 H =>
 zab t24 false H (fun K' => zcZ (.bool false) false t26 t31 H (K' · H)) fun t32 H =>
 zai t24 (.bool true) t32 fun t33 =>
 zab t33 false H (fun K' => K' t0 H) fun t35 H =>
 zab t33 false H (fun K' => K' t15 H) fun t36 H =>
 zab t33 false H (fun K' => zaj 3 t35 t36 (K' · H)) fun t37 H =>
 zab t33 false H (fun K' => zag 1 t37 (K' · H)) fun t38 H =>
 zab t33 false H (fun K' => zad false 1 t38 H (K' · H)) fun t39 H =>
 zab t33 false H (fun K' => zac .lss false t39 (.int .i64 0) (K' · H)) fun t40 H =>
 zai t33 (.bool true) t40 fun t41 =>
 zab t41 false H (fun K' => K' t0 H) fun t43 H =>
 zab t41 false H (fun K' => K' t15 H) fun t44 H =>
 zab t41 false H (fun K' => zaj 3 t43 t44 (K' · H)) fun t45 H =>
 zab t41 false H (fun K' => zag 1 t45 (K' · H)) fun t46 H =>
 zab t41 false H (fun K' => zad false 1 t46 H (K' · H)) fun t47 H =>
 zab t41 false H (fun K' => zac .gtr false t47 (.int .i64 6) (K' · H)) fun t48 H =>
 zai t41 (.bool true) t48 fun t49 =>
 zaf t49
 (K (.bool false) H)
 (zaj 3 t0 t15 fun t53 =>
 zag 0 t53 fun t54 =>
 zad false 1 t54 H fun t55 =>
 zcp t3 t55 (.bool true) H fun H =>
 zaj 3 t0 t15 fun t58 =>
 zag 2 t58 fun t59 =>
 zad false 1 t59 H fun t60 =>
 zah 1 t60 fun t61 =>
 zac .lss false t61 (.int .i64 1) fun t62 =>
 zab t62 false H (fun K' => K' t0 H) fun t64 H =>
 zab t62 false H (fun K' => K' t15 H) fun t65 H =>
 zab t62 false H (fun K' => zaj 3 t64 t65 (K' · H)) fun t66 H =>
 zab t62 false H (fun K' => zag 2 t66 (K' · H)) fun t67 H =>
 zab t62 false H (fun K' => zad false 1 t67 H (K' · H)) fun t68 H =>
 zab t62 false H (fun K' => zah 1 t68 (K' · H)) fun t69 H =>
 zab t62 false H (fun K' => zac .gtr false t69 (.int .i64 8) (K' · H)) fun t70 H =>
 zai t62 (.bool true) t70 fun t71 =>
 zaf t71
 (K (.bool false) H)
 (zaj 3 t0 t15 fun t74 =>
 zag 2 t74 fun t75 =>
 zad false 1 t75 H fun t76 =>
 zah 1 t76 fun t77 =>
 zwS t0 t3 t4 t15 t14 t15 t76 t77 (.int .i64 0) H K Kb5)))
 (K (.bool true) H)
def zpH (t0 : AV) (H : zaa) (K : Kt) : Prop :=
 zah 1 t0 fun t9 =>
 zac .gtr false t9 (.int .i64 12) fun t10 =>
 zaf t10
 (K (.bool false) H)
 (zdF H fun t11 H =>
 zdF H fun t12 H =>
 zah 1 t0 fun t14 =>
 zwT t0 t11 t12 t14 (.int .i64 0) H K)
theorem zIP {t0 t3 t4 t5 t14 t15 t76 t77 t78 : AV} {H : zaa} {K : Kt} {Kb5 : Lt} (Inv : Nat → AV → zaa → Prop) (n : Nat) (h0 : HSc H → Inv n t78 H)
  (round : Rd1 (fun t78 => zks t0 t3 t4 t5 t14 t15 t76 t77 t78) (fun t78 => fun H Kb13 => zpI t0 t3 t4 t5 t14 t15 t76 t77 t78 H K Kb5 Kb13) H Inv) : zwS t0 t3 t4 t5 t14 t15 t76 t77 t78 H K Kb5 :=
 lp1 (M := zeA) zIR t78 (by kernel_rfl) Inv n h0 round
theorem zIQ {t0 t3 t4 t14 t15 : AV} {H : zaa} {K : Kt} (Inv : Nat → AV → zaa → Prop) (n : Nat) (h0 : HSc H → Inv n t15 H)
  (round : Rd1 (fun t15 => zkt t0 t3 t4 t14 t15) (fun t15 => fun H Kb5 => zpJ t0 t3 t4 t14 t15 H K Kb5) H Inv) : zwT t0 t3 t4 t14 t15 H K :=
 lp1 (M := zeA) zwU t15 (by kernel_rfl) Inv n h0 round
theorem zIS {t0 : AV} {H : zaa} {K : Kt} (h : HSc H → zpH t0 H K) : ACalls tP zmr [t0] H K :=
 zar (M := zeA) Tryz.func56 (c := zpK) (by kernel_rfl) (fun hs => Eq.mpr (by kernel_rfl) (h hs))
def zk5 : Nat → List Bool
 | 6 => rl false [0,2,6,1,18,3,29]
 | _ => []
noncomputable def zqG : Code := Tryz.f92.body.getD .skip
noncomputable def zLR : List ResultVar := Tryz.f92.results.toList
def zhl (t0 t1 t8 t27 t28 t29 : AV) : List AV := t0 :: t1 :: ux 6 (t8 :: ux 18 (t27 :: t28 :: t29 :: ux 29 []))
def zLP : List Bool := zk5 6
noncomputable def zLN : Code := zao [1, 1, 1, 1, 0, 1, 0, 0] zqG
def zLM (K : Kt) : AExit → List AV → zaa → Prop := zap tP zk5 [1, 1, 1, 1, 0, 1, 0] zqG (zaA tP zLR K)
def zx9 (t0 t1 t8 t27 t28 t29 : AV) (H : zaa) (K : Kt) : Prop := ALoop tP zLN (zLM K) (zhl t0 t1 t8 t27 t28 t29) H
def zqF (t0 t1 t8 t27 t28 t29 : AV) (H : zaa) (K : Kt) (Kb6 : Lt) : Prop :=
 zac .lss false t29 t28 fun t30 =>
 zaf t30
 (zaj 3 t27 t29 fun t32 =>
 zad true 3 t32 H fun t33 =>
 zaz [(.int .i64 0), (.int .i64 0), .snil] H fun t10 H =>
 zal 3 t10 t33 H fun H =>
 zae H (fun K' => K' t0 H) fun t34 =>
 zae H (fun K' => K' t1 H) fun t35 =>
 zae H (fun K' => zac .add false t35 (.int .i64 1) (K' · H)) fun t36 =>
 zae H (fun K' => zaK 1 3 t34 none (some t36) (K' · H)) fun t37 =>
 zae H (fun K' => zas true 3 t10 H (K' · H)) fun t38 =>
 zae H (fun K' => K' t0 H) fun t39 =>
 zae H (fun K' => K' t1 H) fun t40 =>
 zae H (fun K' => zaj 3 t39 t40 (K' · H)) fun t41 =>
 zae H (fun K' => zag 1 t41 (K' · H)) fun t42 =>
 zae H (fun K' => zas false 1 t42 H (K' · H)) fun t43 =>
 zbj H (fun H K' => ACalls tP zgj [t37, t38, t43] H K') fun t44 =>
 zae H (fun K' => aUn .not t44 (K' · H)) fun t45 =>
 zae H (fun K' => K' t45 H) fun t46 =>
 zab t46 false H (fun K' => zae H (fun K'' => K'' t8 H) (K' · H)) fun t47 H =>
 zab t46 false H (fun K' => zae H (fun K'' => K'' t29 H) (K' · H)) fun t48 H =>
 zab t46 false H (fun K' => zae H (fun K'' => zaj 1 t47 t48 (K'' · H)) (K' · H)) fun t49 H =>
 zab t46 false H (fun K' => zae H (fun K'' => zas false 1 t49 H (K'' · H)) (K' · H)) fun t50 H =>
 zab t46 false H (fun K' => zae H (fun K'' => aUn .not t50 (K'' · H)) (K' · H)) fun t51 H =>
 zab t46 false H (fun K' => zae H (fun K'' => K'' t51 H) (K' · H)) fun t52 H =>
 zab t52 true H (fun K' => zae H (fun K'' => zas true 3 t10 H (K'' · H)) (K' · H)) fun t53 H =>
 zab t52 true H (fun K' => zae H (fun K'' => K'' t1 H) (K' · H)) fun t54 H =>
 zab t52 true H (fun K' => zbj H (fun H K'' => ACalls tP zhS [t53, t54] H K'') (K' · H)) fun t55 H =>
 zab t46 false H (fun K' => zae H (fun K'' => zai t52 t55 (.bool false) (K'' · H)) (K' · H)) fun t56 H =>
 zae H (fun K' => zai t46 (.bool true) t56 (K' · H)) fun t57 =>
 zaf t57
 (K (.bool false) H)
 (zac .add false t29 (.int .i64 1) fun t58 =>
 Kb6 (zhl t0 t1 t8 t27 t28 t58) H))
 (K (.bool true) H)
def zx8 (t0 t1 t2 : AV) (H : zaa) (K : Kt) : Prop :=
 zaj 3 t0 t1 fun t13 =>
 zag 2 t13 fun t14 =>
 zad false 1 t14 H fun t15 =>
 zaj 2 t15 t2 fun t17 =>
 zag 1 t17 fun t18 =>
 zad false 1 t18 H fun t19 =>
 zah 1 t19 fun t21 =>
 zac .gtr false t21 (.int .i64 6) fun t22 =>
 zaf t22
 (K (.bool false) H)
 (ACalls tP zgs [t0, t1, t2] H fun t26 H =>
 zah 1 t19 fun t28 =>
 zx9 t0 t1 t26 t19 t28 (.int .i64 0) H K)
theorem zLO {t0 t1 t8 t27 t28 t29 : AV} {H : zaa} {K : Kt} (Inv : Nat → AV → zaa → Prop) (n : Nat) (h0 : HSc H → Inv n t29 H)
  (round : Rd1 (fun t29 => zhl t0 t1 t8 t27 t28 t29) (fun t29 => fun H Kb6 => zqF t0 t1 t8 t27 t28 t29 H K Kb6) H Inv) : zx9 t0 t1 t8 t27 t28 t29 H K :=
 lp1 (M := zk5) zLP t29 (by kernel_rfl) Inv n h0 round
theorem zLQ {t0 t1 t2 : AV} {H : zaa} {K : Kt} (h : HSc H → zx8 t0 t1 t2 H K) : ACalls tP zmE [t0, t1, t2] H K :=
 zar (M := zk5) Tryz.func92 (c := zqG) (by kernel_rfl) (fun hs => Eq.mpr (by kernel_rfl) (h hs))
end Go.Proofs.YtddlhljflggenaaGreatDoor

namespace Go.Proofs.YtddlhljflggenaaGreatDoor
open Go Go.Abs
set_option maxRecDepth 8000
def zc1 (data : List Dat) (d : Nat) (vars : Int) (t : VT) : Bool := zaT (data.take (d + 1)) vars t && (zbB d vars t || !zbO d t)
theorem zLS (data : List Dat) (d : Nat) (c : Nat) (hd : d < data.length) (hc : c < (data[d]).cons.length) (hl : data.length ≤ 1000000) (hcl : (data[d]).cons.length ≤ 1000000) (hal : ((data[d]).cons[c]).args.length ≤ 1000000)
  (hb : ∀ x ∈ ((data[d]).cons[c]).args, x.nodes ≤ 1000000) (H : zaa) (K : AV → zaa → Prop)
  (hK : K (.bool (decide (((data[d]).cons[c]).args.length ≤ 6) && ((data[d]).cons[c]).args.all (zc1 data d (data[d]).vars))) H) :
  ACalls tP zmE [.sl (data.map Dat.cs) .none, .int .i64 d, .int .i64 c] H K := by
 refine ACalls.out (zLQ fun hs => ?_)
 have e1 : (data.map Dat.cs)[d]? = some (data[d]).cs := by simp [hd]
 have e2 : ((data[d]).cons.map Con.cs)[c]? = some ((data[d]).cons[c]).cs := by simp [hc]
 have hrec := zx1 data d c hd hc hl hcl hal hb
 generalize hD : data[d] = D at *
 generalize hA : D.cons[c] = C at *
 have hO : ∀ J, Out H.length K (.bool (decide (C.args.length ≤ 6) && C.args.all (zc1 data d D.vars))) (H ++ J) := fun J => Out.bool rfl (Nat.le_refl _) hs hK
 simp [zx8, e1, e2, Dat.cs, Con.cs, hd, hD, hc, hA]
 by_cases h6 : C.args.length ≤ 6
 ·have h6' : ¬ (6 : Int) < C.args.length := by omega
  have h6'' : ¬ 6 < C.args.length := by omega
  simp [h6', h6'']
  refine hrec _ _ ?_
  simp [h6] at hO
  refine zLO (Inv := fun q t29 H' => ∃ i : Nat, i ≤ C.args.length ∧ q = C.args.length - i ∧ t29 = .int .i64 i ∧ (C.args.drop i).all (zc1 data d D.vars) = C.args.all (zc1 data d D.vars) ∧ H = H') C.args.length ?_ ?_
  ·intro _; exact ⟨0, by omega, by omega, rfl, by simp, rfl⟩
  ·rintro q t29 H' ⟨i, hi, rfl, rfl, ho, rfl⟩ hsc hlen hsF Kb hKb
   by_cases hlt : i < C.args.length
   ·rw [List.drop_eq_getElem_cons hlt, List.all_cons] at ho
    have hnb := hb _ (List.getElem_mem hlt)
    obtain ⟨x1, x2, x3, hvx, hx1, hx2, hx3⟩ := zaX C.args[i]
    simp [zqF, hlt, hvx, e1, hd, hD, Dat.cs]
    refine ⟨⟨hx1, hx2, hx3⟩, ?_⟩
    rw [zam (by omega) (by omega), show ((d : Int) + 1).toNat = d + 1 by omega, ← List.map_take]
    refine ⟨by omega, by omega, ?_⟩
    rw [← hvx]
    refine zbH (.bool (zaT (data.take (d + 1)) D.vars C.args[i])) (fun J => zv1 (data.take (d + 1)) D.vars _ (by omega) _ _ ⟨rfl, rfl⟩) ?_
    have hao : zc1 data d D.vars C.args[i] = (zaT (data.take (d + 1)) D.vars C.args[i] && (zbB d D.vars C.args[i] || !zbO d C.args[i])) := rfl
    rw [hao] at ho
    cases hv : zaT (data.take (d + 1)) D.vars C.args[i] with
    | false =>
     rw [hv] at ho
     simp only [Bool.false_and] at ho
     rw [← ho] at hO
     simp; exact hO _
    | true =>
    rw [hv] at ho
    cases hsf : zbB d D.vars C.args[i] with
    | true =>
     rw [hsf] at ho
     simp [hlt, hsf]
     rw [zam (by omega) (by omega)]
     refine hKb _ _ ⟨C.args.length - (i + 1), by omega, Back.same (by simp) hs ?_ ⟨_, rfl, i + 1, by omega, rfl, by simp, by simpa using ho, rfl⟩⟩
     simp [zhl, AV.sc, AV.scV, AV.scA, AV.scB]
    | false =>
     rw [hsf] at ho
     simp [hlt, hsf]
     refine zbH (.bool (zbO d C.args[i])) (fun J => zDM d _ _ (Nat.le_refl _) (by omega) _ _ ⟨rfl, rfl⟩) ?_
     cases hm : zbO d C.args[i] with
     | true =>
      rw [hm] at ho
      simp only [Bool.not_true, Bool.or_false, Bool.and_false, Bool.false_and] at ho
      rw [← ho] at hO
      simp; exact hO _
     | false =>
      rw [hm] at ho
      simp
      rw [zam (by omega) (by omega)]
      refine hKb _ _ ⟨C.args.length - (i + 1), by omega, Back.same (by simp) hs ?_ ⟨_, rfl, i + 1, by omega, rfl, by simp, by simpa using ho, rfl⟩⟩
      simp [zhl, AV.sc, AV.scV, AV.scA, AV.scB]
   ·obtain rfl : i = C.args.length := by omega
    rw [List.drop_length, List.all_nil] at ho
    rw [← ho] at hO
    simp [zqF]
    simpa using hO []
 ·have h6' : (6 : Int) < C.args.length := by omega
  have h6'' : 6 < C.args.length := by omega
  simp [h6', h6'']
  simp [h6] at hO
  simpa using hO []
end Go.Proofs.YtddlhljflggenaaGreatDoor
namespace Go.Proofs.YtddlhljflggenaaGreatDoor
open Go Go.Abs
set_option maxRecDepth 8000
def zbu (l : List (List UInt8)) : List (List UInt8 × AV) := l.map fun s => (s, .bool true)
theorem zer (s : List UInt8) : ∀ l : List (List UInt8), (zbF (zbu l) s).getD (.bool false) = .bool (decide (s ∈ l))
 | [] => by simp [zbu, zbF]
 | a :: l => by
  have := zer s l
  cases h : a == s with
  | true =>
   have h' : a = s := by simpa using h
   simp [zbu, zbF, h, h']
  | false =>
   have h' : a ≠ s := by simpa using h
   have h'' : s ≠ a := fun e => h' e.symm
   simp only [zbu, List.map_cons, zbF, h] at this ⊢
   rw [this]; simp [h'']
theorem zmX (s : List UInt8) : ∀ l : List (List UInt8), s ∉ l → zcF (zbu l) s (.bool true) = zbu (l ++ [s])
 | [], _ => rfl
 | a :: l, h => by
  have h1 : (a == s) = false := by simp at h; simpa using fun e => h.1 e.symm
  have := zmX s l (by simp at h; exact h.2)
  simp only [zbu, List.map_cons, zcF, h1, List.cons_append] at this ⊢
  rw [this]
theorem zBm (m : Nat) (l : List (List UInt8)) : (AB.map (zbu l)).sc m = true := by simp [AB.sc, zbu, AV.scV]
def za6 (data : List Dat) : List (List UInt8) := data.map Dat.name
def zaF (data : List Dat) : List (List UInt8) := data.flatMap fun D => D.cons.map Con.name
def zcE (data : List Dat) (d : Nat) (vars : Int) (c : Con) : Bool := zcn c.name && (decide (c.args.length ≤ 6) && c.args.all (zc1 data d vars))
def zb1 (data : List Dat) (d : Nat) (D : Dat) : Bool := zcn D.name && decide (0 ≤ D.vars) && decide (D.vars ≤ 6) && decide (1 ≤ D.cons.length) && decide (D.cons.length ≤ 8) && D.cons.all (zcE data d D.vars)
def zcf (data : List Dat) : List Dat → Nat → Bool
 | [], _ => true
 | D :: l, d => zb1 data d D && zcf data l (d + 1)
def zbd (data : List Dat) : Bool := decide (data.length ≤ 12) && zcf data data 0 && !zbJ (za6 data) && !zbJ (zaF data)
theorem ztm {A R : List (List UInt8)} {s : List UInt8} (h : s ∈ A) : zbJ (A ++ s :: R) = true := by
 simp only [zbJ, Bool.not_eq_true', decide_eq_false_iff_not, List.nodup_append]
 rintro ⟨_, _, h3⟩
 exact h3 s h s (by simp) rfl
theorem zmR {l : List (List UInt8)} (h : l.Nodup) : zbJ l = false := by simp [zbJ, h]
theorem zsQ {A : List (List UInt8)} {s : List UInt8} (h : A.Nodup) (hs : s ∉ A) : (A ++ [s]).Nodup := by
 rw [List.nodup_append]
 refine ⟨h, by simp, ?_⟩
 intro a ha b hb
 simp at hb; subst hb
 exact fun e => hs (e ▸ ha)
def zfF (data : List Dat) : Prop := ∀ D ∈ data, D.cons.length ≤ 1000000 ∧ ∀ c ∈ D.cons, c.args.length ≤ 1000000 ∧ ∀ x ∈ c.args, x.nodes ≤ 1000000
theorem zIU (data : List Dat) (hB : zfF data) (hl : data.length ≤ 1000000) (H : zaa) (K : AV → zaa → Prop) (hK : K (.bool (zbd data)) H) : ACalls tP zmr [.sl (data.map Dat.cs) .none] H K := by
 refine ACalls.out (zIS fun hs => ?_)
 have hO : ∀ J, Out H.length K (.bool (zbd data)) (H ++ J) := fun J => Out.bool rfl (Nat.le_refl _) hs hK
 by_cases h12 : data.length ≤ 12
 ·have h12' : ¬ (12 : Int) < data.length := by omega
  have h12'' : ¬ 12 < data.length := by omega
  have hD0 : zcf data data 0 = false → ∀ J, Out H.length K (.bool false) (H ++ J) := fun h J => by
   have := hO J; rwa [show zbd data = false by simp [zbd, h]] at this
  have hD1 : zbJ (za6 data) = true → ∀ J, Out H.length K (.bool false) (H ++ J) := fun h J => by
   have := hO J; rwa [show zbd data = false by simp [zbd, h]] at this
  have hD2 : zbJ (zaF data) = true → ∀ J, Out H.length K (.bool false) (H ++ J) := fun h J => by
   have := hO J; rwa [show zbd data = false by simp [zbd, h]] at this
  simp [zpH, h12', h12'']
  refine zIQ (Inv := fun q t15 H' => ∃ i : Nat, i ≤ data.length ∧ q = data.length - i ∧ t15 = .int .i64 i ∧ zcf data (data.drop i) i = zcf data data 0 ∧ (za6 (data.take i)).Nodup ∧ (zaF (data.take i)).Nodup ∧ H' = H ++ [.map (zbu (za6 (data.take i))), .map (zbu (zaF (data.take i)))]) data.length ?_ ?_
  ·intro _; exact ⟨0, by omega, by omega, rfl, by simp, by simp [za6], by simp [zaF], by simp [za6, zaF, zbu]⟩
  ·rintro q t15 H' ⟨i, hi, rfl, rfl, ho, hdn, hcn, rfl⟩ hsc hlen hsF Kb hKb
   by_cases hlt : i < data.length
   ·have e1 : (data.map Dat.cs)[i]? = some (data[i]).cs := by simp [hlt]
    obtain ⟨hB1, hB2⟩ := hB _ (List.getElem_mem hlt)
    have hargs := fun c hc => zLS data i c hlt hc hl hB1 (hB2 _ (List.getElem_mem hc)).1 (hB2 _ (List.getElem_mem hc)).2
    rw [List.drop_eq_getElem_cons hlt, zcf] at ho
    have htk : data.take (i + 1) = data.take i ++ [data[i]] := by rw [List.take_append_getElem hlt]
    have hsplit : data = data.take i ++ data[i] :: data.drop (i + 1) := by rw [List.getElem_cons_drop, List.take_append_drop]
    generalize hD : data[i] = D at *
    have hbad : zb1 data i D = false → zcf data data 0 = false := fun h => by rw [← ho, h, Bool.false_and]
    have hno : ∀ J, zb1 data i D = false → Out H.length K (.bool false) (H ++ [.map (zbu (za6 (data.take i))), .map (zbu (zaF (data.take i)))] ++ J) := fun J h => by
     rw [List.append_assoc]; exact hD0 (hbad h) _
    simp [zpJ, hlt, e1, hD, Dat.cs]
    refine zx7 _ _ _ ?_
    cases hu : zcn D.name with
    | false => simp; exact hD0 (hbad (by simp [zb1, hu])) _
    | true =>
    by_cases hmem : D.name ∈ za6 (data.take i)
    ·simp [hlt, e1, hD, Dat.cs, zer, hmem]
     refine hD1 ?_ _
     rw [hsplit]; simp only [za6, List.map_append, List.map_cons]
     exact ztm hmem
    by_cases hv0 : D.vars < 0
    ·simp [hlt, e1, hD, Dat.cs, zer, hmem, hv0]
     exact hD0 (hbad (by simp [zb1, show ¬ 0 ≤ D.vars by omega])) _
    by_cases hv6 : 6 < D.vars
    ·simp [hlt, e1, hD, Dat.cs, zer, hmem, hv0, hv6]
     exact hD0 (hbad (by simp [zb1, show ¬ D.vars ≤ 6 by omega])) _
    simp [hlt, e1, hD, Dat.cs, zer, hmem, hv0, hv6, zmX _ _ hmem]
    by_cases hc1 : D.cons.length < 1
    ·have hc1' : (D.cons.length : Int) < 1 := by omega
     simp [hc1']
     exact hD0 (hbad (by simp [zb1, show ¬ 1 ≤ D.cons.length by omega])) _
    have hc1' : ¬ (D.cons.length : Int) < 1 := by omega
    by_cases hc8 : 8 < D.cons.length
    ·have hc8' : (8 : Int) < D.cons.length := by omega
     simp [hlt, e1, hD, Dat.cs, hc1', hc8', hc8]
     exact hD0 (hbad (by simp [zb1, show ¬ D.cons.length ≤ 8 by omega])) _
    have hc8' : ¬ (8 : Int) < D.cons.length := by omega
    have hdat : zb1 data i D = D.cons.all (zcE data i D.vars) := by
     simp [zb1, hu, show 0 ≤ D.vars by omega, show D.vars ≤ 6 by omega, show 1 ≤ D.cons.length by omega, show D.cons.length ≤ 8 by omega]
    simp [hlt, e1, hD, Dat.cs, hc1', hc8', hc8]
    have hdn' : (za6 (data.take (i + 1))).Nodup := by
     rw [htk]; simp only [za6, List.map_append, List.map_cons, List.map_nil]; exact zsQ hdn hmem
    have hde : za6 (data.take i) ++ [D.name] = za6 (data.take (i + 1)) := by rw [htk]; simp [za6]
    rw [hde]
    refine zIP (Inv := fun q t78 H' => ∃ j : Nat, j ≤ D.cons.length ∧ q = D.cons.length - j ∧ t78 = .int .i64 j ∧ (D.cons.drop j).all (zcE data i D.vars) = D.cons.all (zcE data i D.vars) ∧ (zaF (data.take i) ++ (D.cons.take j).map Con.name).Nodup ∧ H' = H ++ [.map (zbu (za6 (data.take (i + 1)))), .map (zbu (zaF (data.take i) ++ (D.cons.take j).map Con.name))]) D.cons.length ?_ ?_
    ·intro _; exact ⟨0, by omega, by omega, rfl, by simp, by simpa using hcn, by simp⟩
    ·rintro q t78 H' ⟨j, hj, rfl, rfl, hoc, hcj, rfl⟩ hsc1 hlen1 hsF1 Kb1 hKb1
     have hscH : ∀ A B, HSc (H ++ [.map (zbu A), .map (zbu B)]) := fun A B => hs.append (by simp [zBm])
     by_cases hjl : j < D.cons.length
     ·have e2 : (D.cons.map Con.cs)[j]? = some (D.cons[j]).cs := by simp [hjl]
      have hargs' := hargs j hjl
      rw [List.drop_eq_getElem_cons hjl, List.all_cons] at hoc
      have htj : zaF (data.take i) ++ (D.cons.take (j + 1)).map Con.name = (zaF (data.take i) ++ (D.cons.take j).map Con.name) ++ [(D.cons[j]).name] := by
       rw [← List.take_append_getElem hjl, List.map_append, List.append_assoc]; rfl
      have hcs : zaF data = (zaF (data.take i) ++ (D.cons.take j).map Con.name) ++ (D.cons[j]).name :: ((D.cons.drop (j + 1)).map Con.name ++ zaF (data.drop (i + 1))) := by
       have h1 : D.cons.map Con.name = (D.cons.take j).map Con.name ++ (D.cons[j]).name :: (D.cons.drop (j + 1)).map Con.name := by
        rw [← List.map_cons (f := Con.name), List.getElem_cons_drop, ← List.map_append, List.take_append_drop]
       conv => lhs; rw [hsplit]
       simp only [zaF, List.flatMap_append, List.flatMap_cons, List.append_assoc, h1, List.cons_append]
      generalize hC : D.cons[j] = C at *
      have hbad' : zcE data i D.vars C = false → zcf data data 0 = false := fun h => hbad (by rw [hdat, ← hoc, h, Bool.false_and])
      generalize hA : zaF (data.take i) ++ (D.cons.take j).map Con.name = A at *
      simp only [zpI]
      simp [hjl, hC, Con.cs, Nat.add_assoc]
      refine zx7 _ _ _ ?_
      cases hu2 : zcn C.name with
      | false => simp; exact hD0 (hbad' (by simp [zcE, hu2])) _
      | true =>
      by_cases hm2 : C.name ∈ A
      ·simp [zer, hm2]
       exact hD2 (by rw [hcs]; exact ztm hm2) _
      ·simp [zer, hm2]
       refine hargs' _ _ ?_
       have hce : zcE data i D.vars C = (decide (C.args.length ≤ 6) && C.args.all (zc1 data i D.vars)) := by simp [zcE, hu2]
       rw [← hce]
       cases hco : zcE data i D.vars C with
       | false => simp; exact hD0 (hbad' hco) _
       | true =>
        rw [hco, Bool.true_and] at hoc
        simp [zmX _ _ hm2]
        rw [zam (by omega) (by omega)]
        refine hKb1 _ _ ⟨D.cons.length - (j + 1), by omega, Back.at (J := [.cells [.str C.name, .sl (VT.css C.args) .none]]) (H2 := H ++ [.map (zbu (za6 (data.take (i + 1)))), .map (zbu (A ++ [C.name]))]) (by simp) (by simp) (hscH _ _) ?_ ⟨_, rfl, j + 1, by omega, rfl, by simp, hoc, ?_, ?_⟩⟩
        ·simp [zks, AV.sc, AV.scV, AV.scA, AV.scB]
        ·rw [htj]; exact zsQ hcj hm2
        ·rw [htj]
     ·obtain rfl : j = D.cons.length := by omega
      rw [List.drop_length, List.all_nil] at hoc
      rw [List.take_length] at *
      simp [zpI]
      rw [zam (by omega) (by omega)]
      have hce : zaF (data.take i) ++ D.cons.map Con.name = zaF (data.take (i + 1)) := by rw [htk]; simp [zaF]
      rw [hce] at hcj ⊢
      refine hKb _ _ ⟨data.length - (i + 1), by omega, Back.at (J := []) (by simp) (by simp) (hscH _ _) ?_ ⟨_, rfl, i + 1, by omega, rfl, by simp, ?_, hdn', hcj, rfl⟩⟩
      ·simp [zkt, AV.sc, AV.scV, AV.scA, AV.scB]
      ·rw [← ho, hdat, ← hoc, Bool.true_and]
   ·obtain rfl : i = data.length := by omega
    rw [List.drop_length, zcf] at ho
    rw [List.take_length] at *
    simp [zpJ]
    have := hO [.map (zbu (za6 data)), .map (zbu (zaF data))]
    rwa [show zbd data = true by simp [zbd, h12, ← ho, zmR hdn, zmR hcn]] at this
 ·have h12' : (12 : Int) < data.length := by omega
  have h12'' : 12 < data.length := by omega
  rw [show zbd data = false by simp [zbd, h12]] at hO
  simp [zpH, h12', h12'']
  simpa using hO []
def zqI (c : Con) : Prop := c.name.length ≤ 40 ∧ c.args.length ≤ 8 ∧ ∀ t ∈ c.args, t.nodes ≤ 20
def zk7 (d : Dat) : Prop := d.name.length ≤ 40 ∧ d.cons.length ≤ 10 ∧ ∀ c ∈ d.cons, zqI c
def zaP (ds : List Dat) : Prop := ds.length ≤ 14 ∧ ∀ d ∈ ds, zk7 d
theorem zf9 {α : Type} {l : List α} {i : Nat} (h : i < l.length) {p : α → Prop} (h1 : ∀ x ∈ l.take i, p x) (h2 : p l[i]) : ∀ x ∈ l.take (i + 1), p x := by
 rw [List.take_succ_eq_append_getElem h]
 intro x hx
 rcases List.mem_append.1 hx with hx | hx
 ·exact h1 x hx
 ·simp at hx; subst hx; exact h2
theorem zsy {α : Type} {cs : α → List AV} {l : List α} {i : Nat} (h : i < l.length) : (l.map cs)[i]?.getD [] = cs l[i] := by simp [h]
theorem vt3 (v : VT) : ∃ a b c, v.cs = [a, b, c] ∧ a.known = true ∧ b.known = true ∧ c.known = true := by
 obtain ⟨k, n, ks⟩ := v; exact ⟨_, _, _, rfl, rfl, rfl, rfl⟩
theorem zFo (ds : List Dat) (H : zaa) (K : AV → zaa → Prop) (hlen : ds.length ≤ 9223372036854775807) (hK : ∀ b, (b = true → zaP ds) → K (.bool b) H) : ACalls tP zme [.sl (ds.map Dat.cs) .none] H K := by
 refine ACalls.out (zFm fun hs => ?_)
 have hF : ∀ J, Out H.length K (.bool false) (H ++ J) := fun J => Out.bool rfl (Nat.le_refl _) hs (hK false fun h => by cases h)
 have hF0 : Out H.length K (.bool false) H := by simpa using hF []
 by_cases h14 : ds.length > 14
 ·have : (14 : Int) < ds.length := by omega
  simp [zn3, this]
  exact hF0
 have : ¬ (14 : Int) < ds.length := by omega
 simp [zn3, this]
 refine zFj (Inv := fun q t15 H' => ∃ i : Nat, i ≤ ds.length ∧ q = ds.length - i ∧ t15 = .int .i64 i ∧ (∀ d ∈ ds.take i, zk7 d) ∧ H = H') ds.length ?_ ?_
 ·intro _; exact ⟨0, by omega, by omega, rfl, by simp, rfl⟩
 ·rintro q t15 H' ⟨i, hi, rfl, rfl, ha, rfl⟩ hsc hl hsF Kb4 hKb4
  by_cases hil : i < ds.length
  ·have hat : (ds.map Dat.cs)[i]?.getD [] = [.str ds[i].name, .int .i64 ds[i].vars, .sl (ds[i].cons.map Con.cs) .none] := zsy hil
   have next : zk7 ds[i] → ∀ J, Kb4 (zgN (.sl (ds.map Dat.cs) .none) (.int .i64 ds.length) (.int .i64 (i + 1))) (H ++ J) := by
    intro hd J
    refine hKb4 _ _ ⟨ds.length - (i + 1), by omega, Back.same (Nat.le_refl _) hs ?_ ⟨_, rfl, i + 1, by omega, rfl, by simp, zf9 hil ha hd, rfl⟩⟩
    simp [zgN, AV.sc, AV.scV, AV.scA, AV.scB]
   generalize hdd : ds[i] = d at *
   simp [zn5, hil, hat, AV.known, hdd, Dat.cs]
   by_cases hn : d.name.length > 40
   ·have : (40 : Int) < d.name.length := by omega
    simp [this]
    exact hF _
   have hn' : ¬ (40 : Int) < d.name.length := by omega
   by_cases hc : d.cons.length > 10
   ·have : (10 : Int) < d.cons.length := by omega
    simp [hn', this]
    exact hF _
   have hc' : ¬ (10 : Int) < d.cons.length := by omega
   simp [hn', hc']
   refine zFk (Inv := fun q t32 H' => ∃ j : Nat, j ≤ d.cons.length ∧ q = d.cons.length - j ∧ t32 = .int .i64 j ∧ (∀ c ∈ d.cons.take j, zqI c) ∧ H' = H ++ [.cells [.str d.name, .int .i64 d.vars, .sl (d.cons.map Con.cs) .none]]) d.cons.length ?_ ?_
   ·intro _; exact ⟨0, by omega, by omega, rfl, by simp, rfl⟩
   ·rintro q t32 H' ⟨j, hj, rfl, rfl, hb, rfl⟩ hsc9 hl9 hsF9 Kb9 hKb9
    by_cases hjl : j < d.cons.length
    ·have hat : (d.cons.map Con.cs)[j]?.getD [] = [.str d.cons[j].name, .sl (VT.css d.cons[j].args) .none] := zsy hjl
     generalize hcc : d.cons[j] = c at *
     simp [zn6, hjl, hat, AV.known, hcc, Con.cs]
     by_cases hn : c.name.length > 40
     ·have : (40 : Int) < c.name.length := by omega
      simp [this]
      exact hF _
     have hn' : ¬ (40 : Int) < c.name.length := by omega
     by_cases hc : c.args.length > 8
     ·have : (8 : Int) < c.args.length := by omega
      simp [hn', this]
      exact hF _
     have hc' : ¬ (8 : Int) < c.args.length := by omega
     simp [hn', hc']
     refine zFi (Inv := fun q t49 H' => ∃ (k : Nat) (l : Int), k ≤ c.args.length ∧ q = c.args.length - k ∧ t49 = .int .i64 k ∧ -1 ≤ l ∧ l ≤ 20 ∧ (∀ t ∈ c.args.take k, t.nodes ≤ 20) ∧ H' = H ++ [.cells [.str d.name, .int .i64 d.vars, .sl (d.cons.map Con.cs) .none], .cells [.str c.name, .sl (VT.css c.args) .none], .cells [.int .i64 l]]) c.args.length ?_ ?_
     ·intro _; exact ⟨0, 20, by omega, by omega, rfl, by omega, by omega, by simp, rfl⟩
     ·rintro q t49 H' ⟨k, l, hk, rfl, rfl, hl0, hl1, hb15, rfl⟩ hsc15 hl15 hsF15 Kb15 hKb15
      by_cases hkl : k < c.args.length
      ·obtain ⟨x, y, z, hv, hx, hy, hz⟩ := vt3 c.args[k]
       simp [zn4, hkl, hv, hx, hy, hz]
       rw [← hv]
       refine zvY _ _ (Nat.le_refl _) l (by omega) hl0 _ (H.length + 2) (by simp) _ ?_ ?_
       ·intro hle
        simp
        rw [zam (by omega) (by omega)]
        refine hKb15 _ _ ⟨c.args.length - (k + 1), by omega, Back.at (J := [_]) (H2 := H ++ [.cells [.str d.name, .int .i64 d.vars, .sl (d.cons.map Con.cs) .none], .cells [.str c.name, .sl (VT.css c.args) .none], .cells [.int .i64 (l - c.args[k].nodes)]]) (by simp; rfl) (by simp) (hs.append rfl) ?_ ⟨_, rfl, k + 1, l - c.args[k].nodes, by omega, rfl, by simp, by omega, by omega, zf9 hkl hb15 (by omega), rfl⟩⟩
        simp [zjp, AV.sc, AV.scV, AV.scA, AV.scB]
       ·intro hle l'
        simp
        exact hF _
      ·obtain rfl : k = c.args.length := by omega
       rw [List.take_length] at hb15
       simp [zn4]
       rw [zam (by omega) (by omega)]
       refine hKb9 _ _ ⟨d.cons.length - (j + 1), by omega, Back.at (J := [_, _]) (H2 := H ++ [.cells [.str d.name, .int .i64 d.vars, .sl (d.cons.map Con.cs) .none]]) (by simp; exact ⟨rfl, rfl⟩) (by simp) (hs.append rfl) ?_ ⟨_, rfl, j + 1, by omega, rfl, by simp, zf9 hjl hb (by rw [hcc]; exact ⟨by omega, by omega, hb15⟩), rfl⟩⟩
       simp [zjq, AV.sc, AV.scV, AV.scA, AV.scB]
    ·obtain rfl : j = d.cons.length := by omega
     rw [List.take_length] at hb
     simp [zn6]
     rw [zam (by omega) (by omega)]
     exact next ⟨by omega, by omega, hb⟩ _
  ·obtain rfl : i = ds.length := by omega
   rw [List.take_length] at ha
   simp [zn5]
   exact Out.bool (J := []) (by simp) (Nat.le_refl _) hs (hK true fun _ => ⟨by omega, ha⟩)
end Go.Proofs.YtddlhljflggenaaGreatDoor
