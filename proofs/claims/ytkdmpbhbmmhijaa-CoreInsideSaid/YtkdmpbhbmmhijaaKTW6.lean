import Derived.Test.YtkdmpbhbmmhijaaKTW4
set_option linter.unusedSimpArgs false
set_option linter.unusedVariables false
namespace Go.Proofs.Ytkdmpbhbmmhijaa
open Go Go.Abs
set_option maxRecDepth 4000
def cat (l : List Tk) : Except (Nat × Int) (List Tk) → Except (Nat × Int) (List Tk)
 | .error e => .error e
 | .ok m => .ok (l ++ m)
theorem zsS (l m : List Tk) (r : Except (Nat × Int) (List Tk)) : cat l (cat m r) = cat (l ++ m) r := by cases r <;> simp [cat]
@[simp] theorem zRX (r : Except (Nat × Int) (List Tk)) : cat [] r = r := by cases r <;> rfl
def zed (r : List UInt8) : List UInt8 := r.dropWhile (· != 10)
def zee (r : List UInt8) : Nat := (r.takeWhile (· != 10)).length
section
variable (kw : List UInt8 → Bool)
theorem zpB (p : Nat) : zby kw [] p = .ok [⟨6, [], p⟩] := by unfold zby; rfl
theorem zuH {b : UInt8} (h : zdb b = true) (r : List UInt8) (p : Nat) : zby kw (b :: r) p = zby kw r (p + 1) := by
 conv => lhs; unfold zby
 simp [h]
theorem zuJ {b : UInt8} (h0 : zdb b = false) (h : (b == 35) = true) (r : List UInt8) (p : Nat) : zby kw (b :: r) p = zby kw (zed r) (p + 1 + zee r) := by
 conv => lhs; unfold zby
 simp only [h0, h, Bool.false_eq_true, if_false, if_true]
 rfl
theorem zuI {b : UInt8} (h0 : zdb b = false) (h : (b == 35) = false) {r : List UInt8} {p : Nat} {e : Int} (ht : tok kw b r = .error e) : zby kw (b :: r) p = .error (p, e) := by
 conv => lhs; unfold zby
 simp only [h0, h, Bool.false_eq_true, if_false, ht]
theorem zuK {b : UInt8} (h0 : zdb b = false) (h : (b == 35) = false) {r : List UInt8} {p : Nat} {k : Int} {n : Nat} (ht : tok kw b r = .ok (k, n)) :
  zby kw (b :: r) p = cat [⟨k, (b :: r).take n, p⟩] (zby kw ((b :: r).drop n) (p + n)) := by
 conv => lhs; unfold zby
 have hn := zpA ht
 obtain ⟨m, rfl⟩ : ∃ m, n = m + 1 := ⟨n - 1, by omega⟩
 simp only [h0, h, Bool.false_eq_true, if_false, ht, Nat.add_sub_cancel, List.drop_succ_cons]
 cases zby kw (r.drop m) (p + (m + 1)) <;> rfl
end
theorem zkM {b : UInt8} (h : (b == 10) = false) (r : List UInt8) : zed (b :: r) = zed r ∧ zee (b :: r) = 1 + zee r := by
 have hb : b ≠ 10 := by simpa using h
 constructor
 ·simp [zed, hb]
 ·simp [zee, hb]; omega
theorem zuv {b : UInt8} (h : (b == 10) = true) (r : List UInt8) : zed (b :: r) = b :: r ∧ zee (b :: r) = 0 := by
 have hb : b = 10 := by simpa using h
 constructor
 ·simp [zed, hb]
 ·simp [zee, hb]
theorem skipC_nil : zed [] = [] ∧ zee [] = 0 := ⟨rfl, rfl⟩
theorem zpz {kw : List UInt8 → Bool} {b : UInt8} {r : List UInt8} {k : Int} {n : Nat} (h : tok kw b r = .ok (k, n)) : n ≤ (b :: r).length := by
 have tw : ∀ p : UInt8 → Bool, (r.takeWhile p).length ≤ r.length := fun p => (List.takeWhile_sublist _).length_le
 unfold tok at h
 split at h
 ·simp only at h; split at h <;> simp at h; have := tw bIn; simp; omega
 ·split at h
  ·simp only at h; split at h
   ·simp at h
   ·split at h <;> simp at h; have := tw zaZ; simp; omega
  ·simp only at h
   split at h <;> simp at h
   obtain ⟨_, rfl⟩ := h
   unfold sgn
   split
   ·rename_i h2
    by_cases hl : 2 ≤ (b :: r).length
    ·exact hl
    ·rw [zpr hl] at h2; cases h2
   ·split
    ·simp
    ·split <;> simp
theorem zGQ {kw : List UInt8 → Bool} {b : UInt8} {r : List UInt8} {e : Int} (h : tok kw b r = .error e) : e = 2 ∨ e = 9 := by
 unfold tok at h
 split at h
 ·simp only at h; split at h <;> simp at h; omega
 ·split at h
  ·simp only at h; split at h
   ·simp at h; omega
   ·split at h <;> simp at h; omega
  ·simp only at h
   split at h <;> simp at h; omega
def zeI (s : List UInt8) : AV :=
 if s.length > 16384 then .tup [.sl [] .none, .int .i64 0, .int .i64 9] else
 match zby (kwF kwds) s 0 with
 | .error (p, e) => .tup [.sl [] .none, .int .i64 p, .int .i64 e]
 | .ok l => .tup [.sl (l.map Tk.cs) .none, .int .i64 0, .int .i64 0]
theorem two {H : zaa} {x y : AB} : H ++ [x, y] = (H ++ [x]) ++ [y] := by simp
theorem zt5 {H J : zaa} {K : AV → zaa → Prop} {p e : Int} (hs : HSc H) (hK : K (.tup [.sl [] .none, .int .i64 p, .int .i64 e]) H) : Out H.length K (.tup [.snil, .int .i64 p, .int .i64 e]) (H ++ J) :=
 Out.tup hs hK ⟨zi8, zb7 rfl rfl, zb7 rfl rfl, trivial⟩
theorem zGH (s : List UInt8) (H : zaa) (K : AV → zaa → Prop) (hK : K (zeI s) H) : ACalls tP zoW [.str s] H K := by
 refine ACalls.out (zNQ fun hs => ?_)
 by_cases hl : s.length > 16384
 ·have hl' : (16384 : Int) < s.length := by omega
  simp [znc, hl', AV.isV]
  unfold zeI at hK
  rw [if_pos hl] at hK
  exact Out.tup0 hs hK ⟨zi8, zb7 rfl rfl, zb7 rfl rfl, trivial⟩
 have hl' : ¬ (16384 : Int) < s.length := by omega
 unfold zeI at hK
 rw [if_neg hl] at hK
 simp [znc, hl']
 have hperm : ∀ n, HSc (H ++ [.perm zew 3 n]) := fun n => hs.append rfl
 unfold zni
 refine ALoop.own 5 zew 3 rfl ?_
 show zni (.str s) (.sl [] (.own H.length)) (.int .i64 0) (H ++ [.perm zew 3 0]) (Out H.length K)
 refine zNO (Inv := fun q t5 t6 H' => ∃ (i : Nat) (l : List Tk), i ≤ s.length ∧ l.length ≤ i ∧ q = s.length - i ∧ t6 = .int .i64 i ∧ t5 = .sl (l.map Tk.cs) (.own H.length) ∧ H' = H ++ [.perm zew 3 l.length] ∧ cat l (zby (kwF kwds) (s.drop i) i) = zby (kwF kwds) s 0) s.length ?_ ?_
 ·intro _; exact ⟨0, [], by omega, by simp, by omega, rfl, rfl, rfl, by simp⟩
 ·rintro q t5 t6 H' ⟨i, l, hi, hll, rfl, rfl, rfl, rfl, ho⟩ hsc hlen hsF Kb hKb
  have done : cat l (.ok [⟨6, [], s.length⟩]) = zby (kwF kwds) s 0 → znh (.str s) (.sl (l.map Tk.cs) (.own H.length)) (H ++ [.perm zew 3 l.length]) (Out H.length K) := by
   intro ho
   rw [← ho] at hK
   simp [znh, zBI, zaL, zbw, zaA, zdf, zbx, AV.pd, zaJ, zbH, zbh, AV.isV]
   refine ⟨by omega, ?_⟩
   simp [cat, Tk.cs] at hK
   exact Out.tup hs hK ⟨slV, zb7 rfl rfl, zb7 rfl rfl, trivial⟩
  by_cases hlt : i < s.length
  ·have hdr := List.drop_eq_getElem_cons hlt
   simp [znd, hlt]
   refine zDJ _ _ _ ?_
   have e35 : ((s[i].toNat : Int) == 35) = (s[i] == 35) := zcg s[i] 35
   cases hbl : zdb s[i] with
   | true =>
    rw [hdr, zuH _ hbl] at ho
    simp [zin]
    rw [zar (by omega) (by omega)]
    refine hKb _ _ ⟨s.length - (i + 1), by omega, Back.here (by simp) (hperm _) ?_ ⟨_, _, rfl, i + 1, l, by omega, by omega, rfl, by simp, rfl, rfl, ho⟩⟩
    simp [zej, AV.sc, AV.scV, AV.scA, AV.scB]
   | false =>
    simp [e35]
    cases hsh : (s[i] == 35) with
    | true =>
     simp
     rw [hdr, zuJ _ hbl hsh] at ho
     have h10 : (s[i] == 10) = false := by
      rw [beq_iff_eq] at hsh; rw [hsh]; rfl
     obtain ⟨c1, c2⟩ := zkM h10 (s.drop (i + 1))
     rw [Nat.add_assoc, ← c1, ← c2, ← hdr] at ho
     refine zNP (Inv := fun q t6 H' => ∃ (j : Nat), i ≤ j ∧ j ≤ s.length ∧ q = s.length - j ∧ t6 = .int .i64 j ∧ H' = H ++ [.perm zew 3 l.length] ∧ cat l (zby (kwF kwds) (zed (s.drop j)) (j + zee (s.drop j))) = zby (kwF kwds) s 0) (s.length - i) ?_ ?_
     ·intro _; exact ⟨i, by omega, by omega, by omega, rfl, rfl, ho⟩
     ·rintro q t6 H' ⟨j, hij, hj, rfl, rfl, rfl, ho⟩ hsc hlen hsF Kb9 hKb9
      by_cases hjlt : j < s.length
      ·have hdrj := List.drop_eq_getElem_cons hjlt
       have e10 : ((s[j].toNat : Int) == 10) = (s[j] == 10) := zcg s[j] 10
       simp [zne, hjlt, e10]
       cases hz : (s[j] == 10) with
       | true =>
        obtain ⟨d1, d2⟩ := zuv hz (s.drop (j + 1))
        rw [hdrj, d1, d2, ← hdrj, Nat.add_zero] at ho
        have hij' : i ≠ j := by rintro rfl; rw [h10] at hz; cases hz
        simp [zin]
        refine hKb _ _ ⟨s.length - j, by omega, Back.here (by simp) (hperm _) ?_ ⟨_, _, rfl, j, l, by omega, by omega, rfl, by simp, rfl, rfl, ho⟩⟩
        simp [zej, AV.sc, AV.scV, AV.scA, AV.scB]
       | false =>
        obtain ⟨d1, d2⟩ := zkM hz (s.drop (j + 1))
        rw [hdrj, d1, d2, ← Nat.add_assoc] at ho
        simp
        rw [zar (by omega) (by omega)]
        refine hKb9 _ _ ⟨s.length - (j + 1), by omega, Back.here (by simp) (hperm _) ?_ ⟨_, rfl, j + 1, by omega, by omega, rfl, by simp, rfl, ho⟩⟩
        simp [zgU, AV.sc, AV.scV, AV.scA, AV.scB]
      ·obtain rfl : j = s.length := by omega
       simp [zne]
       rw [List.drop_length, skipC_nil.1, skipC_nil.2, Nat.add_zero, zpB] at ho
       exact done ho
    | false =>
     simp
     refine zF2 s (by omega) i hlt _ _ ?_
     unfold zkJ
     cases ht : tok (kwF kwds) s[i] (s.drop (i + 1)) with
     | error e =>
      rw [hdr, zuI _ hbl hsh ht] at ho
      have he : (e != 0) = true := by rcases zGQ ht with rfl | rfl <;> rfl
      rw [← ho] at hK
      simp [AV.known, AV.isV, he]
      exact zt5 hs hK
     | ok kn =>
      obtain ⟨k, n⟩ := kn
      rw [hdr, zuK _ hbl hsh ht, zsS, ← hdr] at ho
      have hn := zpz ht
      rw [← hdr] at hn
      simp at hn
      have hn0 := zpA ht
      simp [Tk.cs, AV.known, zaA, zdf, zbx, AV.pd, zaJ, zbH, zbh, zin]
      refine ⟨by omega, ?_⟩
      rw [show min n (s.length - i) = n by omega, zar (by omega) (by omega), two]
      refine hKb _ _ ⟨s.length - (i + n), by omega, Back.same (by simp) (hperm _) ?_ ⟨_, _, rfl, i + n, l ++ [⟨k, (s.drop i).take n, i⟩], by omega, by simp; omega, rfl, by simp, by simp [Tk.cs], by simp, ?_⟩⟩
      ·simp [zej, AV.sc, AV.scV, AV.scA, AV.scB]
      ·rw [List.drop_drop] at ho; exact ho
  ·obtain rfl : i = s.length := by omega
   rw [List.drop_length, zpB] at ho
   simpa [znd] using done ho
end Go.Proofs.Ytkdmpbhbmmhijaa
namespace Go.Proofs.Ytkdmpbhbmmhijaa
open Go Go.Abs
set_option maxRecDepth 4000
set_option maxRecDepth 4000
theorem zkP (s : List UInt8) (i n : Nat) : List.drop i (List.take (i + n) s) = List.take n (List.drop i s) := by
 rw [List.drop_take]; congr 1; omega
def ziv (t0 t5 t6 t7 t8 : AV) (H : zaa) (K : AV → zaa → Prop) (Kb5 : List AV → zaa → Prop) : Prop :=
 zad .gtr false t8 (.int .i64 24) fun t118 =>
 zag t118
 (zaY [.snil, t6, (.int .i64 9)] (K · H))
 (ACalls tP zhh [t7] H fun t121 H =>
 zag t121
 (ze6 t0 t5 t6 t8 (.int .i64 2) H K Kb5)
 (zad .add false t6 t8 fun t126 =>
 za0 0 0 t0 (some t6) (some t126) fun t127 =>
 ACalls tP zkc [t127] H fun t128 H =>
 zag t128
 (ze6 t0 t5 t6 t8 (.int .i64 4) H K Kb5)
 (ze6 t0 t5 t6 t8 (.int .i64 1) H K Kb5)))
section
variable (s : List UInt8) (hl : ¬ s.length > 16384) (i : Nat) (hlt : i < s.length) (H : zaa) (l : List Tk) (hll : l.length ≤ i) (hperm : ∀ n, HSc (H ++ [.perm zbj 3 n])) (K : AV → zaa → Prop) (Kb : List AV → zaa → Prop)
include hl hlt hll hperm
theorem zHg (hLU : (zbT s[i] || bUp s[i]) = true)
  (app : ∀ (k : Int) (n : Nat), tok (kwF kwds) s[i] (s.drop (i + 1)) = .ok (k, n) → ∀ t, (s.drop i).take n = t → zjH (.str s) (.sl (l.map Tk.cs ++ [[.int .i64 k, .str t, .int .i64 i]]) (.own H.length)) (.int .i64 i) (.int .i64 n) (H ++ [.perm zbj 3 (l.length + 1)]) (Out H.length K) Kb)
  (bad : ∀ e : Int, tok (kwF kwds) s[i] (s.drop (i + 1)) = .error e → Out H.length K (.tup [.snil, .int .i64 i, .int .i64 e]) (H ++ [.perm zbj 3 l.length])) :
  zsp (.str s) (.sl (l.map Tk.cs) (.own H.length)) (.int .i64 i) (.int .u8 s[i].toNat) (.int .i64 1) (H ++ [.perm zbj 3 l.length]) (Out H.length K) Kb := by
 refine zO9 (Inv := fun q t8 H' => ∃ (j : Nat), i + j ≤ s.length ∧ 0 < j ∧ q = s.length - j ∧ t8 = .int .i64 j ∧ H' = H ++ [.perm zbj 3 l.length] ∧ j + ((s.drop (i + j)).takeWhile bIn).length = ((s.drop (i + 1)).takeWhile bIn).length + 1) (s.length - 1) ?_ ?_
 ·intro _; exact ⟨1, by omega, by omega, by omega, rfl, rfl, by omega⟩
 ·rintro q t8 H' ⟨j, hij, hj0, rfl, rfl, rfl, hn⟩ hsc hlen hsF Kb18 hKb18
  have w1 : IntKind.i64.wrap ((i : Int) + j) = i + j := zar (by omega) (by omega)
  have w2 : IntKind.i64.wrap ((j : Int) + 1) = j + 1 := zar (by omega) (by omega)
  have fin : ((s.drop (i + j)).takeWhile bIn).length = 0 → ziv (.str s) (.sl (l.map Tk.cs) (.own H.length)) (.int .i64 i) (.int .u8 s[i].toNat) (.int .i64 j) (H ++ [.perm zbj 3 l.length]) (Out H.length K) Kb := by
   intro h0
   rw [h0] at hn
   have htk : tok (kwF kwds) s[i] (s.drop (i + 1)) = if j > 24 then .error 9 else .ok (if bUp s[i] = true then 2 else if kwF kwds ((s.drop i).take j) = true then 4 else 1, j) := by
    rw [List.drop_eq_getElem_cons hlt]
    simp only [tok, hLU, if_true, ← hn, Nat.add_zero]
   by_cases h24 : j > 24
   ·have h24' : (24 : Int) < j := by omega
    rw [if_pos h24] at htk
    simp [ziv, h24', AV.isV]
    exact bad 9 htk
   ·have h24' : ¬ (24 : Int) < j := by omega
    rw [if_neg h24] at htk
    simp [ziv, h24']
    refine zkS _ _ _ ?_
    have fin2 : ∀ k, k = (if bUp s[i] = true then 2 else if kwF kwds ((s.drop i).take j) = true then 4 else 1 : Int) → ze6 (.str s) (.sl (l.map Tk.cs) (.own H.length)) (.int .i64 i) (.int .i64 j) (.int .i64 k) (H ++ [.perm zbj 3 l.length]) (Out H.length K) Kb := by
     intro k hk
     rw [← hk] at htk
     have := app k j htk _ rfl
     simp [ze6, w1, w2, zaL, zbw, zaA, zdf, zbx, AV.pd, zaJ, zbH, zbh, ze7]
     refine ⟨by omega, by omega, by omega, ?_⟩
     rw [show ((i : Int) + j).toNat = i + j by omega, zkP]
     exact this
    cases hU : bUp s[i] with
    | true => simp; exact fin2 2 (by simp [hU])
    | false =>
     simp [w1, w2]
     refine ⟨by omega, by omega, ?_⟩
     rw [show ((i : Int) + j).toNat = i + j by omega, zkP]
     refine zEO _ _ _ ?_
     cases hkw : kwF kwds ((s.drop i).take j) with
     | true => simp; exact fin2 4 (by simp [hU, hkw])
     | false => simp; exact fin2 1 (by simp [hU, hkw])
  by_cases hjlt : i + j < s.length
  ·have e95 : ((s[i + j].toNat : Int) == 95) = (s[i + j] == 95) := zcg s[i + j] 95
   have hjlt' : (i + j : Int) < s.length := by omega
   rw [List.drop_eq_getElem_cons hjlt, List.takeWhile_cons] at hn fin
   have key : bIn s[i + j] = true → Kb18 (ze4 (.str s) (.sl (l.map Tk.cs) (.own H.length)) (.int .i64 i) (.int .u8 s[i].toNat) (.int .i64 (j + 1))) (H ++ [.perm zbj 3 l.length]) := by
    intro hbin
    rw [hbin] at hn
    simp at hn
    refine hKb18 _ _ ⟨s.length - (j + 1), by omega, Back.here (by simp) (hperm _) ?_ ⟨_, rfl, j + 1, by omega, by omega, rfl, by simp, rfl, by rw [← Nat.add_assoc]; omega⟩⟩
    simp [ze4, AV.sc, AV.scV, AV.scA, AV.scB]
   have no : bIn s[i + j] = false → ziv (.str s) (.sl (l.map Tk.cs) (.own H.length)) (.int .i64 i) (.int .u8 s[i].toNat) (.int .i64 j) (H ++ [.perm zbj 3 l.length]) (Out H.length K) Kb := by
    intro hbin
    rw [hbin] at fin
    exact fin (by simp)
   have hget : s[((i : Int) + j).toNat]?.getD 0 = s[i + j] := by
    rw [show ((i : Int) + j).toNat = i + j by omega]
    simp [hjlt]
   unfold bIn at key no
   simp [znG, w1, w2, hjlt', hget]
   refine ⟨by omega, ?_⟩
   refine ztH _ _ _ ?_
   cases hL : zbT s[i + j] with
   | true => simpa using key (by simp [hL])
   | false =>
    simp [w1, w2, hjlt', hget]
    refine ⟨by omega, zkS _ _ _ ?_⟩
    cases hU : bUp s[i + j] with
    | true => simpa using key (by simp [hU])
    | false =>
     simp [w1, w2, hjlt', hget]
     refine ⟨by omega, zoc _ _ _ ?_⟩
     cases hD : zaZ s[i + j] with
     | true => simpa using key (by simp [hD])
     | false =>
      simp [w1, w2, hjlt', hget, e95]
      refine ⟨by omega, ?_⟩
      cases h95 : (s[i + j] == 95) with
      | true => simpa using key (by simp [h95])
      | false => simpa [ziv, w1] using no (by simp [hL, hU, hD, h95])
  ·have hjlt' : ¬ (i + j : Int) < s.length := by omega
   have : s.drop (i + j) = [] := List.drop_eq_nil_of_le (by omega)
   rw [this] at fin
   have := fin rfl
   simp [znG, w1, w2, hjlt']
   simpa [ziv, w1] using this
end
def znJ (t0 t5 t6 t8 : AV) (H : zaa) (K : AV → zaa → Prop) (Kb5 : List AV → zaa → Prop) : Prop :=
 zad .add false t6 t8 fun t172 =>
 za0 0 0 t0 (some t6) (some t172) fun t173 =>
 ACalls tP zhj [t173] H fun t174 H =>
 za3 t174 0 fun t175 =>
 za3 t174 1 fun t176 =>
 aUn .not t176 fun t178 =>
 zag t178
 (zaY [.snil, t6, (.int .i64 9)] (K · H))
 (zad .add false t6 t8 fun t185 =>
 za0 0 0 t0 (some t6) (some t185) fun t186 =>
 zaL [(.int .i64 0), (.str []), (.int .i64 0)] [(0, 1), (1, 1), (2, 1)] [(0, (.int .i64 3)), (1, t186), (2, t6)] fun t188 =>
 zaA 3 [(.int .i64 0), (.str []), (.int .i64 0)] 1 [(0, t188)] fun t189 =>
 zaJ zbj 3 32 t5 t189 H fun t190 H =>
 ze7 t0 t190 t6 t8 H K Kb5)
def ziw (t0 t5 t6 t7 t8 : AV) (H : zaa) (K : AV → zaa → Prop) (Kb5 : List AV → zaa → Prop) : Prop :=
 zad .gtr false t8 (.int .i64 1) fun t161 =>
 zab t161 true H (fun K' => K' t7 H) fun t163 H =>
 zab t161 true H (fun K' => zad .eql false t163 (.int .u8 48) (K' · H)) fun t164 H =>
 zah t161 t164 (.bool false) fun t165 =>
 zag t165
 (zaY [.snil, t6, (.int .i64 2)] (K · H))
 (zad .add false t6 t8 fun t172 =>
 za0 0 0 t0 (some t6) (some t172) fun t173 =>
 ACalls tP zhj [t173] H fun t174 H =>
 za3 t174 0 fun t175 =>
 za3 t174 1 fun t176 =>
 aUn .not t176 fun t178 =>
 zag t178
 (zaY [.snil, t6, (.int .i64 9)] (K · H))
 (zad .add false t6 t8 fun t185 =>
 za0 0 0 t0 (some t6) (some t185) fun t186 =>
 zaL [(.int .i64 0), (.str []), (.int .i64 0)] [(0, 1), (1, 1), (2, 1)] [(0, (.int .i64 3)), (1, t186), (2, t6)] fun t188 =>
 zaA 3 [(.int .i64 0), (.str []), (.int .i64 0)] 1 [(0, t188)] fun t189 =>
 zaJ zbj 3 32 t5 t189 H fun t190 H =>
 ze7 t0 t190 t6 t8 H K Kb5))
section
variable (s : List UInt8) (hl : ¬ s.length > 16384) (i : Nat) (hlt : i < s.length) (H : zaa) (l : List Tk) (hll : l.length ≤ i) (hperm : ∀ n, HSc (H ++ [.perm zbj 3 n])) (K : AV → zaa → Prop) (Kb : List AV → zaa → Prop)
include hl hlt hll hperm
theorem zEY (hLU : ¬ (zbT s[i] || bUp s[i]) = true) (hD : zaZ s[i] = true)
  (app : ∀ (k : Int) (n : Nat), tok (kwF kwds) s[i] (s.drop (i + 1)) = .ok (k, n) → ∀ t, (s.drop i).take n = t → zjH (.str s) (.sl (l.map Tk.cs ++ [[.int .i64 k, .str t, .int .i64 i]]) (.own H.length)) (.int .i64 i) (.int .i64 n) (H ++ [.perm zbj 3 (l.length + 1)]) (Out H.length K) Kb)
  (bad : ∀ e : Int, tok (kwF kwds) s[i] (s.drop (i + 1)) = .error e → Out H.length K (.tup [.snil, .int .i64 i, .int .i64 e]) (H ++ [.perm zbj 3 l.length])) :
  zsq (.str s) (.sl (l.map Tk.cs) (.own H.length)) (.int .i64 i) (.int .u8 s[i].toNat) (.int .i64 1) (H ++ [.perm zbj 3 l.length]) (Out H.length K) Kb := by
 refine zPa (Inv := fun q t8 H' => ∃ (j : Nat), i + j ≤ s.length ∧ 0 < j ∧ q = s.length - j ∧ t8 = .int .i64 j ∧ H' = H ++ [.perm zbj 3 l.length] ∧ j + ((s.drop (i + j)).takeWhile zaZ).length = ((s.drop (i + 1)).takeWhile zaZ).length + 1) (s.length - 1) ?_ ?_
 ·intro _; exact ⟨1, by omega, by omega, by omega, rfl, rfl, by omega⟩
 ·rintro q t8 H' ⟨j, hij, hj0, rfl, rfl, rfl, hn⟩ hsc hlen hsF Kb18 hKb18
  have w1 : IntKind.i64.wrap ((i : Int) + j) = i + j := zar (by omega) (by omega)
  have w2 : IntKind.i64.wrap ((j : Int) + 1) = j + 1 := zar (by omega) (by omega)
  have e48 : ((s[i].toNat : Int) == 48) = (s[i] == 48) := zcg s[i] 48
  have fin : ((s.drop (i + j)).takeWhile zaZ).length = 0 → ziw (.str s) (.sl (l.map Tk.cs) (.own H.length)) (.int .i64 i) (.int .u8 s[i].toNat) (.int .i64 j) (H ++ [.perm zbj 3 l.length]) (Out H.length K) Kb := by
   intro h0
   rw [h0] at hn
   have hdj : (s.drop i).take j = s[i] :: (s.drop (i + 1)).takeWhile zaZ := by
    rw [List.drop_eq_getElem_cons hlt, show j = ((s.drop (i + 1)).takeWhile zaZ).length + 1 by omega, zkO]
   have htk : tok (kwF kwds) s[i] (s.drop (i + 1)) = if (s[i] == 48 && decide (j > 1)) = true then .error 2 else if zb1 ((s.drop i).take j) 0 = true then .ok (3, j) else .error 9 := by
    rw [List.drop_eq_getElem_cons hlt]
    simp only [tok, hLU, hD, if_true, ← hn, Nat.add_zero]
    rfl
   have hval : ∀ (K : AV → zaa → Prop) (H : zaa), (∀ n, K (.tup [.int .i64 n, .bool (zb1 ((s.drop i).take j) 0)]) H) → ACalls tP zhj [.str ((s.drop i).take j)] H K := by
    intro K H hK
    refine zG1 _ ?_ (by simp; omega) _ _ hK
    intro c hc
    rw [hdj] at hc
    rcases List.mem_cons.1 hc with rfl | hc
    ·exact hD
    ·exact List.all_eq_true.1 (List.all_takeWhile) c hc
   have rest : ¬ (s[i] == 48 && decide (j > 1)) = true → znJ (.str s) (.sl (l.map Tk.cs) (.own H.length)) (.int .i64 i) (.int .i64 j) (H ++ [.perm zbj 3 l.length]) (Out H.length K) Kb := by
    intro hne
    rw [if_neg hne] at htk
    simp [znJ, w1]
    refine ⟨by omega, by omega, ?_⟩
    rw [show ((i : Int) + j).toNat = i + j by omega, zkP]
    refine hval _ _ fun n => ?_
    cases hv : zb1 ((s.drop i).take j) 0 with
    | false =>
     rw [hv] at htk
     simp [AV.isV]
     exact bad 9 htk
    | true =>
     rw [hv] at htk
     have := app 3 j htk _ rfl
     simp [zaL, zbw, zaA, zdf, zbx, AV.pd, zaJ, zbH, zbh, ze7]
     refine ⟨by omega, by omega, by omega, ?_⟩
     exact this
   by_cases h1 : j > 1
   ·have h1' : (1 : Int) < j := by omega
    have hd : decide (j > 1) = true := decide_eq_true h1
    rw [hd] at rest htk
    cases hz : (s[i] == 48) with
    | true =>
     rw [hz] at htk
     simp [ziw, h1', e48, hz, AV.isV]
     exact bad 2 htk
    | false =>
     have := rest (by rw [hz]; decide)
     simp [ziw, h1', e48, hz]
     simpa [znJ] using this
   ·have h1' : ¬ (1 : Int) < j := by omega
    have := rest (by rw [decide_eq_false h1]; simp)
    simp [ziw, h1']
    simpa [znJ] using this
  by_cases hjlt : i + j < s.length
  ·have hjlt' : (i + j : Int) < s.length := by omega
   rw [List.drop_eq_getElem_cons hjlt, List.takeWhile_cons] at hn fin
   have hget : s[((i : Int) + j).toNat]?.getD 0 = s[i + j] := by
    rw [show ((i : Int) + j).toNat = i + j by omega]
    simp [hjlt]
   simp [znH, w1, w2, hjlt', hget]
   refine ⟨by omega, ?_⟩
   refine zoc _ _ _ ?_
   cases hb : zaZ s[i + j] with
   | true =>
    rw [hb] at hn
    simp at hn
    simp [w1, w2]
    refine hKb18 _ _ ⟨s.length - (j + 1), by omega, Back.here (by simp) (hperm _) ?_ ⟨_, rfl, j + 1, by omega, by omega, rfl, by simp, rfl, by rw [← Nat.add_assoc]; omega⟩⟩
    simp [zg5, AV.sc, AV.scV, AV.scA, AV.scB]
   | false =>
    rw [hb] at fin
    have := fin (by simp)
    simp [w1, w2]
    simpa [ziw, w1] using this
  ·have hjlt' : ¬ (i + j : Int) < s.length := by omega
   have : s.drop (i + j) = [] := List.drop_eq_nil_of_le (by omega)
   rw [this] at fin
   have := fin rfl
   simp [znH, w1, w2, hjlt']
   simpa [ziw, w1] using this
end
theorem zGI (s : List UInt8) (H : zaa) (K : AV → zaa → Prop) (hK : K (zeI s) H) : ACalls tP zo2 [.str s] H K := by
 refine ACalls.out (zPc fun hs => ?_)
 by_cases hl : s.length > 16384
 ·have hl' : (16384 : Int) < s.length := by omega
  simp [znE, hl', AV.isV]
  unfold zeI at hK
  rw [if_pos hl] at hK
  exact Out.tup0 hs hK ⟨zi8, zb7 rfl rfl, zb7 rfl rfl, trivial⟩
 have hl' : ¬ (16384 : Int) < s.length := by omega
 unfold zeI at hK
 rw [if_neg hl] at hK
 simp [znE, hl']
 have hperm : ∀ n, HSc (H ++ [.perm zbj 3 n]) := fun n => hs.append rfl
 unfold znK
 refine ALoop.own 5 zbj 3 rfl ?_
 show znK (.str s) (.sl [] (.own H.length)) (.int .i64 0) (H ++ [.perm zbj 3 0]) (Out H.length K)
 refine zPb (Inv := fun q t5 t6 H' => ∃ (i : Nat) (l : List Tk), i ≤ s.length ∧ l.length ≤ i ∧ q = s.length - i ∧ t6 = .int .i64 i ∧ t5 = .sl (l.map Tk.cs) (.own H.length) ∧ H' = H ++ [.perm zbj 3 l.length] ∧ cat l (zby (kwF kwds) (s.drop i) i) = zby (kwF kwds) s 0) s.length ?_ ?_
 ·intro _; exact ⟨0, [], by omega, by simp, by omega, rfl, rfl, rfl, by simp⟩
 ·rintro q t5 t6 H' ⟨i, l, hi, hll, rfl, rfl, rfl, rfl, ho⟩ hsc hlen hsF Kb hKb
  by_cases hlt : i < s.length
  ·have hdr := List.drop_eq_getElem_cons hlt
   have e9 : ((s[i].toNat : Int) == 9) = (s[i] == 9) := zcg s[i] 9
   have e10 : ((s[i].toNat : Int) == 10) = (s[i] == 10) := zcg s[i] 10
   have e13 : ((s[i].toNat : Int) == 13) = (s[i] == 13) := zcg s[i] 13
   have e32 : ((s[i].toNat : Int) == 32) = (s[i] == 32) := zcg s[i] 32
   have e35 : ((s[i].toNat : Int) == 35) = (s[i] == 35) := zcg s[i] 35
   cases hbl : zdb s[i] with
   | true =>
    rw [hdr, zuH _ hbl] at ho
    have key : ze5 (.str s) (.sl (l.map Tk.cs) (.own H.length)) (.int .i64 (IntKind.i64.wrap (i + 1))) (H ++ [.perm zbj 3 l.length]) (Out H.length K) Kb := by
     simp [ze5]
     rw [zar (by omega) (by omega)]
     refine hKb _ _ ⟨s.length - (i + 1), by omega, Back.here (by simp) (hperm _) ?_ ⟨_, _, rfl, i + 1, l, by omega, by omega, rfl, by simp, rfl, rfl, ho⟩⟩
     simp [zd1, AV.sc, AV.scV, AV.scA, AV.scB]
    unfold zdb at hbl
    cases h9 : (s[i] == 9) <;> cases h10 : (s[i] == 10) <;> cases h13 : (s[i] == 13) <;> cases h32 : (s[i] == 32) <;> simp [h9, h10, h13, h32] at hbl <;> simpa [zjG, hlt, e9, e10, e13, e32, h9, h10, h13, h32] using key
   | false =>
    have hbl' := hbl
    unfold zdb at hbl'
    simp only [Bool.or_eq_false_iff] at hbl'
    obtain ⟨⟨⟨h9, h10⟩, h13⟩, h32⟩ := hbl'
    have app : ∀ (k : Int) (n : Nat), tok (kwF kwds) s[i] (s.drop (i + 1)) = .ok (k, n) → (s[i] == 35) = false → ∀ t, (s.drop i).take n = t → zjH (.str s) (.sl (l.map Tk.cs ++ [[.int .i64 k, .str t, .int .i64 i]]) (.own H.length)) (.int .i64 i) (.int .i64 n) (H ++ [.perm zbj 3 (l.length + 1)]) (Out H.length K) Kb := by
     intro k n ht hsh t hte
     subst hte
     rw [hdr, zuK _ hbl hsh ht, zsS, ← hdr] at ho
     have hn := zpz ht
     rw [← hdr] at hn
     simp at hn
     have hn0 := zpA ht
     simp [zjH, ze5]
     rw [zar (by omega) (by omega)]
     refine hKb _ _ ⟨s.length - (i + n), by omega, Back.here (by simp) (hperm _) ?_ ⟨_, _, rfl, i + n, l ++ [⟨k, (s.drop i).take n, i⟩], by omega, by simp; omega, rfl, by simp, by simp [Tk.cs], by simp, ?_⟩⟩
     ·simp [zd1, AV.sc, AV.scV, AV.scA, AV.scB]
     ·rw [List.drop_drop] at ho; exact ho
    have bad : ∀ e : Int, tok (kwF kwds) s[i] (s.drop (i + 1)) = .error e → (s[i] == 35) = false → Out H.length K (.tup [.snil, .int .i64 i, .int .i64 e]) (H ++ [.perm zbj 3 l.length]) := by
     intro e ht hsh
     rw [hdr, zuI _ hbl hsh ht] at ho
     rw [← ho] at hK
     exact zt5 hs hK
    simp [zjG, hlt, e9, e10, e13, e32, e35, h9, h10, h13, h32]
    cases hsh : (s[i] == 35) with
    | true =>
     simp
     rw [hdr, zuJ _ hbl hsh] at ho
     obtain ⟨c1, c2⟩ := zkM h10 (s.drop (i + 1))
     rw [Nat.add_assoc, ← c1, ← c2, ← hdr] at ho
     refine zO8 (Inv := fun q t6 H' => ∃ (j : Nat), i ≤ j ∧ j ≤ s.length ∧ q = s.length - j ∧ t6 = .int .i64 j ∧ H' = H ++ [.perm zbj 3 l.length] ∧ cat l (zby (kwF kwds) (zed (s.drop j)) (j + zee (s.drop j))) = zby (kwF kwds) s 0) (s.length - i) ?_ ?_
     ·intro _; exact ⟨i, by omega, by omega, by omega, rfl, rfl, ho⟩
     ·rintro q t6 H' ⟨j, hij, hj, rfl, rfl, rfl, ho⟩ hsc hlen hsF Kb9 hKb9
      by_cases hjlt : j < s.length
      ·have hdrj := List.drop_eq_getElem_cons hjlt
       have e10 : ((s[j].toNat : Int) != 10) = !(s[j] == 10) := by rw [← zcg s[j] 10]; rfl
       simp [znF, hjlt, e10]
       cases hz : (s[j] == 10) with
       | true =>
        obtain ⟨d1, d2⟩ := zuv hz (s.drop (j + 1))
        rw [hdrj, d1, d2, ← hdrj, Nat.add_zero] at ho
        have hij' : i ≠ j := by rintro rfl; rw [h10] at hz; cases hz
        simp [ze5]
        refine hKb _ _ ⟨s.length - j, by omega, Back.here (by simp) (hperm _) ?_ ⟨_, _, rfl, j, l, by omega, by omega, rfl, by simp, rfl, rfl, ho⟩⟩
        simp [zd1, AV.sc, AV.scV, AV.scA, AV.scB]
       | false =>
        obtain ⟨d1, d2⟩ := zkM hz (s.drop (j + 1))
        rw [hdrj, d1, d2, ← Nat.add_assoc] at ho
        simp
        rw [zar (by omega) (by omega)]
        refine hKb9 _ _ ⟨s.length - (j + 1), by omega, Back.here (by simp) (hperm _) ?_ ⟨_, rfl, j + 1, by omega, by omega, rfl, by simp, rfl, ho⟩⟩
        simp [zg4, AV.sc, AV.scV, AV.scA, AV.scB]
      ·obtain rfl : j = s.length := by omega
       simp [znF, ze5]
       rw [List.drop_length, skipC_nil.1, skipC_nil.2, Nat.add_zero] at ho
       refine hKb _ _ ⟨0, by omega, Back.here (by simp) (hperm _) ?_ ⟨_, _, rfl, s.length, l, by omega, by omega, by omega, by simp, rfl, rfl, by rw [List.drop_length]; exact ho⟩⟩
       simp [zd1, AV.sc, AV.scV, AV.scA, AV.scB]
    | false =>
     replace app := fun k n h => app k n h hsh
     replace bad := fun e h => bad e h hsh
     simp
     refine ztH _ _ _ ?_
     by_cases hLU : (zbT s[i] || bUp s[i]) = true
     ·have hc : zbT s[i] = true ∨ (zbT s[i] = false ∧ bUp s[i] = true) := by cases hL : zbT s[i] <;> simp [hL] at hLU ⊢; exact hLU
      rcases hc with hL | ⟨hL, hU⟩
      case' inl => simp [hL]
      case' inr => simp [hL]; refine zkS _ _ _ ?_; simp [hU]
      all_goals exact zHg s hl i hlt H l hll hperm K Kb hLU app bad
     ·have hL : zbT s[i] = false := by simp at hLU; exact hLU.1
      have hU : bUp s[i] = false := by simp at hLU; exact hLU.2
      simp [hL]
      refine zkS _ _ _ ?_
      simp [hU]
      refine zoc _ _ _ ?_
      cases hD : zaZ s[i] with
      | true =>
       simp
       exact zEY s hl i hlt H l hll hperm K Kb hLU hD app bad
      | false =>
       simp
       refine ⟨by omega, ?_⟩
       have htk : tok (kwF kwds) s[i] (s.drop (i + 1)) = if sgn (s.drop i) = 0 then .error 2 else .ok (5, sgn (s.drop i)) := by
        simp only [tok, hLU, hD, hdr]
        rfl
       rw [hdr]
       refine zGb _ _ _ _ ?_
       rw [← hdr]
       by_cases hz : sgn (s.drop i) = 0
       ·simp [hz, AV.isV]
        exact bad 2 (by rw [htk, if_pos hz])
       ·have hz' : ((sgn (s.drop i) : Int) == 0) = false := by simpa using hz
        have ht := htk
        rw [if_neg hz] at ht
        have hn := zpz ht
        rw [← hdr] at hn
        simp at hn
        have := app 5 (sgn (s.drop i)) ht _ rfl
        simp [hz']
        rw [zar (by omega) (by omega)]
        simp [zaL, zbw, zaA, zdf, zbx, AV.pd, zaJ, zbH, zbh, ze7]
        refine ⟨by omega, by omega, by omega, ?_⟩
        rw [show ((i : Int) + (sgn (s.drop i) : Int)).toNat = i + sgn (s.drop i) by omega, zkP]
        exact this
  ·obtain rfl : i = s.length := by omega
   rw [List.drop_length, zpB] at ho
   rw [← ho] at hK
   simp [zjG, zaL, zbw, zaA, zdf, zbx, AV.pd, zaJ, zbH, zbh, AV.isV]
   refine ⟨by omega, ?_⟩
   simp [cat, Tk.cs] at hK
   exact Out.tup hs hK ⟨slV, zb7 rfl rfl, zb7 rfl rfl, trivial⟩
end Go.Proofs.Ytkdmpbhbmmhijaa
