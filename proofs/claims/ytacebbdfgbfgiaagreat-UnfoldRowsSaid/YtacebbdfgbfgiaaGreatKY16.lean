import Derived.Test.YtacebbdfgbfgiaaGreatKTW4
import Derived.Test.YtacebbdfgbfgiaaGreatKNum
import Derived.Test.YtacebbdfgbfgiaaGreatProg
import Derived.KernelRfl
import Derived.Test.YtacebbdfgbfgiaaGreatTK
set_option linter.unusedSimpArgs false
set_option linter.unusedVariables false
namespace Go.Proofs.YtacebbdfgbfgiaaGreat
open Go Go.Abs
set_option maxRecDepth 4000
def cat (l : List Tk) : Except (Nat × Int) (List Tk) → Except (Nat × Int) (List Tk)
 | .error e => .error e
 | .ok m => .ok (l ++ m)
theorem zoK (l m : List Tk) (r : Except (Nat × Int) (List Tk)) : cat l (cat m r) = cat (l ++ m) r := by cases r <;> simp [cat]
@[simp] theorem zIW (r : Except (Nat × Int) (List Tk)) : cat [] r = r := by cases r <;> rfl
def zdc (r : List UInt8) : List UInt8 := r.dropWhile (· != 10)
def zdd (r : List UInt8) : Nat := (r.takeWhile (· != 10)).length
section
variable (kw : List UInt8 → Bool)
theorem zlp (p : Nat) : za8 kw [] p = .ok [⟨6, [], p⟩] := by unfold za8; rfl
theorem zqH {b : UInt8} (h : zcu b = true) (r : List UInt8) (p : Nat) : za8 kw (b :: r) p = za8 kw r (p + 1) := by
 conv => lhs; unfold za8
 simp [h]
theorem zqJ {b : UInt8} (h0 : zcu b = false) (h : (b == 35) = true) (r : List UInt8) (p : Nat) : za8 kw (b :: r) p = za8 kw (zdc r) (p + 1 + zdd r) := by
 conv => lhs; unfold za8
 simp only [h0, h, Bool.false_eq_true, if_false, if_true]
 rfl
theorem zqI {b : UInt8} (h0 : zcu b = false) (h : (b == 35) = false) {r : List UInt8} {p : Nat} {e : Int} (ht : tok kw b r = .error e) : za8 kw (b :: r) p = .error (p, e) := by
 conv => lhs; unfold za8
 simp only [h0, h, Bool.false_eq_true, if_false, ht]
theorem zqK {b : UInt8} (h0 : zcu b = false) (h : (b == 35) = false) {r : List UInt8} {p : Nat} {k : Int} {n : Nat} (ht : tok kw b r = .ok (k, n)) :
  za8 kw (b :: r) p = cat [⟨k, (b :: r).take n, p⟩] (za8 kw ((b :: r).drop n) (p + n)) := by
 conv => lhs; unfold za8
 have hn := zlo ht
 obtain ⟨m, rfl⟩ : ∃ m, n = m + 1 := ⟨n - 1, by omega⟩
 simp only [h0, h, Bool.false_eq_true, if_false, ht, Nat.add_sub_cancel, List.drop_succ_cons]
 cases za8 kw (r.drop m) (p + (m + 1)) <;> rfl
end
theorem zhg {b : UInt8} (h : (b == 10) = false) (r : List UInt8) : zdc (b :: r) = zdc r ∧ zdd (b :: r) = 1 + zdd r := by
 have hb : b ≠ 10 := by simpa using h
 constructor
 ·simp [zdc, hb]
 ·simp [zdd, hb]; omega
theorem zqr {b : UInt8} (h : (b == 10) = true) (r : List UInt8) : zdc (b :: r) = b :: r ∧ zdd (b :: r) = 0 := by
 have hb : b = 10 := by simpa using h
 constructor
 ·simp [zdc, hb]
 ·simp [zdd, hb]
theorem skipC_nil : zdc [] = [] ∧ zdd [] = 0 := ⟨rfl, rfl⟩
theorem zln {kw : List UInt8 → Bool} {b : UInt8} {r : List UInt8} {k : Int} {n : Nat} (h : tok kw b r = .ok (k, n)) : n ≤ (b :: r).length := by
 have tw : ∀ p : UInt8 → Bool, (r.takeWhile p).length ≤ r.length := fun p => (List.takeWhile_sublist _).length_le
 unfold tok at h
 split at h
 ·simp only at h; split at h <;> simp at h; have := tw bIn; simp; omega
 ·split at h
  ·simp only at h; split at h
   ·simp at h
   ·split at h <;> simp at h; have := tw zaH; simp; omega
  ·simp only at h
   split at h <;> simp at h
   obtain ⟨_, rfl⟩ := h
   unfold sgn
   split
   ·rename_i h2
    by_cases hl : 2 ≤ (b :: r).length
    ·exact hl
    ·rw [zlf hl] at h2; cases h2
   ·split
    ·simp
    ·split <;> simp
theorem zxh {kw : List UInt8 → Bool} {b : UInt8} {r : List UInt8} {e : Int} (h : tok kw b r = .error e) : e = 2 ∨ e = 9 := by
 unfold tok at h
 split at h
 ·simp only at h; split at h <;> simp at h; omega
 ·split at h
  ·simp only at h; split at h
   ·simp at h; omega
   ·split at h <;> simp at h; omega
  ·simp only at h
   split at h <;> simp at h; omega
def zdC (s : List UInt8) : AV :=
 if s.length > 16384 then .tup [.sl [] .none, .int .i64 0, .int .i64 9] else
 match za8 (kwF kwds) s 0 with
 | .error (p, e) => .tup [.sl [] .none, .int .i64 p, .int .i64 e]
 | .ok l => .tup [.sl (l.map Tk.cs) .none, .int .i64 0, .int .i64 0]
theorem two {H : zaa} {x y : AB} : H ++ [x, y] = (H ++ [x]) ++ [y] := by simp
theorem zpS {H J : zaa} {K : AV → zaa → Prop} {p e : Int} (hs : HSc H) (hK : K (.tup [.sl [] .none, .int .i64 p, .int .i64 e]) H) : Out H.length K (.tup [.snil, .int .i64 p, .int .i64 e]) (H ++ J) :=
 Out.tup hs hK ⟨zd5, za4 rfl rfl, za4 rfl rfl, trivial⟩
theorem zxa (s : List UInt8) (H : zaa) (K : AV → zaa → Prop) (hK : K (zdC s) H) : ACalls tP zks [.str s] H K := by
 refine ACalls.out (zyK fun hs => ?_)
 by_cases hl : s.length > 16384
 ·have hl' : (16384 : Int) < s.length := by omega
  simp [zlM, hl', AV.isV]
  unfold zdC at hK
  rw [if_pos hl] at hK
  exact Out.tup0 hs hK ⟨zd5, za4 rfl rfl, za4 rfl rfl, trivial⟩
 have hl' : ¬ (16384 : Int) < s.length := by omega
 unfold zdC at hK
 rw [if_neg hl] at hK
 simp [zlM, hl']
 have hperm : ∀ n, HSc (H ++ [.perm zdt 3 n]) := fun n => hs.append rfl
 unfold zhK
 refine ALoop.own 5 zdt 3 rfl ?_
 show zhK (.str s) (.sl [] (.own H.length)) (.int .i64 0) (H ++ [.perm zdt 3 0]) (Out H.length K)
 refine zyH (Inv := fun q t5 t6 H' => ∃ (i : Nat) (l : List Tk), i ≤ s.length ∧ l.length ≤ i ∧ q = s.length - i ∧ t6 = .int .i64 i ∧ t5 = .sl (l.map Tk.cs) (.own H.length) ∧ H' = H ++ [.perm zdt 3 l.length] ∧ cat l (za8 (kwF kwds) (s.drop i) i) = za8 (kwF kwds) s 0) s.length ?_ ?_
 ·intro _; exact ⟨0, [], by omega, by simp, by omega, rfl, rfl, rfl, by simp⟩
 ·rintro q t5 t6 H' ⟨i, l, hi, hll, rfl, rfl, rfl, rfl, ho⟩ hsc hlen hsF Kb hKb
  have done : cat l (.ok [⟨6, [], s.length⟩]) = za8 (kwF kwds) s 0 → zhJ (.str s) (.sl (l.map Tk.cs) (.own H.length)) (H ++ [.perm zdt 3 l.length]) (Out H.length K) := by
   intro ho
   rw [← ho] at hK
   simp [zhJ, zrv, zav, zaU, zaA, zbt, zaB, AV.pd, zar, zaW, zaI, AV.isV]
   refine ⟨by omega, ?_⟩
   simp [cat, Tk.cs] at hK
   exact Out.tup hs hK ⟨slV, za4 rfl rfl, za4 rfl rfl, trivial⟩
  by_cases hlt : i < s.length
  ·have hdr := List.drop_eq_getElem_cons hlt
   simp [zlN, hlt]
   refine zuL _ _ _ ?_
   have e35 : ((s[i].toNat : Int) == 35) = (s[i] == 35) := zbT s[i] 35
   cases hbl : zcu s[i] with
   | true =>
    rw [hdr, zqH _ hbl] at ho
    simp [zeK]
    rw [zal (by omega) (by omega)]
    refine hKb _ _ ⟨s.length - (i + 1), by omega, Back.here (by simp) (hperm _) ?_ ⟨_, _, rfl, i + 1, l, by omega, by omega, rfl, by simp, rfl, rfl, ho⟩⟩
    simp [zeJ, AV.sc, AV.scV, AV.scA, AV.scB]
   | false =>
    simp [e35]
    cases hsh : (s[i] == 35) with
    | true =>
     simp
     rw [hdr, zqJ _ hbl hsh] at ho
     have h10 : (s[i] == 10) = false := by
      rw [beq_iff_eq] at hsh; rw [hsh]; rfl
     obtain ⟨c1, c2⟩ := zhg h10 (s.drop (i + 1))
     rw [Nat.add_assoc, ← c1, ← c2, ← hdr] at ho
     refine zyI (Inv := fun q t6 H' => ∃ (j : Nat), i ≤ j ∧ j ≤ s.length ∧ q = s.length - j ∧ t6 = .int .i64 j ∧ H' = H ++ [.perm zdt 3 l.length] ∧ cat l (za8 (kwF kwds) (zdc (s.drop j)) (j + zdd (s.drop j))) = za8 (kwF kwds) s 0) (s.length - i) ?_ ?_
     ·intro _; exact ⟨i, by omega, by omega, by omega, rfl, rfl, ho⟩
     ·rintro q t6 H' ⟨j, hij, hj, rfl, rfl, rfl, ho⟩ hsc hlen hsF Kb9 hKb9
      by_cases hjlt : j < s.length
      ·have hdrj := List.drop_eq_getElem_cons hjlt
       have e10 : ((s[j].toNat : Int) == 10) = (s[j] == 10) := zbT s[j] 10
       simp [zlO, hjlt, e10]
       cases hz : (s[j] == 10) with
       | true =>
        obtain ⟨d1, d2⟩ := zqr hz (s.drop (j + 1))
        rw [hdrj, d1, d2, ← hdrj, Nat.add_zero] at ho
        have hij' : i ≠ j := by rintro rfl; rw [h10] at hz; cases hz
        simp [zeK]
        refine hKb _ _ ⟨s.length - j, by omega, Back.here (by simp) (hperm _) ?_ ⟨_, _, rfl, j, l, by omega, by omega, rfl, by simp, rfl, rfl, ho⟩⟩
        simp [zeJ, AV.sc, AV.scV, AV.scA, AV.scB]
       | false =>
        obtain ⟨d1, d2⟩ := zhg hz (s.drop (j + 1))
        rw [hdrj, d1, d2, ← Nat.add_assoc] at ho
        simp
        rw [zal (by omega) (by omega)]
        refine hKb9 _ _ ⟨s.length - (j + 1), by omega, Back.here (by simp) (hperm _) ?_ ⟨_, rfl, j + 1, by omega, by omega, rfl, by simp, rfl, ho⟩⟩
        simp [zhI, AV.sc, AV.scV, AV.scA, AV.scB]
      ·obtain rfl : j = s.length := by omega
       simp [zlO]
       rw [List.drop_length, skipC_nil.1, skipC_nil.2, Nat.add_zero, zlp] at ho
       exact done ho
    | false =>
     simp
     refine zwo s (by omega) i hlt _ _ ?_
     unfold zhc
     cases ht : tok (kwF kwds) s[i] (s.drop (i + 1)) with
     | error e =>
      rw [hdr, zqI _ hbl hsh ht] at ho
      have he : (e != 0) = true := by rcases zxh ht with rfl | rfl <;> rfl
      rw [← ho] at hK
      simp [AV.known, AV.isV, he]
      exact zpS hs hK
     | ok kn =>
      obtain ⟨k, n⟩ := kn
      rw [hdr, zqK _ hbl hsh ht, zoK, ← hdr] at ho
      have hn := zln ht
      rw [← hdr] at hn
      simp at hn
      have hn0 := zlo ht
      simp [Tk.cs, AV.known, zaA, zbt, zaB, AV.pd, zar, zaW, zaI, zeK]
      refine ⟨by omega, ?_⟩
      rw [show min n (s.length - i) = n by omega, zal (by omega) (by omega), two]
      refine hKb _ _ ⟨s.length - (i + n), by omega, Back.same (by simp) (hperm _) ?_ ⟨_, _, rfl, i + n, l ++ [⟨k, (s.drop i).take n, i⟩], by omega, by simp; omega, rfl, by simp, by simp [Tk.cs], by simp, ?_⟩⟩
      ·simp [zeJ, AV.sc, AV.scV, AV.scA, AV.scB]
      ·rw [List.drop_drop] at ho; exact ho
  ·obtain rfl : i = s.length := by omega
   rw [List.drop_length, zlp] at ho
   simpa [zlN] using done ho
end Go.Proofs.YtacebbdfgbfgiaaGreat
namespace Go.Proofs.YtacebbdfgbfgiaaGreat
open Go Go.Abs
set_option maxRecDepth 4000
set_option maxRecDepth 4000
theorem zhk (s : List UInt8) (i n : Nat) : List.drop i (List.take (i + n) s) = List.take n (List.drop i s) := by
 rw [List.drop_take]; congr 1; omega
def zeG (t0 t5 t6 t7 t8 : AV) (H : zaa) (K : AV → zaa → Prop) (Kb5 : List AV → zaa → Prop) : Prop :=
 zac .gtr false t8 (.int .i64 24) fun t118 =>
 zag t118
 (zax [.snil, t6, (.int .i64 9)] (K · H))
 (ACalls tP zev [t7] H fun t121 H =>
 zag t121
 (zdH t0 t5 t6 t8 (.int .i64 2) H K Kb5)
 (zac .add false t6 t8 fun t126 =>
 zaD 0 0 t0 (some t6) (some t126) fun t127 =>
 ACalls tP zgv [t127] H fun t128 H =>
 zag t128
 (zdH t0 t5 t6 t8 (.int .i64 4) H K Kb5)
 (zdH t0 t5 t6 t8 (.int .i64 1) H K Kb5)))
section
variable (s : List UInt8) (hl : ¬ s.length > 16384) (i : Nat) (hlt : i < s.length) (H : zaa) (l : List Tk) (hll : l.length ≤ i) (hperm : ∀ n, HSc (H ++ [.perm za0 3 n])) (K : AV → zaa → Prop) (Kb : List AV → zaa → Prop)
include hl hlt hll hperm
theorem zxu (hLU : (zbs s[i] || bUp s[i]) = true)
  (app : ∀ (k : Int) (n : Nat), tok (kwF kwds) s[i] (s.drop (i + 1)) = .ok (k, n) → ∀ t, (s.drop i).take n = t → zfN (.str s) (.sl (l.map Tk.cs ++ [[.int .i64 k, .str t, .int .i64 i]]) (.own H.length)) (.int .i64 i) (.int .i64 n) (H ++ [.perm za0 3 (l.length + 1)]) (Out H.length K) Kb)
  (bad : ∀ e : Int, tok (kwF kwds) s[i] (s.drop (i + 1)) = .error e → Out H.length K (.tup [.snil, .int .i64 i, .int .i64 e]) (H ++ [.perm za0 3 l.length])) :
  zlA (.str s) (.sl (l.map Tk.cs) (.own H.length)) (.int .i64 i) (.int .u8 s[i].toNat) (.int .i64 1) (H ++ [.perm za0 3 l.length]) (Out H.length K) Kb := by
 refine zxH (Inv := fun q t8 H' => ∃ (j : Nat), i + j ≤ s.length ∧ 0 < j ∧ q = s.length - j ∧ t8 = .int .i64 j ∧ H' = H ++ [.perm za0 3 l.length] ∧ j + ((s.drop (i + j)).takeWhile bIn).length = ((s.drop (i + 1)).takeWhile bIn).length + 1) (s.length - 1) ?_ ?_
 ·intro _; exact ⟨1, by omega, by omega, by omega, rfl, rfl, by omega⟩
 ·rintro q t8 H' ⟨j, hij, hj0, rfl, rfl, rfl, hn⟩ hsc hlen hsF Kb18 hKb18
  have w1 : IntKind.i64.wrap ((i : Int) + j) = i + j := zal (by omega) (by omega)
  have w2 : IntKind.i64.wrap ((j : Int) + 1) = j + 1 := zal (by omega) (by omega)
  have fin : ((s.drop (i + j)).takeWhile bIn).length = 0 → zeG (.str s) (.sl (l.map Tk.cs) (.own H.length)) (.int .i64 i) (.int .u8 s[i].toNat) (.int .i64 j) (H ++ [.perm za0 3 l.length]) (Out H.length K) Kb := by
   intro h0
   rw [h0] at hn
   have htk : tok (kwF kwds) s[i] (s.drop (i + 1)) = if j > 24 then .error 9 else .ok (if bUp s[i] = true then 2 else if kwF kwds ((s.drop i).take j) = true then 4 else 1, j) := by
    rw [List.drop_eq_getElem_cons hlt]
    simp only [tok, hLU, if_true, ← hn, Nat.add_zero]
   by_cases h24 : j > 24
   ·have h24' : (24 : Int) < j := by omega
    rw [if_pos h24] at htk
    simp [zeG, h24', AV.isV]
    exact bad 9 htk
   ·have h24' : ¬ (24 : Int) < j := by omega
    rw [if_neg h24] at htk
    simp [zeG, h24']
    refine zhn _ _ _ ?_
    have fin2 : ∀ k, k = (if bUp s[i] = true then 2 else if kwF kwds ((s.drop i).take j) = true then 4 else 1 : Int) → zdH (.str s) (.sl (l.map Tk.cs) (.own H.length)) (.int .i64 i) (.int .i64 j) (.int .i64 k) (H ++ [.perm za0 3 l.length]) (Out H.length K) Kb := by
     intro k hk
     rw [← hk] at htk
     have := app k j htk _ rfl
     simp [zdH, w1, w2, zav, zaU, zaA, zbt, zaB, AV.pd, zar, zaW, zaI, zdI]
     refine ⟨by omega, by omega, by omega, ?_⟩
     rw [show ((i : Int) + j).toNat = i + j by omega, zhk]
     exact this
    cases hU : bUp s[i] with
    | true => simp; exact fin2 2 (by simp [hU])
    | false =>
     simp [w1, w2]
     refine ⟨by omega, by omega, ?_⟩
     rw [show ((i : Int) + j).toNat = i + j by omega, zhk]
     refine zvr _ _ _ ?_
     cases hkw : kwF kwds ((s.drop i).take j) with
     | true => simp; exact fin2 4 (by simp [hU, hkw])
     | false => simp; exact fin2 1 (by simp [hU, hkw])
  by_cases hjlt : i + j < s.length
  ·have e95 : ((s[i + j].toNat : Int) == 95) = (s[i + j] == 95) := zbT s[i + j] 95
   have hjlt' : (i + j : Int) < s.length := by omega
   rw [List.drop_eq_getElem_cons hjlt, List.takeWhile_cons] at hn fin
   have key : bIn s[i + j] = true → Kb18 (zfM (.str s) (.sl (l.map Tk.cs) (.own H.length)) (.int .i64 i) (.int .u8 s[i].toNat) (.int .i64 (j + 1))) (H ++ [.perm za0 3 l.length]) := by
    intro hbin
    rw [hbin] at hn
    simp at hn
    refine hKb18 _ _ ⟨s.length - (j + 1), by omega, Back.here (by simp) (hperm _) ?_ ⟨_, rfl, j + 1, by omega, by omega, rfl, by simp, rfl, by rw [← Nat.add_assoc]; omega⟩⟩
    simp [zfM, AV.sc, AV.scV, AV.scA, AV.scB]
   have no : bIn s[i + j] = false → zeG (.str s) (.sl (l.map Tk.cs) (.own H.length)) (.int .i64 i) (.int .u8 s[i].toNat) (.int .i64 j) (H ++ [.perm za0 3 l.length]) (Out H.length K) Kb := by
    intro hbin
    rw [hbin] at fin
    exact fin (by simp)
   have hget : s[((i : Int) + j).toNat]?.getD 0 = s[i + j] := by
    rw [show ((i : Int) + j).toNat = i + j by omega]
    simp [hjlt]
   unfold bIn at key no
   simp [zlx, w1, w2, hjlt', hget]
   refine ⟨by omega, ?_⟩
   refine zpu _ _ _ ?_
   cases hL : zbs s[i + j] with
   | true => simpa using key (by simp [hL])
   | false =>
    simp [w1, w2, hjlt', hget]
    refine ⟨by omega, zhn _ _ _ ?_⟩
    cases hU : bUp s[i + j] with
    | true => simpa using key (by simp [hU])
    | false =>
     simp [w1, w2, hjlt', hget]
     refine ⟨by omega, zj7 _ _ _ ?_⟩
     cases hD : zaH s[i + j] with
     | true => simpa using key (by simp [hD])
     | false =>
      simp [w1, w2, hjlt', hget, e95]
      refine ⟨by omega, ?_⟩
      cases h95 : (s[i + j] == 95) with
      | true => simpa using key (by simp [h95])
      | false => simpa [zeG, w1] using no (by simp [hL, hU, hD, h95])
  ·have hjlt' : ¬ (i + j : Int) < s.length := by omega
   have : s.drop (i + j) = [] := List.drop_eq_nil_of_le (by omega)
   rw [this] at fin
   have := fin rfl
   simp [zlx, w1, w2, hjlt']
   simpa [zeG, w1] using this
end
def zhs (t0 t5 t6 t8 : AV) (H : zaa) (K : AV → zaa → Prop) (Kb5 : List AV → zaa → Prop) : Prop :=
 zac .add false t6 t8 fun t172 =>
 zaD 0 0 t0 (some t6) (some t172) fun t173 =>
 ACalls tP zew [t173] H fun t174 H =>
 zas t174 0 fun t175 =>
 zas t174 1 fun t176 =>
 aUn .not t176 fun t178 =>
 zag t178
 (zax [.snil, t6, (.int .i64 9)] (K · H))
 (zac .add false t6 t8 fun t185 =>
 zaD 0 0 t0 (some t6) (some t185) fun t186 =>
 zav [(.int .i64 0), (.str []), (.int .i64 0)] [(0, 1), (1, 1), (2, 1)] [(0, (.int .i64 3)), (1, t186), (2, t6)] fun t188 =>
 zaA 3 [(.int .i64 0), (.str []), (.int .i64 0)] 1 [(0, t188)] fun t189 =>
 zar za0 3 32 t5 t189 H fun t190 H =>
 zdI t0 t190 t6 t8 H K Kb5)
def zeH (t0 t5 t6 t7 t8 : AV) (H : zaa) (K : AV → zaa → Prop) (Kb5 : List AV → zaa → Prop) : Prop :=
 zac .gtr false t8 (.int .i64 1) fun t161 =>
 zab t161 true H (fun K' => K' t7 H) fun t163 H =>
 zab t161 true H (fun K' => zac .eql false t163 (.int .u8 48) (K' · H)) fun t164 H =>
 zaj t161 t164 (.bool false) fun t165 =>
 zag t165
 (zax [.snil, t6, (.int .i64 2)] (K · H))
 (zac .add false t6 t8 fun t172 =>
 zaD 0 0 t0 (some t6) (some t172) fun t173 =>
 ACalls tP zew [t173] H fun t174 H =>
 zas t174 0 fun t175 =>
 zas t174 1 fun t176 =>
 aUn .not t176 fun t178 =>
 zag t178
 (zax [.snil, t6, (.int .i64 9)] (K · H))
 (zac .add false t6 t8 fun t185 =>
 zaD 0 0 t0 (some t6) (some t185) fun t186 =>
 zav [(.int .i64 0), (.str []), (.int .i64 0)] [(0, 1), (1, 1), (2, 1)] [(0, (.int .i64 3)), (1, t186), (2, t6)] fun t188 =>
 zaA 3 [(.int .i64 0), (.str []), (.int .i64 0)] 1 [(0, t188)] fun t189 =>
 zar za0 3 32 t5 t189 H fun t190 H =>
 zdI t0 t190 t6 t8 H K Kb5))
section
variable (s : List UInt8) (hl : ¬ s.length > 16384) (i : Nat) (hlt : i < s.length) (H : zaa) (l : List Tk) (hll : l.length ≤ i) (hperm : ∀ n, HSc (H ++ [.perm za0 3 n])) (K : AV → zaa → Prop) (Kb : List AV → zaa → Prop)
include hl hlt hll hperm
theorem zvE (hLU : ¬ (zbs s[i] || bUp s[i]) = true) (hD : zaH s[i] = true)
  (app : ∀ (k : Int) (n : Nat), tok (kwF kwds) s[i] (s.drop (i + 1)) = .ok (k, n) → ∀ t, (s.drop i).take n = t → zfN (.str s) (.sl (l.map Tk.cs ++ [[.int .i64 k, .str t, .int .i64 i]]) (.own H.length)) (.int .i64 i) (.int .i64 n) (H ++ [.perm za0 3 (l.length + 1)]) (Out H.length K) Kb)
  (bad : ∀ e : Int, tok (kwF kwds) s[i] (s.drop (i + 1)) = .error e → Out H.length K (.tup [.snil, .int .i64 i, .int .i64 e]) (H ++ [.perm za0 3 l.length])) :
  zlB (.str s) (.sl (l.map Tk.cs) (.own H.length)) (.int .i64 i) (.int .u8 s[i].toNat) (.int .i64 1) (H ++ [.perm za0 3 l.length]) (Out H.length K) Kb := by
 refine zxI (Inv := fun q t8 H' => ∃ (j : Nat), i + j ≤ s.length ∧ 0 < j ∧ q = s.length - j ∧ t8 = .int .i64 j ∧ H' = H ++ [.perm za0 3 l.length] ∧ j + ((s.drop (i + j)).takeWhile zaH).length = ((s.drop (i + 1)).takeWhile zaH).length + 1) (s.length - 1) ?_ ?_
 ·intro _; exact ⟨1, by omega, by omega, by omega, rfl, rfl, by omega⟩
 ·rintro q t8 H' ⟨j, hij, hj0, rfl, rfl, rfl, hn⟩ hsc hlen hsF Kb18 hKb18
  have w1 : IntKind.i64.wrap ((i : Int) + j) = i + j := zal (by omega) (by omega)
  have w2 : IntKind.i64.wrap ((j : Int) + 1) = j + 1 := zal (by omega) (by omega)
  have e48 : ((s[i].toNat : Int) == 48) = (s[i] == 48) := zbT s[i] 48
  have fin : ((s.drop (i + j)).takeWhile zaH).length = 0 → zeH (.str s) (.sl (l.map Tk.cs) (.own H.length)) (.int .i64 i) (.int .u8 s[i].toNat) (.int .i64 j) (H ++ [.perm za0 3 l.length]) (Out H.length K) Kb := by
   intro h0
   rw [h0] at hn
   have hdj : (s.drop i).take j = s[i] :: (s.drop (i + 1)).takeWhile zaH := by
    rw [List.drop_eq_getElem_cons hlt, show j = ((s.drop (i + 1)).takeWhile zaH).length + 1 by omega, zhj]
   have htk : tok (kwF kwds) s[i] (s.drop (i + 1)) = if (s[i] == 48 && decide (j > 1)) = true then .error 2 else if zbD ((s.drop i).take j) 0 = true then .ok (3, j) else .error 9 := by
    rw [List.drop_eq_getElem_cons hlt]
    simp only [tok, hLU, hD, if_true, ← hn, Nat.add_zero]
    rfl
   have hval : ∀ (K : AV → zaa → Prop) (H : zaa), (∀ n, K (.tup [.int .i64 n, .bool (zbD ((s.drop i).take j) 0)]) H) → ACalls tP zew [.str ((s.drop i).take j)] H K := by
    intro K H hK
    refine zxq _ ?_ (by simp; omega) _ _ hK
    intro c hc
    rw [hdj] at hc
    rcases List.mem_cons.1 hc with rfl | hc
    ·exact hD
    ·exact List.all_eq_true.1 (List.all_takeWhile) c hc
   have rest : ¬ (s[i] == 48 && decide (j > 1)) = true → zhs (.str s) (.sl (l.map Tk.cs) (.own H.length)) (.int .i64 i) (.int .i64 j) (H ++ [.perm za0 3 l.length]) (Out H.length K) Kb := by
    intro hne
    rw [if_neg hne] at htk
    simp [zhs, w1]
    refine ⟨by omega, by omega, ?_⟩
    rw [show ((i : Int) + j).toNat = i + j by omega, zhk]
    refine hval _ _ fun n => ?_
    cases hv : zbD ((s.drop i).take j) 0 with
    | false =>
     rw [hv] at htk
     simp [AV.isV]
     exact bad 9 htk
    | true =>
     rw [hv] at htk
     have := app 3 j htk _ rfl
     simp [zav, zaU, zaA, zbt, zaB, AV.pd, zar, zaW, zaI, zdI]
     refine ⟨by omega, by omega, by omega, ?_⟩
     exact this
   by_cases h1 : j > 1
   ·have h1' : (1 : Int) < j := by omega
    have hd : decide (j > 1) = true := decide_eq_true h1
    rw [hd] at rest htk
    cases hz : (s[i] == 48) with
    | true =>
     rw [hz] at htk
     simp [zeH, h1', e48, hz, AV.isV]
     exact bad 2 htk
    | false =>
     have := rest (by rw [hz]; decide)
     simp [zeH, h1', e48, hz]
     simpa [zhs] using this
   ·have h1' : ¬ (1 : Int) < j := by omega
    have := rest (by rw [decide_eq_false h1]; simp)
    simp [zeH, h1']
    simpa [zhs] using this
  by_cases hjlt : i + j < s.length
  ·have hjlt' : (i + j : Int) < s.length := by omega
   rw [List.drop_eq_getElem_cons hjlt, List.takeWhile_cons] at hn fin
   have hget : s[((i : Int) + j).toNat]?.getD 0 = s[i + j] := by
    rw [show ((i : Int) + j).toNat = i + j by omega]
    simp [hjlt]
   simp [zly, w1, w2, hjlt', hget]
   refine ⟨by omega, ?_⟩
   refine zj7 _ _ _ ?_
   cases hb : zaH s[i + j] with
   | true =>
    rw [hb] at hn
    simp at hn
    simp [w1, w2]
    refine hKb18 _ _ ⟨s.length - (j + 1), by omega, Back.here (by simp) (hperm _) ?_ ⟨_, rfl, j + 1, by omega, by omega, rfl, by simp, rfl, by rw [← Nat.add_assoc]; omega⟩⟩
    simp [zhu, AV.sc, AV.scV, AV.scA, AV.scB]
   | false =>
    rw [hb] at fin
    have := fin (by simp)
    simp [w1, w2]
    simpa [zeH, w1] using this
  ·have hjlt' : ¬ (i + j : Int) < s.length := by omega
   have : s.drop (i + j) = [] := List.drop_eq_nil_of_le (by omega)
   rw [this] at fin
   have := fin rfl
   simp [zly, w1, w2, hjlt']
   simpa [zeH, w1] using this
end
theorem zxb (s : List UInt8) (H : zaa) (K : AV → zaa → Prop) (hK : K (zdC s) H) : ACalls tP zkn [.str s] H K := by
 refine ACalls.out (zxN fun hs => ?_)
 by_cases hl : s.length > 16384
 ·have hl' : (16384 : Int) < s.length := by omega
  simp [zlv, hl', AV.isV]
  unfold zdC at hK
  rw [if_pos hl] at hK
  exact Out.tup0 hs hK ⟨zd5, za4 rfl rfl, za4 rfl rfl, trivial⟩
 have hl' : ¬ (16384 : Int) < s.length := by omega
 unfold zdC at hK
 rw [if_neg hl] at hK
 simp [zlv, hl']
 have hperm : ∀ n, HSc (H ++ [.perm za0 3 n]) := fun n => hs.append rfl
 unfold zhv
 refine ALoop.own 5 za0 3 rfl ?_
 show zhv (.str s) (.sl [] (.own H.length)) (.int .i64 0) (H ++ [.perm za0 3 0]) (Out H.length K)
 refine zxJ (Inv := fun q t5 t6 H' => ∃ (i : Nat) (l : List Tk), i ≤ s.length ∧ l.length ≤ i ∧ q = s.length - i ∧ t6 = .int .i64 i ∧ t5 = .sl (l.map Tk.cs) (.own H.length) ∧ H' = H ++ [.perm za0 3 l.length] ∧ cat l (za8 (kwF kwds) (s.drop i) i) = za8 (kwF kwds) s 0) s.length ?_ ?_
 ·intro _; exact ⟨0, [], by omega, by simp, by omega, rfl, rfl, rfl, by simp⟩
 ·rintro q t5 t6 H' ⟨i, l, hi, hll, rfl, rfl, rfl, rfl, ho⟩ hsc hlen hsF Kb hKb
  by_cases hlt : i < s.length
  ·have hdr := List.drop_eq_getElem_cons hlt
   have e9 : ((s[i].toNat : Int) == 9) = (s[i] == 9) := zbT s[i] 9
   have e10 : ((s[i].toNat : Int) == 10) = (s[i] == 10) := zbT s[i] 10
   have e13 : ((s[i].toNat : Int) == 13) = (s[i] == 13) := zbT s[i] 13
   have e32 : ((s[i].toNat : Int) == 32) = (s[i] == 32) := zbT s[i] 32
   have e35 : ((s[i].toNat : Int) == 35) = (s[i] == 35) := zbT s[i] 35
   cases hbl : zcu s[i] with
   | true =>
    rw [hdr, zqH _ hbl] at ho
    have key : zdG (.str s) (.sl (l.map Tk.cs) (.own H.length)) (.int .i64 (IntKind.i64.wrap (i + 1))) (H ++ [.perm za0 3 l.length]) (Out H.length K) Kb := by
     simp [zdG]
     rw [zal (by omega) (by omega)]
     refine hKb _ _ ⟨s.length - (i + 1), by omega, Back.here (by simp) (hperm _) ?_ ⟨_, _, rfl, i + 1, l, by omega, by omega, rfl, by simp, rfl, rfl, ho⟩⟩
     simp [zd8, AV.sc, AV.scV, AV.scA, AV.scB]
    unfold zcu at hbl
    cases h9 : (s[i] == 9) <;> cases h10 : (s[i] == 10) <;> cases h13 : (s[i] == 13) <;> cases h32 : (s[i] == 32) <;> simp [h9, h10, h13, h32] at hbl <;> simpa [zhr, hlt, e9, e10, e13, e32, h9, h10, h13, h32] using key
   | false =>
    have hbl' := hbl
    unfold zcu at hbl'
    simp only [Bool.or_eq_false_iff] at hbl'
    obtain ⟨⟨⟨h9, h10⟩, h13⟩, h32⟩ := hbl'
    have app : ∀ (k : Int) (n : Nat), tok (kwF kwds) s[i] (s.drop (i + 1)) = .ok (k, n) → (s[i] == 35) = false → ∀ t, (s.drop i).take n = t → zfN (.str s) (.sl (l.map Tk.cs ++ [[.int .i64 k, .str t, .int .i64 i]]) (.own H.length)) (.int .i64 i) (.int .i64 n) (H ++ [.perm za0 3 (l.length + 1)]) (Out H.length K) Kb := by
     intro k n ht hsh t hte
     subst hte
     rw [hdr, zqK _ hbl hsh ht, zoK, ← hdr] at ho
     have hn := zln ht
     rw [← hdr] at hn
     simp at hn
     have hn0 := zlo ht
     simp [zfN, zdG]
     rw [zal (by omega) (by omega)]
     refine hKb _ _ ⟨s.length - (i + n), by omega, Back.here (by simp) (hperm _) ?_ ⟨_, _, rfl, i + n, l ++ [⟨k, (s.drop i).take n, i⟩], by omega, by simp; omega, rfl, by simp, by simp [Tk.cs], by simp, ?_⟩⟩
     ·simp [zd8, AV.sc, AV.scV, AV.scA, AV.scB]
     ·rw [List.drop_drop] at ho; exact ho
    have bad : ∀ e : Int, tok (kwF kwds) s[i] (s.drop (i + 1)) = .error e → (s[i] == 35) = false → Out H.length K (.tup [.snil, .int .i64 i, .int .i64 e]) (H ++ [.perm za0 3 l.length]) := by
     intro e ht hsh
     rw [hdr, zqI _ hbl hsh ht] at ho
     rw [← ho] at hK
     exact zpS hs hK
    simp [zhr, hlt, e9, e10, e13, e32, e35, h9, h10, h13, h32]
    cases hsh : (s[i] == 35) with
    | true =>
     simp
     rw [hdr, zqJ _ hbl hsh] at ho
     obtain ⟨c1, c2⟩ := zhg h10 (s.drop (i + 1))
     rw [Nat.add_assoc, ← c1, ← c2, ← hdr] at ho
     refine zxG (Inv := fun q t6 H' => ∃ (j : Nat), i ≤ j ∧ j ≤ s.length ∧ q = s.length - j ∧ t6 = .int .i64 j ∧ H' = H ++ [.perm za0 3 l.length] ∧ cat l (za8 (kwF kwds) (zdc (s.drop j)) (j + zdd (s.drop j))) = za8 (kwF kwds) s 0) (s.length - i) ?_ ?_
     ·intro _; exact ⟨i, by omega, by omega, by omega, rfl, rfl, ho⟩
     ·rintro q t6 H' ⟨j, hij, hj, rfl, rfl, rfl, ho⟩ hsc hlen hsF Kb9 hKb9
      by_cases hjlt : j < s.length
      ·have hdrj := List.drop_eq_getElem_cons hjlt
       have e10 : ((s[j].toNat : Int) != 10) = !(s[j] == 10) := by rw [← zbT s[j] 10]; rfl
       simp [zlw, hjlt, e10]
       cases hz : (s[j] == 10) with
       | true =>
        obtain ⟨d1, d2⟩ := zqr hz (s.drop (j + 1))
        rw [hdrj, d1, d2, ← hdrj, Nat.add_zero] at ho
        have hij' : i ≠ j := by rintro rfl; rw [h10] at hz; cases hz
        simp [zdG]
        refine hKb _ _ ⟨s.length - j, by omega, Back.here (by simp) (hperm _) ?_ ⟨_, _, rfl, j, l, by omega, by omega, rfl, by simp, rfl, rfl, ho⟩⟩
        simp [zd8, AV.sc, AV.scV, AV.scA, AV.scB]
       | false =>
        obtain ⟨d1, d2⟩ := zhg hz (s.drop (j + 1))
        rw [hdrj, d1, d2, ← Nat.add_assoc] at ho
        simp
        rw [zal (by omega) (by omega)]
        refine hKb9 _ _ ⟨s.length - (j + 1), by omega, Back.here (by simp) (hperm _) ?_ ⟨_, rfl, j + 1, by omega, by omega, rfl, by simp, rfl, ho⟩⟩
        simp [zht, AV.sc, AV.scV, AV.scA, AV.scB]
      ·obtain rfl : j = s.length := by omega
       simp [zlw, zdG]
       rw [List.drop_length, skipC_nil.1, skipC_nil.2, Nat.add_zero] at ho
       refine hKb _ _ ⟨0, by omega, Back.here (by simp) (hperm _) ?_ ⟨_, _, rfl, s.length, l, by omega, by omega, by omega, by simp, rfl, rfl, by rw [List.drop_length]; exact ho⟩⟩
       simp [zd8, AV.sc, AV.scV, AV.scA, AV.scB]
    | false =>
     replace app := fun k n h => app k n h hsh
     replace bad := fun e h => bad e h hsh
     simp
     refine zpu _ _ _ ?_
     by_cases hLU : (zbs s[i] || bUp s[i]) = true
     ·have hc : zbs s[i] = true ∨ (zbs s[i] = false ∧ bUp s[i] = true) := by cases hL : zbs s[i] <;> simp [hL] at hLU ⊢; exact hLU
      rcases hc with hL | ⟨hL, hU⟩
      case' inl => simp [hL]
      case' inr => simp [hL]; refine zhn _ _ _ ?_; simp [hU]
      all_goals exact zxu s hl i hlt H l hll hperm K Kb hLU app bad
     ·have hL : zbs s[i] = false := by simp at hLU; exact hLU.1
      have hU : bUp s[i] = false := by simp at hLU; exact hLU.2
      simp [hL]
      refine zhn _ _ _ ?_
      simp [hU]
      refine zj7 _ _ _ ?_
      cases hD : zaH s[i] with
      | true =>
       simp
       exact zvE s hl i hlt H l hll hperm K Kb hLU hD app bad
      | false =>
       simp
       refine ⟨by omega, ?_⟩
       have htk : tok (kwF kwds) s[i] (s.drop (i + 1)) = if sgn (s.drop i) = 0 then .error 2 else .ok (5, sgn (s.drop i)) := by
        simp only [tok, hLU, hD, hdr]
        rfl
       rw [hdr]
       refine zwy _ _ _ _ ?_
       rw [← hdr]
       by_cases hz : sgn (s.drop i) = 0
       ·simp [hz, AV.isV]
        exact bad 2 (by rw [htk, if_pos hz])
       ·have hz' : ((sgn (s.drop i) : Int) == 0) = false := by simpa using hz
        have ht := htk
        rw [if_neg hz] at ht
        have hn := zln ht
        rw [← hdr] at hn
        simp at hn
        have := app 5 (sgn (s.drop i)) ht _ rfl
        simp [hz']
        rw [zal (by omega) (by omega)]
        simp [zav, zaU, zaA, zbt, zaB, AV.pd, zar, zaW, zaI, zdI]
        refine ⟨by omega, by omega, by omega, ?_⟩
        rw [show ((i : Int) + (sgn (s.drop i) : Int)).toNat = i + sgn (s.drop i) by omega, zhk]
        exact this
  ·obtain rfl : i = s.length := by omega
   rw [List.drop_length, zlp] at ho
   rw [← ho] at hK
   simp [zhr, zav, zaU, zaA, zbt, zaB, AV.pd, zar, zaW, zaI, AV.isV]
   refine ⟨by omega, ?_⟩
   simp [cat, Tk.cs] at hK
   exact Out.tup hs hK ⟨slV, za4 rfl rfl, za4 rfl rfl, trivial⟩
end Go.Proofs.YtacebbdfgbfgiaaGreat
namespace Go.Proofs.YtacebbdfgbfgiaaGreat
open Go Go.Abs
set_option maxRecDepth 100000
def zcY : Nat → List Bool
 | 5 => rl false [0,1,2,3,115]
 | 12 => rl false [0,1,2,5,113]
 | 18 => rl false [0,1,2,5,85,3,25]
 | _ => []
noncomputable def znm : Code := Tryz.f63.body.getD .skip
noncomputable def zDt : List ResultVar := Tryz.f63.results.toList
def zi6 (t0 t3 t4 t5 : AV) : List AV := t0 :: ux 2 (t3 :: t4 :: t5 :: ux 115 [])
def zs1 : List Bool := zcY 5
noncomputable def zno : Code := zao [1, 1, 1, 0, 1, 0, 0] znm
def zsW (K : Kt) : AExit → List AV → zaa → Prop := zap tP zcY [1, 1, 1, 0, 1, 0] znm (zaw tP zDt K)
def zi8 (t0 t3 t4 t5 : AV) (H : zaa) (K : Kt) : Prop := ALoop tP zno (zsW K) (zi6 t0 t3 t4 t5) H
def zi4 (t0 t3 t4 t5 t6 t7 : AV) : List AV := t0 :: ux 2 (t3 :: t4 :: t5 :: t6 :: t7 :: ux 113 [])
def zs0 : List Bool := zcY 12
noncomputable def znn : Code := zao [1, 0, 0, 1, 1, 1, 1, 0, 0] zno
def zsV (K : Kt) (Kb5 : Lt) : AExit → List AV → zaa → Prop := zap tP zcY [1, 0, 0, 1, 1, 1, 1, 0] zno (zbm zs1 Kb5 (zsW K))
def zsY (t0 t3 t4 t5 t6 t7 : AV) (H : zaa) (K : Kt) (Kb5 : Lt) : Prop := ALoop tP znn (zsV K Kb5) (zi4 t0 t3 t4 t5 t6 t7) H
def zi5 (t0 t3 t4 t5 t6 t7 t93 t94 t95 : AV) : List AV := t0 :: ux 2 (t3 :: t4 :: t5 :: t6 :: t7 :: ux 85 (t93 :: t94 :: t95 :: ux 25 []))
def zDr : List Bool := zcY 18
noncomputable def zDn : Code := zao [1, 0, 0, 1, 1, 1, 0, 0] znn
def zDm (K : Kt) (Kb5 : Lt) (Kb12 : Lt) : AExit → List AV → zaa → Prop := zap tP zcY [1, 0, 0, 1, 1, 1, 0] znn (zbm zs0 Kb12 (zsV K Kb5))
def zsZ (t0 t3 t4 t5 t6 t7 t93 t94 t95 : AV) (H : zaa) (K : Kt) (Kb5 : Lt) (Kb12 : Lt) : Prop := ALoop tP zDn (zDm K Kb5 Kb12) (zi5 t0 t3 t4 t5 t6 t7 t93 t94 t95) H
def zsX (t0 t3 t4 t5 t6 t7 t93 t94 t95 : AV) (H : zaa) (K : Kt) (Kb5 : Lt) (Kb12 : Lt) (Kb18 : Lt) : Prop :=
 zac .add false t95 (.int .i64 1) fun t112 =>
 Kb18 (zi5 t0 t3 t4 t5 t6 t7 t93 t94 t112) H
def zi7 (t0 t3 t4 t5 t6 t7 t93 t94 t95 : AV) (H : zaa) (K : Kt) (Kb5 : Lt) (Kb12 : Lt) (Kb18 : Lt) : Prop :=
 zsX t0 t3 t4 t5 t6 t7 t93 t94 t95 H K Kb5 Kb12 Kb18
def znl (t0 t3 t4 t5 t6 t7 t93 t94 t95 : AV) (H : zaa) (K : Kt) (Kb5 : Lt) (Kb12 : Lt) (Kb18 : Lt) : Prop :=
 zac .lss false t95 t94 fun t96 =>
 zag t96
 (zai 3 t93 t95 fun t97 =>
 zad true 3 t97 H fun t98 =>
 zau [(.int .i64 0), (.int .i64 0), .snil] H fun t9 H =>
 zak 3 t9 t98 H fun H =>
 zad true 3 t9 H fun t99 =>
 zaf 1 t6 fun t101 =>
 zad false 1 t101 H fun t102 =>
 ACalls tP zgX [t99, t5, t102] H fun t103 H =>
 zag t103
 (zi7 t0 t3 t4 t5 t6 t7 t93 t94 t95 H K Kb5 Kb12 Kb18)
 (zae H (fun K' => K' t0 H) fun t104 =>
 zae H (fun K' => K' t5 H) fun t105 =>
 zae H (fun K' => zaD 1 3 t104 none (some t105) (K' · H)) fun t106 =>
 zae H (fun K' => zan true 3 t9 H (K' · H)) fun t107 =>
 zae H (fun K' => zaf 1 t6 (K' · H)) fun t108 =>
 zae H (fun K' => zan false 1 t108 H (K' · H)) fun t109 =>
 zbl H (fun H K' => ACalls tP zgQ [t106, t107, t109] H K') fun t110 =>
 zae H (fun K' => aUn .not t110 (K' · H)) fun t111 =>
 zag t111
 (K (.bool false) H)
 (zi7 t0 t3 t4 t5 t6 t7 t93 t94 t95 H K Kb5 Kb12 Kb18)))
 (zac .add false t7 (.int .i64 1) fun t60 =>
 Kb12 (zi4 t0 t3 t4 t5 t6 t60) H)
def znk (t0 t3 t4 t5 t6 t7 : AV) (H : zaa) (K : Kt) (Kb5 : Lt) (Kb12 : Lt) : Prop :=
 zaf 2 t6 fun t55 =>
 zad false 1 t55 H fun t56 =>
 zah 1 t56 fun t57 =>
 zac .lss false t7 t57 fun t58 =>
 zag t58
 (zaf 2 t6 fun t61 =>
 zad false 1 t61 H fun t62 =>
 zai 2 t62 t7 fun t64 =>
 zaf 0 t64 fun t65 =>
 zad false 1 t65 H fun t66 =>
 ACalls tP zgW [t66] H fun t67 H =>
 aUn .not t67 fun t68 =>
 zab t68 false H (fun K' => zaf 2 t6 (K' · H)) fun t70 H =>
 zab t68 false H (fun K' => zad false 1 t70 H (K' · H)) fun t71 H =>
 zab t68 false H (fun K' => K' t7 H) fun t72 H =>
 zab t68 false H (fun K' => zai 2 t71 t72 (K' · H)) fun t73 H =>
 zab t68 false H (fun K' => zaf 1 t73 (K' · H)) fun t74 H =>
 zab t68 false H (fun K' => zad false 1 t74 H (K' · H)) fun t75 H =>
 zab t68 false H (fun K' => zah 1 t75 (K' · H)) fun t76 H =>
 zab t68 false H (fun K' => zac .gtr false t76 (.int .i64 6) (K' · H)) fun t77 H =>
 zaj t68 (.bool true) t77 fun t78 =>
 zag t78
 (K (.bool false) H)
 (zaf 2 t6 fun t80 =>
 zad false 1 t80 H fun t81 =>
 zai 2 t81 t7 fun t83 =>
 zaf 0 t83 fun t84 =>
 zad false 1 t84 H fun t85 =>
 zaA 1 [(.str [])] 1 [(0, t85)] fun t86 =>
 zar zbx 1 16 t4 t86 H fun t87 H =>
 zaf 2 t6 fun t88 =>
 zad false 1 t88 H fun t89 =>
 zai 2 t89 t7 fun t91 =>
 zaf 1 t91 fun t92 =>
 zad false 1 t92 H fun t93 =>
 zah 1 t93 fun t94 =>
 zsZ t0 t3 t87 t5 t6 t7 t93 t94 (.int .i64 0) H K Kb5 Kb12))
 (zac .add false t5 (.int .i64 1) fun t18 =>
 Kb5 (zi6 t0 t3 t4 t18) H)
def zef (t0 t3 t4 t5 : AV) (H : zaa) (K : Kt) (Kb5 : Lt) : Prop :=
 zah 1 t0 fun t15 =>
 zac .lss false t5 t15 fun t16 =>
 zag t16
 (zai 3 t0 t5 fun t21 =>
 zad true 3 t21 H fun t22 =>
 zau [(.str []), (.int .i64 0), .snil] H fun t6 H =>
 zak 3 t6 t22 H fun H =>
 zaf 1 t6 fun t23 =>
 zad false 1 t23 H fun t24 =>
 zac .lss false t24 (.int .i64 0) fun t25 =>
 zab t25 false H (fun K' => zaf 1 t6 (K' · H)) fun t27 H =>
 zab t25 false H (fun K' => zad false 1 t27 H (K' · H)) fun t28 H =>
 zab t25 false H (fun K' => zac .gtr false t28 (.int .i64 6) (K' · H)) fun t29 H =>
 zaj t25 (.bool true) t29 fun t30 =>
 zab t30 false H (fun K' => zaf 2 t6 (K' · H)) fun t32 H =>
 zab t30 false H (fun K' => zad false 1 t32 H (K' · H)) fun t33 H =>
 zab t30 false H (fun K' => zah 1 t33 (K' · H)) fun t34 H =>
 zab t30 false H (fun K' => zac .lss false t34 (.int .i64 1) (K' · H)) fun t35 H =>
 zaj t30 (.bool true) t35 fun t36 =>
 zab t36 false H (fun K' => zaf 2 t6 (K' · H)) fun t38 H =>
 zab t36 false H (fun K' => zad false 1 t38 H (K' · H)) fun t39 H =>
 zab t36 false H (fun K' => zah 1 t39 (K' · H)) fun t40 H =>
 zab t36 false H (fun K' => zac .gtr false t40 (.int .i64 8) (K' · H)) fun t41 H =>
 zaj t36 (.bool true) t41 fun t42 =>
 zab t42 false H (fun K' => zaf 0 t6 (K' · H)) fun t44 H =>
 zab t42 false H (fun K' => zad false 1 t44 H (K' · H)) fun t45 H =>
 zab t42 false H (fun K' => ACalls tP zgW [t45] H K') fun t46 H =>
 zab t42 false H (fun K' => aUn .not t46 (K' · H)) fun t47 H =>
 zaj t42 (.bool true) t47 fun t48 =>
 zag t48
 (K (.bool false) H)
 (zaf 0 t6 fun t50 =>
 zad false 1 t50 H fun t51 =>
 zaA 1 [(.str [])] 1 [(0, t51)] fun t52 =>
 zar zbx 1 16 t3 t52 H fun t53 H =>
 zsY t0 t53 t4 t5 t6 (.int .i64 0) H K Kb5))
 (ACalls tP zfy [t3] H fun t114 H =>
 aUn .not t114 fun t115 =>
 zab t115 true H (fun K' => K' t4 H) fun t117 H =>
 zab t115 true H (fun K' => ACalls tP zfy [t117] H K') fun t118 H =>
 zab t115 true H (fun K' => aUn .not t118 (K' · H)) fun t119 H =>
 zaj t115 t119 (.bool false) fun t120 =>
 K t120 H)
def znj (t0 : AV) (H : zaa) (K : Kt) : Prop :=
 zah 1 t0 fun t11 =>
 zac .gtr false t11 (.int .i64 12) fun t12 =>
 zag t12
 (K (.bool false) H)
 (zi8 t0 .snil .snil (.int .i64 0) H K)
theorem zDp {t0 t3 t4 t5 t6 t7 t93 t94 t95 : AV} {H : zaa} {K : Kt} {Kb5 : Lt} {Kb12 : Lt} (Inv : Nat → AV → zaa → Prop) (n : Nat) (h0 : HSc H → Inv n t95 H)
  (round : Rd1 (fun t95 => zi5 t0 t3 t4 t5 t6 t7 t93 t94 t95) (fun t95 => fun H Kb18 => znl t0 t3 t4 t5 t6 t7 t93 t94 t95 H K Kb5 Kb12 Kb18) H Inv) : zsZ t0 t3 t4 t5 t6 t7 t93 t94 t95 H K Kb5 Kb12 :=
 lp1 (M := zcY) zDr t95 (by kernel_rfl) Inv n h0 round
theorem zDo {t0 t3 t4 t5 t6 t7 : AV} {H : zaa} {K : Kt} {Kb5 : Lt} (Inv : Nat → AV → AV → zaa → Prop) (n : Nat) (h0 : HSc H → Inv n t4 t7 H)
  (round : Rd2 (fun t4 => fun t7 => zi4 t0 t3 t4 t5 t6 t7) (fun t4 => fun t7 => fun H Kb12 => znk t0 t3 t4 t5 t6 t7 H K Kb5 Kb12) H Inv) : zsY t0 t3 t4 t5 t6 t7 H K Kb5 :=
 lp2 (M := zcY) zs0 t4 t7 (by kernel_rfl) Inv n h0 round
theorem zDq {t0 t3 t4 t5 : AV} {H : zaa} {K : Kt} (Inv : Nat → AV → AV → AV → zaa → Prop) (n : Nat) (h0 : HSc H → Inv n t3 t4 t5 H)
  (round : Rd3 (fun t3 => fun t4 => fun t5 => zi6 t0 t3 t4 t5) (fun t3 => fun t4 => fun t5 => fun H Kb5 => zef t0 t3 t4 t5 H K Kb5) H Inv) : zi8 t0 t3 t4 t5 H K :=
 lp3 (M := zcY) zs1 t3 t4 t5 (by kernel_rfl) Inv n h0 round
theorem zDs {t0 : AV} {H : zaa} {K : Kt} (h : HSc H → znj t0 H K) : ACalls tP zkK [t0] H K :=
 zam (M := zcY) Tryz.func63 (c := znm) (by kernel_rfl) (fun hs => Eq.mpr (by kernel_rfl) (h hs))
def zeg : Nat → List Bool
 | 2 => rl false [0,1,2,1,21]
 | 5 => rl false [0,1,2,2,20]
 | _ => []
noncomputable def znC : Code := Tryz.f85.body.getD .skip
noncomputable def zEA : List ResultVar := Tryz.f85.results.toList
def zjp (t0 t3 : AV) : List AV := t0 :: ux 2 (t3 :: ux 21 [])
def ztp : List Bool := zeg 2
noncomputable def znD : Code := zao [1, 0, 1, 0, 0] znC
def ztm (K : Kt) : AExit → List AV → zaa → Prop := zap tP zeg [1, 0, 1, 0] znC (zaw tP zEA K)
def ztn (t0 t3 : AV) (H : zaa) (K : Kt) : Prop := ALoop tP znD (ztm K) (zjp t0 t3) H
def zjq (t0 t3 t4 : AV) : List AV := t0 :: ux 2 (t3 :: t4 :: ux 20 [])
def zEy : List Bool := zeg 5
noncomputable def zEv : Code := zao [1, 0, 0, 1, 0, 0] znD
def zEu (K : Kt) (Kb2 : Lt) : AExit → List AV → zaa → Prop := zap tP zeg [1, 0, 0, 1, 0] znD (zbm ztp Kb2 (ztm K))
def zto (t0 t3 t4 : AV) (H : zaa) (K : Kt) (Kb2 : Lt) : Prop := ALoop tP zEv (zEu K Kb2) (zjq t0 t3 t4) H
def znB (t0 t3 t4 : AV) (H : zaa) (K : Kt) (Kb2 : Lt) (Kb5 : Lt) : Prop :=
 zac .lss false t4 t3 fun t13 =>
 zag t13
 (zae H (fun K' => K' t0 H) fun t16 =>
 zae H (fun K' => K' t3 H) fun t17 =>
 zae H (fun K' => zai 1 t16 t17 (K' · H)) fun t18 =>
 zae H (fun K' => zan false 1 t18 H (K' · H)) fun t19 =>
 zae H (fun K' => K' t0 H) fun t20 =>
 zae H (fun K' => K' t4 H) fun t21 =>
 zae H (fun K' => zai 1 t20 t21 (K' · H)) fun t22 =>
 zae H (fun K' => zan false 1 t22 H (K' · H)) fun t23 =>
 zae H (fun K' => zac .eql false t19 t23 (K' · H)) fun t24 =>
 zag t24
 (K (.bool true) H)
 (zac .add false t4 (.int .i64 1) fun t15 =>
 Kb5 (zjq t0 t3 t15) H))
 (zac .add false t3 (.int .i64 1) fun t10 =>
 Kb2 (zjp t0 t10) H)
def znA (t0 t3 : AV) (H : zaa) (K : Kt) (Kb2 : Lt) : Prop :=
 zah 1 t0 fun t7 =>
 zac .lss false t3 t7 fun t8 =>
 zag t8
 (zto t0 t3 (.int .i64 0) H K Kb2)
 (K (.bool false) H)
def ztl (t0 : AV) (H : zaa) (K : Kt) : Prop :=
 ztn t0 (.int .i64 0) H K
theorem zEx {t0 t3 t4 : AV} {H : zaa} {K : Kt} {Kb2 : Lt} (Inv : Nat → AV → zaa → Prop) (n : Nat) (h0 : HSc H → Inv n t4 H)
  (round : Rd1 (fun t4 => zjq t0 t3 t4) (fun t4 => fun H Kb5 => znB t0 t3 t4 H K Kb2 Kb5) H Inv) : zto t0 t3 t4 H K Kb2 :=
 lp1 (M := zeg) zEy t4 (by kernel_rfl) Inv n h0 round
theorem zEw {t0 t3 : AV} {H : zaa} {K : Kt} (Inv : Nat → AV → zaa → Prop) (n : Nat) (h0 : HSc H → Inv n t3 H)
  (round : Rd1 (fun t3 => zjp t0 t3) (fun t3 => fun H Kb2 => znA t0 t3 H K Kb2) H Inv) : ztn t0 t3 H K :=
 lp1 (M := zeg) ztp t3 (by kernel_rfl) Inv n h0 round
theorem zEz {t0 : AV} {H : zaa} {K : Kt} (h : HSc H → ztl t0 H K) : ACalls tP zfy [t0] H K :=
 zam (M := zeg) Tryz.func85 (c := znC) (by kernel_rfl) (fun hs => Eq.mpr (by kernel_rfl) (h hs))
end Go.Proofs.YtacebbdfgbfgiaaGreat

namespace Go.Proofs.YtacebbdfgbfgiaaGreat
open Go Go.Abs
set_option maxRecDepth 8000
theorem zcq {k : AV → Prop} (a b : AV) (vs : List AV) : zas (.tup (a :: b :: vs)) 1 k = k b := propext Iff.rfl
theorem zcr {k : AV → Prop} (a b c : AV) (vs : List AV) : zas (.tup (a :: b :: c :: vs)) 2 k = k c := propext Iff.rfl
def zd6 (s : List UInt8) : List Tk × Int × Int :=
 if s.length > 16384 then ([], 0, 9) else
 match za8 (kwF kwds) s 0 with
 | .error (p, e) => ([], p, e)
 | .ok l => (l, 0, 0)
theorem zqx (s : List UInt8) : zdC s = .tup [.sl ((zd6 s).1.map Tk.cs) .none, .int .i64 (zd6 s).2.1, .int .i64 (zd6 s).2.2] := by
 unfold zdC zd6
 split
 ·rfl
 ·split <;> (rename_i h; simp [h])
def zby (s : List UInt8) (x : List Tk × Int × Int) : Bool := x.2.2 == 0 && match x.1 with
 | [a, _] => a.kind == 2 && a.text == s
 | _ => false
def zch (s : List UInt8) : Bool := zby s (zd6 s)
theorem zrg (s : List UInt8) (H : zaa) (K : AV → zaa → Prop) (hK : K (.bool (zch s)) H) : ACalls tP zgs [.str s] H K := by
 refine ACalls.out (zxR fun hs => ?_)
 have hO : Out H.length K (.bool (zch s)) H := Out.bool (J := []) (by simp) (Nat.le_refl _) hs hK
 simp only [zrf]
 refine zxa s _ _ ?_
 rw [zqx]
 rw [zch] at hO
 generalize zd6 s = x at hO ⊢
 obtain ⟨l, p, e⟩ := x
 clear hK
 cases h0 : e == 0 with
 | false =>
  rw [show zby s (l, p, e) = false by simp [zby, h0]] at hO
  simp [zcq, zcr, h0]; exact hO
 | true =>
 match l with
 | [] =>
  rw [show zby s ([], p, e) = false by simp [zby]] at hO
  simp [zcq, zcr, h0]; exact hO
 | [x] =>
  rw [show zby s ([x], p, e) = false by simp [zby]] at hO
  simp [zcq, zcr, h0]; exact hO
 | [a, x] =>
  rw [show zby s ([a, x], p, e) = (a.kind == 2 && a.text == s) by simp [zby, h0]] at hO
  cases hk : a.kind == 2 with
  | false => rw [hk] at hO; simp [zcq, zcr, h0, Tk.cs, hk]; exact hO
  | true => rw [hk] at hO; simp [zcq, zcr, h0, Tk.cs, hk]; exact hO
 | a :: b :: c :: r =>
  rw [show zby s (a :: b :: c :: r, p, e) = false by simp [zby]] at hO
  have : ¬ ((r.length : Int) + 1 + 1 + 1 = 2) := by omega
  have h2 : ((r.length : Int) + 1 + 1 + 1 == 2) = false := by simpa using this
  simp [zcq, zcr, h0, h2]; exact hO
theorem zti (s : List UInt8) (H : zaa) (K : AV → zaa → Prop) (hK : K (.bool (zch s)) H) : ACalls tP zgW [.str s] H K := by
 refine ACalls.out (zEn fun hs => ?_)
 have hO : Out H.length K (.bool (zch s)) H := Out.bool (J := []) (by simp) (Nat.le_refl _) hs hK
 simp only [zth]
 refine zxb s _ _ ?_
 rw [zqx]
 rw [zch] at hO
 generalize zd6 s = x at hO ⊢
 obtain ⟨l, p, e⟩ := x
 clear hK
 cases h0 : e == 0 with
 | false =>
  rw [show zby s (l, p, e) = false by simp [zby, h0]] at hO
  simp [zcq, zcr, h0]; exact hO
 | true =>
 match l with
 | [] =>
  rw [show zby s ([], p, e) = false by simp [zby]] at hO
  simp [zcq, zcr, h0]; exact hO
 | [x] =>
  rw [show zby s ([x], p, e) = false by simp [zby]] at hO
  simp [zcq, zcr, h0]; exact hO
 | [a, x] =>
  rw [show zby s ([a, x], p, e) = (a.kind == 2 && a.text == s) by simp [zby, h0]] at hO
  cases hk : a.kind == 2 with
  | false => rw [hk] at hO; simp [zcq, zcr, h0, Tk.cs, hk]; exact hO
  | true => rw [hk] at hO; simp [zcq, zcr, h0, Tk.cs, hk]; exact hO
 | a :: b :: c :: r =>
  rw [show zby s (a :: b :: c :: r, p, e) = false by simp [zby]] at hO
  have : ¬ ((r.length : Int) + 1 + 1 + 1 = 2) := by omega
  have h2 : ((r.length : Int) + 1 + 1 + 1 == 2) = false := by simpa using this
  simp [zcq, zcr, h0, h2]; exact hO
def zbM (l : List (List UInt8)) : Bool := !decide l.Nodup
def strs (l : List (List UInt8)) : List (List AV) := l.map fun s => [.str s]
@[simp] theorem zJH (l : List (List UInt8)) : (strs l).length = l.length := by simp [strs]
theorem zxe {l : List (List UInt8)} {i : Nat} (h : i < (strs l).length) : (strs l)[i] = [.str (l[i]'(by simpa using h))] := by simp [strs]
theorem zv6 {l : List (List UInt8)} {i j : Nat} (hi : i < l.length) (hj : j < i) (h : l[i] = l[j]) : zbM l = true := by
 simp only [zbM, Bool.not_eq_true', decide_eq_false_iff_not]
 intro hn
 exact (List.pairwise_iff_getElem.mp hn) j i (by omega) hi hj h.symm
theorem zEB (l : List (List UInt8)) (hl : l.length ≤ 1000000) (H : zaa) (K : AV → zaa → Prop) (hK : K (.bool (zbM l)) H) : ACalls tP zfy [.sl (strs l) .none] H K := by
 refine ACalls.out (zEz fun hs => ?_)
 have hO : Out H.length K (.bool (zbM l)) H := Out.bool (J := []) (by simp) (Nat.le_refl _) hs hK
 simp [ztl]
 refine zEw (Inv := fun q t3 H' => ∃ i : Nat, i ≤ l.length ∧ q = l.length - i ∧ t3 = .int .i64 i ∧ (∀ a b (ha : a < i) (hb : b < a) (h' : a < l.length), l[a] ≠ l[b]) ∧ H = H') l.length ?_ ?_
 ·intro _; exact ⟨0, by omega, by omega, rfl, by omega, rfl⟩
 ·rintro q t3 H' ⟨i, hi, rfl, rfl, hne, rfl⟩ hsc hlen hsF Kb hKb
  by_cases hlt : i < l.length
  ·simp [znA, hlt]
   refine zEx (Inv := fun q t4 H' => ∃ j : Nat, j ≤ i ∧ q = i - j ∧ t4 = .int .i64 j ∧ (∀ b (hb : b < j) (hb' : b < l.length), l[i] ≠ l[b]) ∧ H = H') i ?_ ?_
   ·intro _; exact ⟨0, by omega, by omega, rfl, by omega, rfl⟩
   ·rintro q t4 H' ⟨j, hj, rfl, rfl, hnj, rfl⟩ hsc1 hlen1 hsF1 Kb1 hKb1
    by_cases hjl : j < i
    ·simp [znB, hjl, hlt, show j < l.length by omega, zxe]
     cases he : l[i] == l[j] with
     | true =>
      rw [zv6 hlt hjl (by simpa using he)] at hO
      simpa using hO
     | false =>
      simp
      rw [zal (by omega) (by omega)]
      refine hKb1 _ _ ⟨i - (j + 1), by omega, Back.at (J := []) (H2 := H) (by simp) (Nat.le_refl _) hs ?_ ⟨_, rfl, j + 1, by omega, rfl, by simp, ?_, rfl⟩⟩
      ·simp [zjq, AV.sc, AV.scV, AV.scA, AV.scB]
      ·intro b hb hb'
       by_cases hbj : b = j
       ·subst hbj; simpa using he
       ·exact hnj b (by omega) hb'
    ·obtain rfl : j = i := by omega
     simp [znB]
     rw [zal (by omega) (by omega)]
     refine hKb _ _ ⟨l.length - (j + 1), by omega, Back.at (J := []) (H2 := H) (by simp) (Nat.le_refl _) hs ?_ ⟨_, rfl, j + 1, by omega, rfl, by simp, ?_, rfl⟩⟩
     ·simp [zjp, AV.sc, AV.scV, AV.scA, AV.scB]
     ·intro a b ha hb h'
      by_cases haj : a = j
      ·subst haj; exact hnj b hb (by omega)
      ·exact hne a b (by omega) hb h'
  ·obtain rfl : i = l.length := by omega
   have : zbM l = false := by
    simp only [zbM, Bool.not_eq_false', decide_eq_true_eq]
    refine List.pairwise_iff_getElem.mpr fun a b ha hb hab he => ?_
    exact hne b a hb hab hb he.symm
   rw [this] at hO
   simp [znA]
   exact hO
def zeh : Nat → List Bool
 | 5 => rl false [0,1,2,2,9,2,89]
 | 13 => rl false [0,1,2,3,8,2,60,3,26]
 | _ => []
noncomputable def znR : Code := Tryz.f90.body.getD .skip
noncomputable def zE8 : List ResultVar := Tryz.f90.results.toList
def zjD (t0 t3 t4 t14 t15 : AV) : List AV := t0 :: ux 2 (t3 :: t4 :: ux 9 (t14 :: t15 :: ux 89 []))
def ztz : List Bool := zeh 5
noncomputable def znS : Code := zao [1, 1, 1, 0, 1, 0, 0] znR
def ztw (K : Kt) : AExit → List AV → zaa → Prop := zap tP zeh [1, 1, 1, 0, 1, 0] znR (zaw tP zE8 K)
def zty (t0 t3 t4 t14 t15 : AV) (H : zaa) (K : Kt) : Prop := ALoop tP znS (ztw K) (zjD t0 t3 t4 t14 t15) H
def zjC (t0 t3 t4 t5 t14 t15 t76 t77 t78 : AV) : List AV := t0 :: ux 2 (t3 :: t4 :: t5 :: ux 8 (t14 :: t15 :: ux 60 (t76 :: t77 :: t78 :: ux 26 [])))
def zE6 : List Bool := zeh 13
noncomputable def zE3 : Code := zao [1, 1, 0, 0, 1, 1, 1, 1, 1, 0, 0] znS
def zE2 (K : Kt) (Kb5 : Lt) : AExit → List AV → zaa → Prop := zap tP zeh [1, 1, 0, 0, 1, 1, 1, 1, 1, 0] znS (zbm ztz Kb5 (ztw K))
def ztx (t0 t3 t4 t5 t14 t15 t76 t77 t78 : AV) (H : zaa) (K : Kt) (Kb5 : Lt) : Prop := ALoop tP zE3 (zE2 K Kb5) (zjC t0 t3 t4 t5 t14 t15 t76 t77 t78) H
def znP (t0 t3 t4 t5 t14 t15 t76 t77 t78 : AV) (H : zaa) (K : Kt) (Kb5 : Lt) (Kb13 : Lt) : Prop :=
 zac .lss false t78 t77 fun t79 =>
 zag t79
 (zai 2 t76 t78 fun t81 =>
 zad true 2 t81 H fun t82 =>
 zau [(.str []), .snil] H fun t7 H =>
 zak 2 t7 t82 H fun H =>
 zaf 0 t7 fun t83 =>
 zad false 1 t83 H fun t84 =>
 ACalls tP zgs [t84] H fun t85 H =>
 aUn .not t85 fun t86 =>
 zab t86 false H (fun K' => K' t4 H) fun t88 H =>
 zab t86 false H (fun K' => zaf 0 t7 (K' · H)) fun t89 H =>
 zab t86 false H (fun K' => zad false 1 t89 H (K' · H)) fun t90 H =>
 zab t86 false H (fun K' => zcN (.bool false) false t88 t90 H (K' · H)) fun t91 H =>
 zaj t86 (.bool true) t91 fun t92 =>
 zab t92 false H (fun K' => K' t0 H) fun t94 H =>
 zab t92 false H (fun K' => K' t5 H) fun t95 H =>
 zab t92 false H (fun K' => K' t78 H) fun t96 H =>
 zab t92 false H (fun K' => ACalls tP zko [t94, t95, t96] H K') fun t97 H =>
 zab t92 false H (fun K' => aUn .not t97 (K' · H)) fun t98 H =>
 zaj t92 (.bool true) t98 fun t99 =>
 zag t99
 (K (.bool false) H)
 (zaf 0 t7 fun t101 =>
 zad false 1 t101 H fun t102 =>
 zci t4 t102 (.bool true) H fun H =>
 zac .add false t78 (.int .i64 1) fun t103 =>
 Kb13 (zjC t0 t3 t4 t5 t14 t15 t76 t77 t103) H))
 (zac .add false t15 (.int .i64 1) fun t104 =>
 Kb5 (zjD t0 t3 t4 t14 t104) H)
def znQ (t0 t3 t4 t14 t15 : AV) (H : zaa) (K : Kt) (Kb5 : Lt) : Prop :=
 zac .lss false t15 t14 fun t16 =>
 zag t16
 (zai 3 t0 t15 fun t20 =>
 zaf 0 t20 fun t21 =>
 zad false 1 t21 H fun t22 =>
 ACalls tP zgs [t22] H fun t23 H =>
 aUn .not t23 fun t24 =>
 zab t24 false H (fun K' => K' t3 H) fun t26 H =>
 zab t24 false H (fun K' => K' t0 H) fun t27 H =>
 zab t24 false H (fun K' => K' t15 H) fun t28 H =>
 zab t24 false H (fun K' => zai 3 t27 t28 (K' · H)) fun t29 H =>
 zab t24 false H (fun K' => zaf 0 t29 (K' · H)) fun t30 H =>
 zab t24 false H (fun K' => zad false 1 t30 H (K' · H)) fun t31 H =>
 zab t24 false H (fun K' => zcN (.bool false) false t26 t31 H (K' · H)) fun t32 H =>
 zaj t24 (.bool true) t32 fun t33 =>
 zab t33 false H (fun K' => K' t0 H) fun t35 H =>
 zab t33 false H (fun K' => K' t15 H) fun t36 H =>
 zab t33 false H (fun K' => zai 3 t35 t36 (K' · H)) fun t37 H =>
 zab t33 false H (fun K' => zaf 1 t37 (K' · H)) fun t38 H =>
 zab t33 false H (fun K' => zad false 1 t38 H (K' · H)) fun t39 H =>
 zab t33 false H (fun K' => zac .lss false t39 (.int .i64 0) (K' · H)) fun t40 H =>
 zaj t33 (.bool true) t40 fun t41 =>
 zab t41 false H (fun K' => K' t0 H) fun t43 H =>
 zab t41 false H (fun K' => K' t15 H) fun t44 H =>
 zab t41 false H (fun K' => zai 3 t43 t44 (K' · H)) fun t45 H =>
 zab t41 false H (fun K' => zaf 1 t45 (K' · H)) fun t46 H =>
 zab t41 false H (fun K' => zad false 1 t46 H (K' · H)) fun t47 H =>
 zab t41 false H (fun K' => zac .gtr false t47 (.int .i64 6) (K' · H)) fun t48 H =>
 zaj t41 (.bool true) t48 fun t49 =>
 zag t49
 (K (.bool false) H)
 (zai 3 t0 t15 fun t53 =>
 zaf 0 t53 fun t54 =>
 zad false 1 t54 H fun t55 =>
 zci t3 t55 (.bool true) H fun H =>
 zai 3 t0 t15 fun t58 =>
 zaf 2 t58 fun t59 =>
 zad false 1 t59 H fun t60 =>
 zah 1 t60 fun t61 =>
 zac .lss false t61 (.int .i64 1) fun t62 =>
 zab t62 false H (fun K' => K' t0 H) fun t64 H =>
 zab t62 false H (fun K' => K' t15 H) fun t65 H =>
 zab t62 false H (fun K' => zai 3 t64 t65 (K' · H)) fun t66 H =>
 zab t62 false H (fun K' => zaf 2 t66 (K' · H)) fun t67 H =>
 zab t62 false H (fun K' => zad false 1 t67 H (K' · H)) fun t68 H =>
 zab t62 false H (fun K' => zah 1 t68 (K' · H)) fun t69 H =>
 zab t62 false H (fun K' => zac .gtr false t69 (.int .i64 8) (K' · H)) fun t70 H =>
 zaj t62 (.bool true) t70 fun t71 =>
 zag t71
 (K (.bool false) H)
 (zai 3 t0 t15 fun t74 =>
 zaf 2 t74 fun t75 =>
 zad false 1 t75 H fun t76 =>
 zah 1 t76 fun t77 =>
 ztx t0 t3 t4 t15 t14 t15 t76 t77 (.int .i64 0) H K Kb5)))
 (K (.bool true) H)
def znO (t0 : AV) (H : zaa) (K : Kt) : Prop :=
 zah 1 t0 fun t9 =>
 zac .gtr false t9 (.int .i64 12) fun t10 =>
 zag t10
 (K (.bool false) H)
 (zdl H fun t11 H =>
 zdl H fun t12 H =>
 zah 1 t0 fun t14 =>
 zty t0 t11 t12 t14 (.int .i64 0) H K)
theorem zE4 {t0 t3 t4 t5 t14 t15 t76 t77 t78 : AV} {H : zaa} {K : Kt} {Kb5 : Lt} (Inv : Nat → AV → zaa → Prop) (n : Nat) (h0 : HSc H → Inv n t78 H)
  (round : Rd1 (fun t78 => zjC t0 t3 t4 t5 t14 t15 t76 t77 t78) (fun t78 => fun H Kb13 => znP t0 t3 t4 t5 t14 t15 t76 t77 t78 H K Kb5 Kb13) H Inv) : ztx t0 t3 t4 t5 t14 t15 t76 t77 t78 H K Kb5 :=
 lp1 (M := zeh) zE6 t78 (by kernel_rfl) Inv n h0 round
theorem zE5 {t0 t3 t4 t14 t15 : AV} {H : zaa} {K : Kt} (Inv : Nat → AV → zaa → Prop) (n : Nat) (h0 : HSc H → Inv n t15 H)
  (round : Rd1 (fun t15 => zjD t0 t3 t4 t14 t15) (fun t15 => fun H Kb5 => znQ t0 t3 t4 t14 t15 H K Kb5) H Inv) : zty t0 t3 t4 t14 t15 H K :=
 lp1 (M := zeh) ztz t15 (by kernel_rfl) Inv n h0 round
theorem zE7 {t0 : AV} {H : zaa} {K : Kt} (h : HSc H → znO t0 H K) : ACalls tP zkP [t0] H K :=
 zam (M := zeh) Tryz.func90 (c := znR) (by kernel_rfl) (fun hs => Eq.mpr (by kernel_rfl) (h hs))
def zhx : Nat → List Bool
 | 6 => rl false [0,2,6,1,18,3,29]
 | _ => []
noncomputable def zlD : Code := Tryz.f105.body.getD .skip
noncomputable def zxX : List ResultVar := Tryz.f105.results.toList
def zfO (t0 t1 t8 t27 t28 t29 : AV) : List AV := t0 :: t1 :: ux 6 (t8 :: ux 18 (t27 :: t28 :: t29 :: ux 29 []))
def zxV : List Bool := zhx 6
noncomputable def zxT : Code := zao [1, 1, 1, 1, 0, 1, 0, 0] zlD
def zxS (K : Kt) : AExit → List AV → zaa → Prop := zap tP zhx [1, 1, 1, 1, 0, 1, 0] zlD (zaw tP zxX K)
def zri (t0 t1 t8 t27 t28 t29 : AV) (H : zaa) (K : Kt) : Prop := ALoop tP zxT (zxS K) (zfO t0 t1 t8 t27 t28 t29) H
def zlC (t0 t1 t8 t27 t28 t29 : AV) (H : zaa) (K : Kt) (Kb6 : Lt) : Prop :=
 zac .lss false t29 t28 fun t30 =>
 zag t30
 (zai 3 t27 t29 fun t32 =>
 zad true 3 t32 H fun t33 =>
 zau [(.int .i64 0), (.int .i64 0), .snil] H fun t10 H =>
 zak 3 t10 t33 H fun H =>
 zae H (fun K' => K' t0 H) fun t34 =>
 zae H (fun K' => K' t1 H) fun t35 =>
 zae H (fun K' => zac .add false t35 (.int .i64 1) (K' · H)) fun t36 =>
 zae H (fun K' => zaD 1 3 t34 none (some t36) (K' · H)) fun t37 =>
 zae H (fun K' => zan true 3 t10 H (K' · H)) fun t38 =>
 zae H (fun K' => K' t0 H) fun t39 =>
 zae H (fun K' => K' t1 H) fun t40 =>
 zae H (fun K' => zai 3 t39 t40 (K' · H)) fun t41 =>
 zae H (fun K' => zaf 1 t41 (K' · H)) fun t42 =>
 zae H (fun K' => zan false 1 t42 H (K' · H)) fun t43 =>
 zbl H (fun H K' => ACalls tP zfw [t37, t38, t43] H K') fun t44 =>
 zae H (fun K' => aUn .not t44 (K' · H)) fun t45 =>
 zae H (fun K' => K' t45 H) fun t46 =>
 zab t46 false H (fun K' => zae H (fun K'' => K'' t8 H) (K' · H)) fun t47 H =>
 zab t46 false H (fun K' => zae H (fun K'' => K'' t29 H) (K' · H)) fun t48 H =>
 zab t46 false H (fun K' => zae H (fun K'' => zai 1 t47 t48 (K'' · H)) (K' · H)) fun t49 H =>
 zab t46 false H (fun K' => zae H (fun K'' => zan false 1 t49 H (K'' · H)) (K' · H)) fun t50 H =>
 zab t46 false H (fun K' => zae H (fun K'' => aUn .not t50 (K'' · H)) (K' · H)) fun t51 H =>
 zab t46 false H (fun K' => zae H (fun K'' => K'' t51 H) (K' · H)) fun t52 H =>
 zab t52 true H (fun K' => zae H (fun K'' => zan true 3 t10 H (K'' · H)) (K' · H)) fun t53 H =>
 zab t52 true H (fun K' => zae H (fun K'' => K'' t1 H) (K' · H)) fun t54 H =>
 zab t52 true H (fun K' => zbl H (fun H K'' => ACalls tP zgw [t53, t54] H K'') (K' · H)) fun t55 H =>
 zab t46 false H (fun K' => zae H (fun K'' => zaj t52 t55 (.bool false) (K'' · H)) (K' · H)) fun t56 H =>
 zae H (fun K' => zaj t46 (.bool true) t56 (K' · H)) fun t57 =>
 zag t57
 (K (.bool false) H)
 (zac .add false t29 (.int .i64 1) fun t58 =>
 Kb6 (zfO t0 t1 t8 t27 t28 t58) H))
 (K (.bool true) H)
def zrh (t0 t1 t2 : AV) (H : zaa) (K : Kt) : Prop :=
 zai 3 t0 t1 fun t13 =>
 zaf 2 t13 fun t14 =>
 zad false 1 t14 H fun t15 =>
 zai 2 t15 t2 fun t17 =>
 zaf 1 t17 fun t18 =>
 zad false 1 t18 H fun t19 =>
 zah 1 t19 fun t21 =>
 zac .gtr false t21 (.int .i64 6) fun t22 =>
 zag t22
 (K (.bool false) H)
 (ACalls tP zc7 [t0, t1, t2] H fun t26 H =>
 zah 1 t19 fun t28 =>
 zri t0 t1 t26 t19 t28 (.int .i64 0) H K)
theorem zxU {t0 t1 t8 t27 t28 t29 : AV} {H : zaa} {K : Kt} (Inv : Nat → AV → zaa → Prop) (n : Nat) (h0 : HSc H → Inv n t29 H)
  (round : Rd1 (fun t29 => zfO t0 t1 t8 t27 t28 t29) (fun t29 => fun H Kb6 => zlC t0 t1 t8 t27 t28 t29 H K Kb6) H Inv) : zri t0 t1 t8 t27 t28 t29 H K :=
 lp1 (M := zhx) zxV t29 (by kernel_rfl) Inv n h0 round
theorem zxW {t0 t1 t2 : AV} {H : zaa} {K : Kt} (h : HSc H → zrh t0 t1 t2 H K) : ACalls tP zko [t0, t1, t2] H K :=
 zam (M := zhx) Tryz.func105 (c := zlD) (by kernel_rfl) (fun hs => Eq.mpr (by kernel_rfl) (h hs))
end Go.Proofs.YtacebbdfgbfgiaaGreat

namespace Go.Proofs.YtacebbdfgbfgiaaGreat
open Go Go.Abs
set_option maxRecDepth 8000
def zcO (data : List Dat) (d : Nat) (vars : Int) (t : VT) : Bool := zbe (data.take (d + 1)) vars t && (zbu d vars t || !zbP d t)
theorem zxY (data : List Dat) (d : Nat) (c : Nat) (hd : d < data.length) (hc : c < (data[d]).cons.length) (hl : data.length ≤ 1000000) (hcl : (data[d]).cons.length ≤ 1000000) (hal : ((data[d]).cons[c]).args.length ≤ 1000000)
  (hb : ∀ x ∈ ((data[d]).cons[c]).args, x.nodes ≤ 1000000) (H : zaa) (K : AV → zaa → Prop)
  (hK : K (.bool (decide (((data[d]).cons[c]).args.length ≤ 6) && ((data[d]).cons[c]).args.all (zcO data d (data[d]).vars))) H) :
  ACalls tP zko [.sl (data.map Dat.cs) .none, .int .i64 d, .int .i64 c] H K := by
 refine ACalls.out (zxW fun hs => ?_)
 have e1 : (data.map Dat.cs)[d]? = some (data[d]).cs := by simp [hd]
 have e2 : ((data[d]).cons.map Con.cs)[c]? = some ((data[d]).cons[c]).cs := by simp [hc]
 have hrec := zm8 data d c hd hc hl hcl hal hb
 generalize hD : data[d] = D at *
 generalize hA : D.cons[c] = C at *
 have hO : ∀ J, Out H.length K (.bool (decide (C.args.length ≤ 6) && C.args.all (zcO data d D.vars))) (H ++ J) := fun J => Out.bool rfl (Nat.le_refl _) hs hK
 simp [zrh, e1, e2, Dat.cs, Con.cs, hd, hD, hc, hA]
 by_cases h6 : C.args.length ≤ 6
 ·have h6' : ¬ (6 : Int) < C.args.length := by omega
  have h6'' : ¬ 6 < C.args.length := by omega
  simp [h6', h6'']
  refine hrec _ _ ?_
  simp [h6] at hO
  refine zxU (Inv := fun q t29 H' => ∃ i : Nat, i ≤ C.args.length ∧ q = C.args.length - i ∧ t29 = .int .i64 i ∧ (C.args.drop i).all (zcO data d D.vars) = C.args.all (zcO data d D.vars) ∧ H = H') C.args.length ?_ ?_
  ·intro _; exact ⟨0, by omega, by omega, rfl, by simp, rfl⟩
  ·rintro q t29 H' ⟨i, hi, rfl, rfl, ho, rfl⟩ hsc hlen hsF Kb hKb
   by_cases hlt : i < C.args.length
   ·rw [List.drop_eq_getElem_cons hlt, List.all_cons] at ho
    have hnb := hb _ (List.getElem_mem hlt)
    obtain ⟨x1, x2, x3, hvx, hx1, hx2, hx3⟩ := zbj C.args[i]
    simp [zlC, hlt, hvx, e1, hd, hD, Dat.cs]
    refine ⟨⟨hx1, hx2, hx3⟩, ?_⟩
    rw [zal (by omega) (by omega), show ((d : Int) + 1).toNat = d + 1 by omega, ← List.map_take]
    refine ⟨by omega, by omega, ?_⟩
    rw [← hvx]
    refine zbE (.bool (zbe (data.take (d + 1)) D.vars C.args[i])) (fun J => ztf (data.take (d + 1)) D.vars _ (by omega) _ _ ⟨rfl, rfl⟩) ?_
    have hao : zcO data d D.vars C.args[i] = (zbe (data.take (d + 1)) D.vars C.args[i] && (zbu d D.vars C.args[i] || !zbP d C.args[i])) := rfl
    rw [hao] at ho
    cases hv : zbe (data.take (d + 1)) D.vars C.args[i] with
    | false =>
     rw [hv] at ho
     simp only [Bool.false_and] at ho
     rw [← ho] at hO
     simp; exact hO _
    | true =>
    rw [hv] at ho
    cases hsf : zbu d D.vars C.args[i] with
    | true =>
     rw [hsf] at ho
     simp [hlt, hsf]
     rw [zal (by omega) (by omega)]
     refine hKb _ _ ⟨C.args.length - (i + 1), by omega, Back.same (by simp) hs ?_ ⟨_, rfl, i + 1, by omega, rfl, by simp, by simpa using ho, rfl⟩⟩
     simp [zfO, AV.sc, AV.scV, AV.scA, AV.scB]
    | false =>
     rw [hsf] at ho
     simp [hlt, hsf]
     refine zbE (.bool (zbP d C.args[i])) (fun J => zyP d _ _ (Nat.le_refl _) (by omega) _ _ ⟨rfl, rfl⟩) ?_
     cases hm : zbP d C.args[i] with
     | true =>
      rw [hm] at ho
      simp only [Bool.not_true, Bool.or_false, Bool.and_false, Bool.false_and] at ho
      rw [← ho] at hO
      simp; exact hO _
     | false =>
      rw [hm] at ho
      simp
      rw [zal (by omega) (by omega)]
      refine hKb _ _ ⟨C.args.length - (i + 1), by omega, Back.same (by simp) hs ?_ ⟨_, rfl, i + 1, by omega, rfl, by simp, by simpa using ho, rfl⟩⟩
      simp [zfO, AV.sc, AV.scV, AV.scA, AV.scB]
   ·obtain rfl : i = C.args.length := by omega
    rw [List.drop_length, List.all_nil] at ho
    rw [← ho] at hO
    simp [zlC]
    simpa using hO []
 ·have h6' : (6 : Int) < C.args.length := by omega
  have h6'' : 6 < C.args.length := by omega
  simp [h6', h6'']
  simp [h6] at hO
  simpa using hO []
end Go.Proofs.YtacebbdfgbfgiaaGreat
namespace Go.Proofs.YtacebbdfgbfgiaaGreat
open Go Go.Abs
set_option maxRecDepth 8000
def zbv (l : List (List UInt8)) : List (List UInt8 × AV) := l.map fun s => (s, .bool true)
theorem zd4 (s : List UInt8) : ∀ l : List (List UInt8), (zbF (zbv l) s).getD (.bool false) = .bool (decide (s ∈ l))
 | [] => by simp [zbv, zbF]
 | a :: l => by
  have := zd4 s l
  cases h : a == s with
  | true =>
   have h' : a = s := by simpa using h
   simp [zbv, zbF, h, h']
  | false =>
   have h' : a ≠ s := by simpa using h
   have h'' : s ≠ a := fun e => h' e.symm
   simp only [zbv, List.map_cons, zbF, h] at this ⊢
   rw [this]; simp [h'']
theorem zld (s : List UInt8) : ∀ l : List (List UInt8), s ∉ l → zcw (zbv l) s (.bool true) = zbv (l ++ [s])
 | [], _ => rfl
 | a :: l, h => by
  have h1 : (a == s) = false := by simp at h; simpa using fun e => h.1 e.symm
  have := zld s l (by simp at h; exact h.2)
  simp only [zbv, List.map_cons, zcw, h1, List.cons_append] at this ⊢
  rw [this]
theorem zwq (m : Nat) (l : List (List UInt8)) : (AB.map (zbv l)).sc m = true := by simp [AB.sc, zbv, AV.scV]
def za3 (data : List Dat) : List (List UInt8) := data.map Dat.name
def zaE (data : List Dat) : List (List UInt8) := data.flatMap fun D => D.cons.map Con.name
def zcv (data : List Dat) (d : Nat) (vars : Int) (c : Con) : Bool := zch c.name && (decide (c.args.length ≤ 6) && c.args.all (zcO data d vars))
def zb1 (data : List Dat) (d : Nat) (D : Dat) : Bool := zch D.name && decide (0 ≤ D.vars) && decide (D.vars ≤ 6) && decide (1 ≤ D.cons.length) && decide (D.cons.length ≤ 8) && D.cons.all (zcv data d D.vars)
def zb9 (data : List Dat) : List Dat → Nat → Bool
 | [], _ => true
 | D :: l, d => zb1 data d D && zb9 data l (d + 1)
def zbh (data : List Dat) : Bool := decide (data.length ≤ 12) && zb9 data data 0 && !zbM (za3 data) && !zbM (zaE data)
theorem zqc {A R : List (List UInt8)} {s : List UInt8} (h : s ∈ A) : zbM (A ++ s :: R) = true := by
 simp only [zbM, Bool.not_eq_true', decide_eq_false_iff_not, List.nodup_append]
 rintro ⟨_, _, h3⟩
 exact h3 s h s (by simp) rfl
theorem zk6 {l : List (List UInt8)} (h : l.Nodup) : zbM l = false := by simp [zbM, h]
theorem zpJ {A : List (List UInt8)} {s : List UInt8} (h : A.Nodup) (hs : s ∉ A) : (A ++ [s]).Nodup := by
 rw [List.nodup_append]
 refine ⟨h, by simp, ?_⟩
 intro a ha b hb
 simp at hb; subst hb
 exact fun e => hs (e ▸ ha)
def zjO (data : List Dat) : Prop := ∀ D ∈ data, D.cons.length ≤ 1000000 ∧ ∀ c ∈ D.cons, c.args.length ≤ 1000000 ∧ ∀ x ∈ c.args, x.nodes ≤ 1000000
theorem zE9 (data : List Dat) (hB : zjO data) (hl : data.length ≤ 1000000) (H : zaa) (K : AV → zaa → Prop) (hK : K (.bool (zbh data)) H) : ACalls tP zkP [.sl (data.map Dat.cs) .none] H K := by
 refine ACalls.out (zE7 fun hs => ?_)
 have hO : ∀ J, Out H.length K (.bool (zbh data)) (H ++ J) := fun J => Out.bool rfl (Nat.le_refl _) hs hK
 by_cases h12 : data.length ≤ 12
 ·have h12' : ¬ (12 : Int) < data.length := by omega
  have h12'' : ¬ 12 < data.length := by omega
  have hD0 : zb9 data data 0 = false → ∀ J, Out H.length K (.bool false) (H ++ J) := fun h J => by
   have := hO J; rwa [show zbh data = false by simp [zbh, h]] at this
  have hD1 : zbM (za3 data) = true → ∀ J, Out H.length K (.bool false) (H ++ J) := fun h J => by
   have := hO J; rwa [show zbh data = false by simp [zbh, h]] at this
  have hD2 : zbM (zaE data) = true → ∀ J, Out H.length K (.bool false) (H ++ J) := fun h J => by
   have := hO J; rwa [show zbh data = false by simp [zbh, h]] at this
  simp [znO, h12', h12'']
  refine zE5 (Inv := fun q t15 H' => ∃ i : Nat, i ≤ data.length ∧ q = data.length - i ∧ t15 = .int .i64 i ∧ zb9 data (data.drop i) i = zb9 data data 0 ∧ (za3 (data.take i)).Nodup ∧ (zaE (data.take i)).Nodup ∧ H' = H ++ [.map (zbv (za3 (data.take i))), .map (zbv (zaE (data.take i)))]) data.length ?_ ?_
  ·intro _; exact ⟨0, by omega, by omega, rfl, by simp, by simp [za3], by simp [zaE], by simp [za3, zaE, zbv]⟩
  ·rintro q t15 H' ⟨i, hi, rfl, rfl, ho, hdn, hcn, rfl⟩ hsc hlen hsF Kb hKb
   by_cases hlt : i < data.length
   ·have e1 : (data.map Dat.cs)[i]? = some (data[i]).cs := by simp [hlt]
    obtain ⟨hB1, hB2⟩ := hB _ (List.getElem_mem hlt)
    have hargs := fun c hc => zxY data i c hlt hc hl hB1 (hB2 _ (List.getElem_mem hc)).1 (hB2 _ (List.getElem_mem hc)).2
    rw [List.drop_eq_getElem_cons hlt, zb9] at ho
    have htk : data.take (i + 1) = data.take i ++ [data[i]] := by rw [List.take_append_getElem hlt]
    have hsplit : data = data.take i ++ data[i] :: data.drop (i + 1) := by rw [List.getElem_cons_drop, List.take_append_drop]
    generalize hD : data[i] = D at *
    have hbad : zb1 data i D = false → zb9 data data 0 = false := fun h => by rw [← ho, h, Bool.false_and]
    have hno : ∀ J, zb1 data i D = false → Out H.length K (.bool false) (H ++ [.map (zbv (za3 (data.take i))), .map (zbv (zaE (data.take i)))] ++ J) := fun J h => by
     rw [List.append_assoc]; exact hD0 (hbad h) _
    simp [znQ, hlt, e1, hD, Dat.cs]
    refine zrg _ _ _ ?_
    cases hu : zch D.name with
    | false => simp; exact hD0 (hbad (by simp [zb1, hu])) _
    | true =>
    by_cases hmem : D.name ∈ za3 (data.take i)
    ·simp [hlt, e1, hD, Dat.cs, zd4, hmem]
     refine hD1 ?_ _
     rw [hsplit]; simp only [za3, List.map_append, List.map_cons]
     exact zqc hmem
    by_cases hv0 : D.vars < 0
    ·simp [hlt, e1, hD, Dat.cs, zd4, hmem, hv0]
     exact hD0 (hbad (by simp [zb1, show ¬ 0 ≤ D.vars by omega])) _
    by_cases hv6 : 6 < D.vars
    ·simp [hlt, e1, hD, Dat.cs, zd4, hmem, hv0, hv6]
     exact hD0 (hbad (by simp [zb1, show ¬ D.vars ≤ 6 by omega])) _
    simp [hlt, e1, hD, Dat.cs, zd4, hmem, hv0, hv6, zld _ _ hmem]
    by_cases hc1 : D.cons.length < 1
    ·have hc1' : (D.cons.length : Int) < 1 := by omega
     simp [hc1']
     exact hD0 (hbad (by simp [zb1, show ¬ 1 ≤ D.cons.length by omega])) _
    have hc1' : ¬ (D.cons.length : Int) < 1 := by omega
    by_cases hc8 : 8 < D.cons.length
    ·have hc8' : (8 : Int) < D.cons.length := by omega
     simp [hlt, e1, hD, Dat.cs, hc1', hc8', hc8]
     exact hD0 (hbad (by simp [zb1, show ¬ D.cons.length ≤ 8 by omega])) _
    have hc8' : ¬ (8 : Int) < D.cons.length := by omega
    have hdat : zb1 data i D = D.cons.all (zcv data i D.vars) := by
     simp [zb1, hu, show 0 ≤ D.vars by omega, show D.vars ≤ 6 by omega, show 1 ≤ D.cons.length by omega, show D.cons.length ≤ 8 by omega]
    simp [hlt, e1, hD, Dat.cs, hc1', hc8', hc8]
    have hdn' : (za3 (data.take (i + 1))).Nodup := by
     rw [htk]; simp only [za3, List.map_append, List.map_cons, List.map_nil]; exact zpJ hdn hmem
    have hde : za3 (data.take i) ++ [D.name] = za3 (data.take (i + 1)) := by rw [htk]; simp [za3]
    rw [hde]
    refine zE4 (Inv := fun q t78 H' => ∃ j : Nat, j ≤ D.cons.length ∧ q = D.cons.length - j ∧ t78 = .int .i64 j ∧ (D.cons.drop j).all (zcv data i D.vars) = D.cons.all (zcv data i D.vars) ∧ (zaE (data.take i) ++ (D.cons.take j).map Con.name).Nodup ∧ H' = H ++ [.map (zbv (za3 (data.take (i + 1)))), .map (zbv (zaE (data.take i) ++ (D.cons.take j).map Con.name))]) D.cons.length ?_ ?_
    ·intro _; exact ⟨0, by omega, by omega, rfl, by simp, by simpa using hcn, by simp⟩
    ·rintro q t78 H' ⟨j, hj, rfl, rfl, hoc, hcj, rfl⟩ hsc1 hlen1 hsF1 Kb1 hKb1
     have hscH : ∀ A B, HSc (H ++ [.map (zbv A), .map (zbv B)]) := fun A B => hs.append (by simp [zwq])
     by_cases hjl : j < D.cons.length
     ·have e2 : (D.cons.map Con.cs)[j]? = some (D.cons[j]).cs := by simp [hjl]
      have hargs' := hargs j hjl
      rw [List.drop_eq_getElem_cons hjl, List.all_cons] at hoc
      have htj : zaE (data.take i) ++ (D.cons.take (j + 1)).map Con.name = (zaE (data.take i) ++ (D.cons.take j).map Con.name) ++ [(D.cons[j]).name] := by
       rw [← List.take_append_getElem hjl, List.map_append, List.append_assoc]; rfl
      have hcs : zaE data = (zaE (data.take i) ++ (D.cons.take j).map Con.name) ++ (D.cons[j]).name :: ((D.cons.drop (j + 1)).map Con.name ++ zaE (data.drop (i + 1))) := by
       have h1 : D.cons.map Con.name = (D.cons.take j).map Con.name ++ (D.cons[j]).name :: (D.cons.drop (j + 1)).map Con.name := by
        rw [← List.map_cons (f := Con.name), List.getElem_cons_drop, ← List.map_append, List.take_append_drop]
       conv => lhs; rw [hsplit]
       simp only [zaE, List.flatMap_append, List.flatMap_cons, List.append_assoc, h1, List.cons_append]
      generalize hC : D.cons[j] = C at *
      have hbad' : zcv data i D.vars C = false → zb9 data data 0 = false := fun h => hbad (by rw [hdat, ← hoc, h, Bool.false_and])
      generalize hA : zaE (data.take i) ++ (D.cons.take j).map Con.name = A at *
      simp only [znP]
      simp [hjl, hC, Con.cs, Nat.add_assoc]
      refine zrg _ _ _ ?_
      cases hu2 : zch C.name with
      | false => simp; exact hD0 (hbad' (by simp [zcv, hu2])) _
      | true =>
      by_cases hm2 : C.name ∈ A
      ·simp [zd4, hm2]
       exact hD2 (by rw [hcs]; exact zqc hm2) _
      ·simp [zd4, hm2]
       refine hargs' _ _ ?_
       have hce : zcv data i D.vars C = (decide (C.args.length ≤ 6) && C.args.all (zcO data i D.vars)) := by simp [zcv, hu2]
       rw [← hce]
       cases hco : zcv data i D.vars C with
       | false => simp; exact hD0 (hbad' hco) _
       | true =>
        rw [hco, Bool.true_and] at hoc
        simp [zld _ _ hm2]
        rw [zal (by omega) (by omega)]
        refine hKb1 _ _ ⟨D.cons.length - (j + 1), by omega, Back.at (J := [.cells [.str C.name, .sl (VT.css C.args) .none]]) (H2 := H ++ [.map (zbv (za3 (data.take (i + 1)))), .map (zbv (A ++ [C.name]))]) (by simp) (by simp) (hscH _ _) ?_ ⟨_, rfl, j + 1, by omega, rfl, by simp, hoc, ?_, ?_⟩⟩
        ·simp [zjC, AV.sc, AV.scV, AV.scA, AV.scB]
        ·rw [htj]; exact zpJ hcj hm2
        ·rw [htj]
     ·obtain rfl : j = D.cons.length := by omega
      rw [List.drop_length, List.all_nil] at hoc
      rw [List.take_length] at *
      simp [znP]
      rw [zal (by omega) (by omega)]
      have hce : zaE (data.take i) ++ D.cons.map Con.name = zaE (data.take (i + 1)) := by rw [htk]; simp [zaE]
      rw [hce] at hcj ⊢
      refine hKb _ _ ⟨data.length - (i + 1), by omega, Back.at (J := []) (by simp) (by simp) (hscH _ _) ?_ ⟨_, rfl, i + 1, by omega, rfl, by simp, ?_, hdn', hcj, rfl⟩⟩
      ·simp [zjD, AV.sc, AV.scV, AV.scA, AV.scB]
      ·rw [← ho, hdat, ← hoc, Bool.true_and]
   ·obtain rfl : i = data.length := by omega
    rw [List.drop_length, zb9] at ho
    rw [List.take_length] at *
    simp [znQ]
    have := hO [.map (zbv (za3 data)), .map (zbv (zaE data))]
    rwa [show zbh data = true by simp [zbh, h12, ← ho, zk6 hdn, zk6 hcn]] at this
 ·have h12' : (12 : Int) < data.length := by omega
  have h12'' : 12 < data.length := by omega
  rw [show zbh data = false by simp [zbh, h12]] at hO
  simp [znO, h12', h12'']
  simpa using hO []
end Go.Proofs.YtacebbdfgbfgiaaGreat
