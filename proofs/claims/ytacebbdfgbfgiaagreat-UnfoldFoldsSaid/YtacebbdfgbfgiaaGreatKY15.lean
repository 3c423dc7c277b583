import Derived.Test.YtacebbdfgbfgiaaGreatKTW3
import Derived.Test.YtacebbdfgbfgiaaGreatKNum
import Derived.Test.YtacebbdfgbfgiaaGreatProg
import Derived.KernelRfl
set_option linter.unusedSimpArgs false
set_option linter.unusedVariables false
namespace Go.Proofs.YtacebbdfgbfgiaaGreat
open Go Go.Abs
set_option maxRecDepth 4000
theorem zwb (b : UInt8) (r : List UInt8) (H : zaa) (K : AV → zaa → Prop) (hK : K (.int .i64 (sgn (b :: r))) H) : ACalls tP zku [.str (b :: r)] H K := by
 refine ACalls.out (zx3 fun hs => ?_)
 have hO := zb9 (K := K) (H := H) (r := .int .i64 (sgn (b :: r))) hs rfl rfl hK
 have one : zcx (b :: r) = false → zlI (.str (b :: r)) (.str sgns) (.int .i64 0) H (Out H.length K) := by
  intro h2
  rw [zqc b r h2] at hO
  have hlen : sgns.length = 13 := rfl
  generalize sgns = ws at *
  refine zx1 (Inv := fun q t4 H' => ∃ i : Nat, i ≤ ws.length ∧ q = ws.length - i ∧ t4 = .int .i64 i ∧ (ws.drop i).contains b = ws.contains b ∧ H' = H) ws.length ?_ ?_
  ·intro _; exact ⟨0, by omega, by omega, rfl, by simp, rfl⟩
  ·rintro q t8 H' ⟨i, hi, rfl, rfl, ho, rfl⟩ hsc _ hsF Kb hKb
   by_cases hlt : i < ws.length
   ·rw [List.drop_eq_getElem_cons hlt, List.contains_cons] at ho
    have e1 := zbQ b ws[i]
    cases hz : (b == ws[i]) with
    | true =>
     rw [hz, Bool.true_or] at ho
     rw [← ho] at hO
     simpa [zhM, hlt, e1, hz] using hO
    | false =>
     rw [hz, Bool.false_or] at ho
     simp [zhM, hlt, e1, hz]
     rw [zan (by omega) (by omega)]
     refine hKb _ _ ⟨ws.length - (i + 1), by omega, Back.here (Nat.le_refl _) hs ?_ ⟨_, rfl, i + 1, by omega, rfl, by simp, ho, rfl⟩⟩
     simp [zhN, AV.sc, AV.scV, AV.scA, AV.scB]
   ·obtain rfl : i = ws.length := by omega
    rw [List.drop_length] at ho
    rw [← ho] at hO
    simpa [zhM, hlt] using hO
 by_cases hl : 2 ≤ (b :: r).length
 ·have hl' : (2 : Int) ≤ r.length + 1 := by simp only [List.length_cons] at hl; omega
  have hl2 : 1 ≤ r.length := by simp only [List.length_cons] at hl; omega
  cases h2 : zcx (b :: r) with
  | true =>
   have h3 : sgn (b :: r) = 2 := by simp [sgn, h2]
   rw [h3] at hO
   unfold zcx at h2
   simp only [List.take_succ_cons] at h2 hO
   cases e1 : (b :: List.take 1 r == [45, 62]) with
   | true => simpa [zeU, hl', hl2, e1] using hO
   | false =>
    cases e2 : (b :: List.take 1 r == [60, 61]) with
    | true => simpa [zeU, hl', hl2, e1, e2] using hO
    | false =>
     rw [e1, e2] at h2
     simp only [Bool.false_or] at h2
     simpa [zeU, hl', hl2, e1, e2, h2] using hO
  | false =>
   have ho := one h2
   unfold sgns at ho
   unfold zcx at h2
   simp only [List.take_succ_cons] at h2
   rw [Bool.or_eq_false_iff, Bool.or_eq_false_iff] at h2
   simpa [zeU, hl', hl2, h2.1.1, h2.1.2, h2.2] using ho
 ·have ho := one (zlc hl)
  unfold sgns at ho
  have : ¬ ((2 : Int) ≤ r.length + 1) := by simp only [List.length_cons] at hl; omega
  simpa [zeU, this] using ho

def Tk.cs (t : Tk) : List AV := [.int .i64 t.kind, .str t.text, .int .i64 t.pos]
def zhl (kw : List UInt8 → Bool) (b : UInt8) (r : List UInt8) (i : Nat) : AV :=
 match tok kw b r with
 | .error e => .tup [.agg [.int .i64 0, .str [], .int .i64 0], .int .i64 e]
 | .ok (k, n) => .tup [.agg (Tk.cs ⟨k, (b :: r).take n, i⟩), .int .i64 0]
theorem zhq {p : UInt8 → Bool} (b : UInt8) (r : List UInt8) : (b :: r).take ((r.takeWhile p).length + 1) = b :: r.takeWhile p := by
 rw [List.take_succ_cons]
 congr 1
 induction r with
 | nil => simp
 | cons c r ih => by_cases h : p c = true <;> simp [h, ih]
theorem zvb : zdq tP zfy = true := by kernel_rfl
theorem zvc : zdq tP zd1 = true := by kernel_rfl
theorem zpy {H J : zaa} {K : AV → zaa → Prop} {k p e : Int} {t : List UInt8} (hs : HSc H) (h : K (.tup [.agg [.int .i64 k, .str t, .int .i64 p], .int .i64 e]) H) :
  Out H.length K (.tup [.agg [.int .i64 k, .str t, .int .i64 p], .int .i64 e]) (H ++ J) := Out.tup hs h ⟨zaR rfl rfl, zaR rfl rfl, trivial⟩
def zhT (t4 t6 : AV) (H : zaa) (K : AV → zaa → Prop) : Prop :=
 zaf 1 t6 fun t69 =>
 zad false 1 t69 H fun t70 =>
 ACalls tP zfz [t70] H fun t71 H =>
 aUn .not t71 fun t72 =>
 zag t72
 (zal [(.int .i64 0), (.str []), (.int .i64 0)] [(0, 1), (1, 1), (2, 1)] [] fun t73 =>
 zak 3 t4 t73 H fun H =>
 zad true 3 t4 H fun r0 =>
 zau [r0, (.int .i64 9)] (K · H))
 (zeY t4 t6 H K)
theorem zv3 (s : List UInt8) (hl : s.length ≤ 1000000) (i : Nat) (hi : i < s.length) (H : zaa) (K : AV → zaa → Prop) (hK : K (zhl (kwF kwds) s[i] (s.drop (i + 1)) i) H) : ACalls tP zkz [.str s, .int .i64 i] H K := by
 refine ACalls.out (zyy fun hs => ?_)
 have hdr := List.drop_eq_getElem_cons hi
 have hrl : (s.drop i).length ≤ 1000000 := by simp; omega
 generalize hb : s[i] = b at *
 generalize hr : s.drop (i + 1) = r at *
 have hb' : s[i]?.getD 0 = b := by simp [hi, hb]
 have post : ∀ (k : Int) (n : Nat), tok (kwF kwds) b r = .ok (k, n) → ∀ t, (b :: r).take n = t → zeY (.ptr H.length 0) (.ptr (H.length + 1) 0) (H ++ [.cells [.int .i64 0, .str [], .int .i64 0], .cells [.int .i64 k, .str t, .int .i64 i]]) (Out H.length K) := by
  intro k n ht t hte
  subst hte
  simp [zhl, ht, Tk.cs] at hK
  simp [zeY, zrk, AV.known, AV.isV]
  exact zpy hs hK
 have bad : ∀ e : Int, tok (kwF kwds) b r = .error e → ∀ J, Out H.length K (.tup [.agg [.int .i64 0, .str [], .int .i64 0], .int .i64 e]) (H ++ J) := by
  intro e ht J
  simp [zhl, ht] at hK
  exact zpy hs hK
 have hi' := Nat.le_of_lt hi
 by_cases hLU : (zbs b || bUp b) = true
 ·have hin : bIn b = true := by simp [bIn, hLU]
  simp [zlQ, hi, hb, hi', zal, zaB, AV.known]
  refine zkr b _ _ ?_
  have hc : zbs b = true ∨ (zbs b = false ∧ bUp b = true) := by cases hL : zbs b <;> simp [hL] at hLU ⊢; exact hLU
  have hpost := fun k => post k ((r.takeWhile bIn).length + 1)
  simp only [tok, hLU, if_true, zhq] at hpost
  rcases hc with hL | ⟨hL, hU⟩
  case' inl => simp [hL]
  case' inr => simp [hL]; refine zhv b _ _ ?_; simp [hU]
  all_goals
   rw [hdr]
   refine zpO bIn zfy zvb zw2 (b :: r) (by rw [← hdr]; exact hrl) _ _ ?_
   simp [hin, AV.known]
   by_cases hn : (r.takeWhile bIn).length + 1 > 24
   ·have hn' : (24 : Int) < (r.takeWhile bIn).length + 1 := by omega
    have := bad 9 (by simp only [tok, hLU, if_true]; rw [if_pos hn])
    simp [hn', AV.known, AV.isV]
    exact this _
   ·have hn' : ¬ (24 : Int) < (r.takeWhile bIn).length + 1 := by omega
    simp [hn']
    refine zhv b _ _ ?_
    rw [if_neg hn] at hpost
    cases hU : bUp b with
    | true =>
     simp [AV.known, zeX]
     exact hpost 2 (by simp [hU]) _ rfl
    | false =>
     simp [AV.known]
     refine zu9 _ _ _ ?_
     cases hkw : kwF kwds (b :: r.takeWhile bIn) with
     | true =>
      simp [AV.known, zeX]
      exact hpost 4 (by simp [hU, hkw]) _ rfl
     | false =>
      simp [AV.known, zeX]
      exact hpost 1 (by simp [hU, hkw]) _ rfl
 ·have hL : zbs b = false := by simp at hLU; exact hLU.1
  have hU : bUp b = false := by simp at hLU; exact hLU.2
  simp [zlQ, hi, hb, zal, zaB, AV.known]
  refine zkr b _ _ ?_
  simp [hL]
  refine zhv b _ _ ?_
  simp [hU]
  refine zkb b _ _ ?_
  cases hD : zaL b with
  | true =>
   simp [hi', AV.known]
   rw [hdr]
   refine zpO zaL zd1 zvc zkb (b :: r) (by rw [← hdr]; exact hrl) _ _ ?_
   have e1 : ((b.toNat : Int) == 48) = (b == 48) := zbQ b 48
   have htk : tok (kwF kwds) b r = if (b == 48 && decide ((r.takeWhile zaL).length + 1 > 1)) = true then .error 2 else if zbE (b :: r.takeWhile zaL) 0 = true then .ok (3, (r.takeWhile zaL).length + 1) else .error 9 := by
    simp only [tok, hLU, hD, if_true, zhq]
    rfl
   have hsm : ∀ J, ACalls tP zfz [.str (b :: r.takeWhile zaL)] (H ++ J) fun t H' => t = .bool (zbE (b :: r.takeWhile zaL) 0) ∧ H' = H ++ J := by
    intro J
    refine zwf _ ?_ ?_ _ _ ⟨rfl, rfl⟩
    ·intro c hc
     rcases List.mem_cons.1 hc with rfl | hc
     ·exact hD
     ·exact List.all_eq_true.1 (List.all_takeWhile) c hc
    ·have h1 : (r.takeWhile zaL).length ≤ r.length := (List.takeWhile_sublist _).length_le
     rw [hdr] at hrl
     simp at hrl ⊢
     omega
   simp [hD, AV.known, e1]
   have hpost := post 3 ((r.takeWhile zaL).length + 1)
   rw [zhq] at hpost
   rw [htk] at hpost bad
   have last : ∀ J, (¬ (b == 48 && decide ((r.takeWhile zaL).length + 1 > 1)) = true) → J = [.cells [.int .i64 0, .str [], .int .i64 0], .cells [.int .i64 3, .str (b :: r.takeWhile zaL), .int .i64 i]] → zhT (.ptr H.length 0) (.ptr (H.length + 1) 0) (H ++ J) (Out H.length K) := by
    rintro J hne rfl
    rw [if_neg hne] at hpost bad
    simp [zhT]
    refine (hsm _).mono ?_
    rintro _ _ ⟨rfl, rfl⟩
    cases hv : zbE (b :: r.takeWhile zaL) 0 with
    | true =>
     simp
     exact hpost (by simp [hv]) _ rfl
    | false =>
     simp [AV.known, zal, zaB, AV.isV]
     exact bad 9 (by simp [hv]) _
   cases hz : (b == 48) with
   | true =>
    simp [hz]
    by_cases hn : 1 < (r.takeWhile zaL).length + 1
    ·have hn' : (1 : Int) < (r.takeWhile zaL).length + 1 := by omega
     have hd : decide ((r.takeWhile zaL).length + 1 > 1) = true := decide_eq_true hn
     have := bad 2 (by rw [hz, hd]; rfl)
     simp [hn', AV.known, AV.isV]
     exact this _
    ·have hn' : ¬ (1 : Int) < (r.takeWhile zaL).length + 1 := by omega
     have hd : decide ((r.takeWhile zaL).length + 1 > 1) = false := decide_eq_false hn
     have := last _ (by rw [hz, hd]; decide) rfl
     simp [zhT, zal, zaB] at this
     simp [hn']
     exact this
   | false =>
    have := last _ (by simp [hz]) rfl
    simp [zhT, zal, zaB] at this
    simp [hz]
    exact this
  | false => 
   simp [hi', AV.known]
   rw [hdr]
   refine zwc b r _ _ ?_
   simp [AV.known]
   have htk : tok (kwF kwds) b r = if sgn (b :: r) = 0 then .error 2 else .ok (5, sgn (b :: r)) := by
    simp only [tok, hLU, hD]
    rfl
   by_cases hz : sgn (b :: r) = 0
   ·have := bad 2 (by rw [htk, if_pos hz])
    simp [hz, AV.isV]
    exact this _
   ·have := post 5 (sgn (b :: r)) (by rw [htk, if_neg hz]) _ rfl
    have he : (List.take (sgn (b :: r)) (b :: r)).isEmpty = false := by
     cases h : sgn (b :: r) with
     | zero => exact absurd h hz
     | succ n => simp
    simp [he]
    exact this
def cat (l : List Tk) : Except (Nat × Int) (List Tk) → Except (Nat × Int) (List Tk)
 | .error e => .error e
 | .ok m => .ok (l ++ m)
theorem zop (l m : List Tk) (r : Except (Nat × Int) (List Tk)) : cat l (cat m r) = cat (l ++ m) r := by cases r <;> simp [cat]
@[simp] theorem zIa (r : Except (Nat × Int) (List Tk)) : cat [] r = r := by cases r <;> rfl
def zdc (r : List UInt8) : List UInt8 := r.dropWhile (· != 10)
def zdd (r : List UInt8) : Nat := (r.takeWhile (· != 10)).length
section
variable (kw : List UInt8 → Bool)
theorem zln (p : Nat) : za8 kw [] p = .ok [⟨6, [], p⟩] := by unfold za8; rfl
theorem zqv {b : UInt8} (h : zcs b = true) (r : List UInt8) (p : Nat) : za8 kw (b :: r) p = za8 kw r (p + 1) := by
 conv => lhs; unfold za8
 simp [h]
theorem zqx {b : UInt8} (h0 : zcs b = false) (h : (b == 35) = true) (r : List UInt8) (p : Nat) : za8 kw (b :: r) p = za8 kw (zdc r) (p + 1 + zdd r) := by
 conv => lhs; unfold za8
 simp only [h0, h, Bool.false_eq_true, if_false, if_true]
 rfl
theorem zqw {b : UInt8} (h0 : zcs b = false) (h : (b == 35) = false) {r : List UInt8} {p : Nat} {e : Int} (ht : tok kw b r = .error e) : za8 kw (b :: r) p = .error (p, e) := by
 conv => lhs; unfold za8
 simp only [h0, h, Bool.false_eq_true, if_false, ht]
theorem zqy {b : UInt8} (h0 : zcs b = false) (h : (b == 35) = false) {r : List UInt8} {p : Nat} {k : Int} {n : Nat} (ht : tok kw b r = .ok (k, n)) :
  za8 kw (b :: r) p = cat [⟨k, (b :: r).take n, p⟩] (za8 kw ((b :: r).drop n) (p + n)) := by
 conv => lhs; unfold za8
 have hn := zlm ht
 obtain ⟨m, rfl⟩ : ∃ m, n = m + 1 := ⟨n - 1, by omega⟩
 simp only [h0, h, Bool.false_eq_true, if_false, ht, Nat.add_sub_cancel, List.drop_succ_cons]
 cases za8 kw (r.drop m) (p + (m + 1)) <;> rfl
end
theorem zhn {b : UInt8} (h : (b == 10) = false) (r : List UInt8) : zdc (b :: r) = zdc r ∧ zdd (b :: r) = 1 + zdd r := by
 have hb : b ≠ 10 := by simpa using h
 constructor
 ·simp [zdc, hb]
 ·simp [zdd, hb]; omega
theorem zqd {b : UInt8} (h : (b == 10) = true) (r : List UInt8) : zdc (b :: r) = b :: r ∧ zdd (b :: r) = 0 := by
 have hb : b = 10 := by simpa using h
 constructor
 ·simp [zdc, hb]
 ·simp [zdd, hb]
theorem skipC_nil : zdc [] = [] ∧ zdd [] = 0 := ⟨rfl, rfl⟩
theorem zll {kw : List UInt8 → Bool} {b : UInt8} {r : List UInt8} {k : Int} {n : Nat} (h : tok kw b r = .ok (k, n)) : n ≤ (b :: r).length := by
 have tw : ∀ p : UInt8 → Bool, (r.takeWhile p).length ≤ r.length := fun p => (List.takeWhile_sublist _).length_le
 unfold tok at h
 split at h
 ·simp only at h; split at h <;> simp at h; have := tw bIn; simp; omega
 ·split at h
  ·simp only at h; split at h
   ·simp at h
   ·split at h <;> simp at h; have := tw zaL; simp; omega
  ·simp only at h
   split at h <;> simp at h
   obtain ⟨_, rfl⟩ := h
   unfold sgn
   split
   ·rename_i h2
    by_cases hl : 2 ≤ (b :: r).length
    ·exact hl
    ·rw [zlc hl] at h2; cases h2
   ·split
    ·simp
    ·split <;> simp
theorem zwS {kw : List UInt8 → Bool} {b : UInt8} {r : List UInt8} {e : Int} (h : tok kw b r = .error e) : e = 2 ∨ e = 9 := by
 unfold tok at h
 split at h
 ·simp only at h; split at h <;> simp at h; omega
 ·split at h
  ·simp only at h; split at h
   ·simp at h; omega
   ·split at h <;> simp at h; omega
  ·simp only at h
   split at h <;> simp at h; omega
def zdF (s : List UInt8) : AV :=
 if s.length > 16384 then .tup [.sl [] .none, .int .i64 0, .int .i64 9] else
 match za8 (kwF kwds) s 0 with
 | .error (p, e) => .tup [.sl [] .none, .int .i64 p, .int .i64 e]
 | .ok l => .tup [.sl (l.map Tk.cs) .none, .int .i64 0, .int .i64 0]
theorem two {H : zaa} {x y : AB} : H ++ [x, y] = (H ++ [x]) ++ [y] := by simp
theorem zpx {H J : zaa} {K : AV → zaa → Prop} {p e : Int} (hs : HSc H) (hK : K (.tup [.sl [] .none, .int .i64 p, .int .i64 e]) H) : Out H.length K (.tup [.snil, .int .i64 p, .int .i64 e]) (H ++ J) :=
 Out.tup hs hK ⟨zd8, zaR rfl rfl, zaR rfl rfl, trivial⟩
theorem zwL (s : List UInt8) (H : zaa) (K : AV → zaa → Prop) (hK : K (zdF s) H) : ACalls tP zkw [.str s] H K := by
 refine ACalls.out (zyd fun hs => ?_)
 by_cases hl : s.length > 16384
 ·have hl' : (16384 : Int) < s.length := by omega
  simp [zlJ, hl', AV.isV]
  unfold zdF at hK
  rw [if_pos hl] at hK
  exact Out.tup0 hs hK ⟨zd8, zaR rfl rfl, zaR rfl rfl, trivial⟩
 have hl' : ¬ (16384 : Int) < s.length := by omega
 unfold zdF at hK
 rw [if_neg hl] at hK
 simp [zlJ, hl']
 have hperm : ∀ n, HSc (H ++ [.perm zdt 3 n]) := fun n => hs.append rfl
 unfold zhQ
 refine ALoop.own 5 zdt 3 rfl ?_
 show zhQ (.str s) (.sl [] (.own H.length)) (.int .i64 0) (H ++ [.perm zdt 3 0]) (Out H.length K)
 refine zya (Inv := fun q t5 t6 H' => ∃ (i : Nat) (l : List Tk), i ≤ s.length ∧ l.length ≤ i ∧ q = s.length - i ∧ t6 = .int .i64 i ∧ t5 = .sl (l.map Tk.cs) (.own H.length) ∧ H' = H ++ [.perm zdt 3 l.length] ∧ cat l (za8 (kwF kwds) (s.drop i) i) = za8 (kwF kwds) s 0) s.length ?_ ?_
 ·intro _; exact ⟨0, [], by omega, by simp, by omega, rfl, rfl, rfl, by simp⟩
 ·rintro q t5 t6 H' ⟨i, l, hi, hll, rfl, rfl, rfl, rfl, ho⟩ hsc hlen hsF Kb hKb
  have done : cat l (.ok [⟨6, [], s.length⟩]) = za8 (kwF kwds) s 0 → zhP (.str s) (.sl (l.map Tk.cs) (.own H.length)) (H ++ [.perm zdt 3 l.length]) (Out H.length K) := by
   intro ho
   rw [← ho] at hK
   simp [zhP, zrc, zal, zaB, zay, zbz, zaD, AV.pd, zat, zaW, zaK, AV.isV]
   refine ⟨by omega, ?_⟩
   simp [cat, Tk.cs] at hK
   exact Out.tup hs hK ⟨slV, zaR rfl rfl, zaR rfl rfl, trivial⟩
  by_cases hlt : i < s.length
  ·have hdr := List.drop_eq_getElem_cons hlt
   simp [zlK, hlt]
   refine zut _ _ _ ?_
   have e35 : ((s[i].toNat : Int) == 35) = (s[i] == 35) := zbQ s[i] 35
   cases hbl : zcs s[i] with
   | true =>
    rw [hdr, zqv _ hbl] at ho
    simp [zeW]
    rw [zan (by omega) (by omega)]
    refine hKb _ _ ⟨s.length - (i + 1), by omega, Back.here (by simp) (hperm _) ?_ ⟨_, _, rfl, i + 1, l, by omega, by omega, rfl, by simp, rfl, rfl, ho⟩⟩
    simp [zeV, AV.sc, AV.scV, AV.scA, AV.scB]
   | false =>
    simp [e35]
    cases hsh : (s[i] == 35) with
    | true =>
     simp
     rw [hdr, zqx _ hbl hsh] at ho
     have h10 : (s[i] == 10) = false := by
      rw [beq_iff_eq] at hsh; rw [hsh]; rfl
     obtain ⟨c1, c2⟩ := zhn h10 (s.drop (i + 1))
     rw [Nat.add_assoc, ← c1, ← c2, ← hdr] at ho
     refine zyb (Inv := fun q t6 H' => ∃ (j : Nat), i ≤ j ∧ j ≤ s.length ∧ q = s.length - j ∧ t6 = .int .i64 j ∧ H' = H ++ [.perm zdt 3 l.length] ∧ cat l (za8 (kwF kwds) (zdc (s.drop j)) (j + zdd (s.drop j))) = za8 (kwF kwds) s 0) (s.length - i) ?_ ?_
     ·intro _; exact ⟨i, by omega, by omega, by omega, rfl, rfl, ho⟩
     ·rintro q t6 H' ⟨j, hij, hj, rfl, rfl, rfl, ho⟩ hsc hlen hsF Kb9 hKb9
      by_cases hjlt : j < s.length
      ·have hdrj := List.drop_eq_getElem_cons hjlt
       have e10 : ((s[j].toNat : Int) == 10) = (s[j] == 10) := zbQ s[j] 10
       simp [zlL, hjlt, e10]
       cases hz : (s[j] == 10) with
       | true =>
        obtain ⟨d1, d2⟩ := zqd hz (s.drop (j + 1))
        rw [hdrj, d1, d2, ← hdrj, Nat.add_zero] at ho
        have hij' : i ≠ j := by rintro rfl; rw [h10] at hz; cases hz
        simp [zeW]
        refine hKb _ _ ⟨s.length - j, by omega, Back.here (by simp) (hperm _) ?_ ⟨_, _, rfl, j, l, by omega, by omega, rfl, by simp, rfl, rfl, ho⟩⟩
        simp [zeV, AV.sc, AV.scV, AV.scA, AV.scB]
       | false =>
        obtain ⟨d1, d2⟩ := zhn hz (s.drop (j + 1))
        rw [hdrj, d1, d2, ← Nat.add_assoc] at ho
        simp
        rw [zan (by omega) (by omega)]
        refine hKb9 _ _ ⟨s.length - (j + 1), by omega, Back.here (by simp) (hperm _) ?_ ⟨_, rfl, j + 1, by omega, by omega, rfl, by simp, rfl, ho⟩⟩
        simp [zhO, AV.sc, AV.scV, AV.scA, AV.scB]
      ·obtain rfl : j = s.length := by omega
       simp [zlL]
       rw [List.drop_length, skipC_nil.1, skipC_nil.2, Nat.add_zero, zln] at ho
       exact done ho
    | false =>
     simp
     refine zv3 s (by omega) i hlt _ _ ?_
     unfold zhl
     cases ht : tok (kwF kwds) s[i] (s.drop (i + 1)) with
     | error e =>
      rw [hdr, zqw _ hbl hsh ht] at ho
      have he : (e != 0) = true := by rcases zwS ht with rfl | rfl <;> rfl
      rw [← ho] at hK
      simp [AV.known, AV.isV, he]
      exact zpx hs hK
     | ok kn =>
      obtain ⟨k, n⟩ := kn
      rw [hdr, zqy _ hbl hsh ht, zop, ← hdr] at ho
      have hn := zll ht
      rw [← hdr] at hn
      simp at hn
      have hn0 := zlm ht
      simp [Tk.cs, AV.known, zay, zbz, zaD, AV.pd, zat, zaW, zaK, zeW]
      refine ⟨by omega, ?_⟩
      rw [show min n (s.length - i) = n by omega, zan (by omega) (by omega), two]
      refine hKb _ _ ⟨s.length - (i + n), by omega, Back.same (by simp) (hperm _) ?_ ⟨_, _, rfl, i + n, l ++ [⟨k, (s.drop i).take n, i⟩], by omega, by simp; omega, rfl, by simp, by simp [Tk.cs], by simp, ?_⟩⟩
      ·simp [zeV, AV.sc, AV.scV, AV.scA, AV.scB]
      ·rw [List.drop_drop] at ho; exact ho
  ·obtain rfl : i = s.length := by omega
   rw [List.drop_length, zln] at ho
   simpa [zlK] using done ho
end Go.Proofs.YtacebbdfgbfgiaaGreat
namespace Go.Proofs.YtacebbdfgbfgiaaGreat
open Go Go.Abs
set_option maxRecDepth 4000
set_option maxRecDepth 4000
theorem zhr (s : List UInt8) (i n : Nat) : List.drop i (List.take (i + n) s) = List.take n (List.drop i s) := by
 rw [List.drop_take]; congr 1; omega
def zeS (t0 t5 t6 t7 t8 : AV) (H : zaa) (K : AV → zaa → Prop) (Kb5 : List AV → zaa → Prop) : Prop :=
 zac .gtr false t8 (.int .i64 24) fun t118 =>
 zag t118
 (zau [.snil, t6, (.int .i64 9)] (K · H))
 (ACalls tP zeA [t7] H fun t121 H =>
 zag t121
 (zdJ t0 t5 t6 t8 (.int .i64 2) H K Kb5)
 (zac .add false t6 t8 fun t126 =>
 zaH 0 0 t0 (some t6) (some t126) fun t127 =>
 ACalls tP zgz [t127] H fun t128 H =>
 zag t128
 (zdJ t0 t5 t6 t8 (.int .i64 4) H K Kb5)
 (zdJ t0 t5 t6 t8 (.int .i64 1) H K Kb5)))
section
variable (s : List UInt8) (hl : ¬ s.length > 16384) (i : Nat) (hlt : i < s.length) (H : zaa) (l : List Tk) (hll : l.length ≤ i) (hperm : ∀ n, HSc (H ++ [.perm za3 3 n])) (K : AV → zaa → Prop) (Kb : List AV → zaa → Prop)
include hl hlt hll hperm
theorem zw4 (hLU : (zbs s[i] || bUp s[i]) = true)
  (app : ∀ (k : Int) (n : Nat), tok (kwF kwds) s[i] (s.drop (i + 1)) = .ok (k, n) → ∀ t, (s.drop i).take n = t → zfX (.str s) (.sl (l.map Tk.cs ++ [[.int .i64 k, .str t, .int .i64 i]]) (.own H.length)) (.int .i64 i) (.int .i64 n) (H ++ [.perm za3 3 (l.length + 1)]) (Out H.length K) Kb)
  (bad : ∀ e : Int, tok (kwF kwds) s[i] (s.drop (i + 1)) = .error e → Out H.length K (.tup [.snil, .int .i64 i, .int .i64 e]) (H ++ [.perm za3 3 l.length])) :
  zlz (.str s) (.sl (l.map Tk.cs) (.own H.length)) (.int .i64 i) (.int .u8 s[i].toNat) (.int .i64 1) (H ++ [.perm za3 3 l.length]) (Out H.length K) Kb := by
 refine zxg (Inv := fun q t8 H' => ∃ (j : Nat), i + j ≤ s.length ∧ 0 < j ∧ q = s.length - j ∧ t8 = .int .i64 j ∧ H' = H ++ [.perm za3 3 l.length] ∧ j + ((s.drop (i + j)).takeWhile bIn).length = ((s.drop (i + 1)).takeWhile bIn).length + 1) (s.length - 1) ?_ ?_
 ·intro _; exact ⟨1, by omega, by omega, by omega, rfl, rfl, by omega⟩
 ·rintro q t8 H' ⟨j, hij, hj0, rfl, rfl, rfl, hn⟩ hsc hlen hsF Kb18 hKb18
  have w1 : IntKind.i64.wrap ((i : Int) + j) = i + j := zan (by omega) (by omega)
  have w2 : IntKind.i64.wrap ((j : Int) + 1) = j + 1 := zan (by omega) (by omega)
  have fin : ((s.drop (i + j)).takeWhile bIn).length = 0 → zeS (.str s) (.sl (l.map Tk.cs) (.own H.length)) (.int .i64 i) (.int .u8 s[i].toNat) (.int .i64 j) (H ++ [.perm za3 3 l.length]) (Out H.length K) Kb := by
   intro h0
   rw [h0] at hn
   have htk : tok (kwF kwds) s[i] (s.drop (i + 1)) = if j > 24 then .error 9 else .ok (if bUp s[i] = true then 2 else if kwF kwds ((s.drop i).take j) = true then 4 else 1, j) := by
    rw [List.drop_eq_getElem_cons hlt]
    simp only [tok, hLU, if_true, ← hn, Nat.add_zero]
   by_cases h24 : j > 24
   ·have h24' : (24 : Int) < j := by omega
    rw [if_pos h24] at htk
    simp [zeS, h24', AV.isV]
    exact bad 9 htk
   ·have h24' : ¬ (24 : Int) < j := by omega
    rw [if_neg h24] at htk
    simp [zeS, h24']
    refine zhu _ _ _ ?_
    have fin2 : ∀ k, k = (if bUp s[i] = true then 2 else if kwF kwds ((s.drop i).take j) = true then 4 else 1 : Int) → zdJ (.str s) (.sl (l.map Tk.cs) (.own H.length)) (.int .i64 i) (.int .i64 j) (.int .i64 k) (H ++ [.perm za3 3 l.length]) (Out H.length K) Kb := by
     intro k hk
     rw [← hk] at htk
     have := app k j htk _ rfl
     simp [zdJ, w1, w2, zal, zaB, zay, zbz, zaD, AV.pd, zat, zaW, zaK, zdK]
     refine ⟨by omega, by omega, by omega, ?_⟩
     rw [show ((i : Int) + j).toNat = i + j by omega, zhr]
     exact this
    cases hU : bUp s[i] with
    | true => simp; exact fin2 2 (by simp [hU])
    | false =>
     simp [w1, w2]
     refine ⟨by omega, by omega, ?_⟩
     rw [show ((i : Int) + j).toNat = i + j by omega, zhr]
     refine zva _ _ _ ?_
     cases hkw : kwF kwds ((s.drop i).take j) with
     | true => simp; exact fin2 4 (by simp [hU, hkw])
     | false => simp; exact fin2 1 (by simp [hU, hkw])
  by_cases hjlt : i + j < s.length
  ·have e95 : ((s[i + j].toNat : Int) == 95) = (s[i + j] == 95) := zbQ s[i + j] 95
   have hjlt' : (i + j : Int) < s.length := by omega
   rw [List.drop_eq_getElem_cons hjlt, List.takeWhile_cons] at hn fin
   have key : bIn s[i + j] = true → Kb18 (zfW (.str s) (.sl (l.map Tk.cs) (.own H.length)) (.int .i64 i) (.int .u8 s[i].toNat) (.int .i64 (j + 1))) (H ++ [.perm za3 3 l.length]) := by
    intro hbin
    rw [hbin] at hn
    simp at hn
    refine hKb18 _ _ ⟨s.length - (j + 1), by omega, Back.here (by simp) (hperm _) ?_ ⟨_, rfl, j + 1, by omega, by omega, rfl, by simp, rfl, by rw [← Nat.add_assoc]; omega⟩⟩
    simp [zfW, AV.sc, AV.scV, AV.scA, AV.scB]
   have no : bIn s[i + j] = false → zeS (.str s) (.sl (l.map Tk.cs) (.own H.length)) (.int .i64 i) (.int .u8 s[i].toNat) (.int .i64 j) (H ++ [.perm za3 3 l.length]) (Out H.length K) Kb := by
    intro hbin
    rw [hbin] at fin
    exact fin (by simp)
   have hget : s[((i : Int) + j).toNat]?.getD 0 = s[i + j] := by
    rw [show ((i : Int) + j).toNat = i + j by omega]
    simp [hjlt]
   unfold bIn at key no
   simp [zlw, w1, w2, hjlt', hget]
   refine ⟨by omega, ?_⟩
   refine zpb _ _ _ ?_
   cases hL : zbs s[i + j] with
   | true => simpa using key (by simp [hL])
   | false =>
    simp [w1, w2, hjlt', hget]
    refine ⟨by omega, zhu _ _ _ ?_⟩
    cases hU : bUp s[i + j] with
    | true => simpa using key (by simp [hU])
    | false =>
     simp [w1, w2, hjlt', hget]
     refine ⟨by omega, zka _ _ _ ?_⟩
     cases hD : zaL s[i + j] with
     | true => simpa using key (by simp [hD])
     | false =>
      simp [w1, w2, hjlt', hget, e95]
      refine ⟨by omega, ?_⟩
      cases h95 : (s[i + j] == 95) with
      | true => simpa using key (by simp [h95])
      | false => simpa [zeS, w1] using no (by simp [hL, hU, hD, h95])
  ·have hjlt' : ¬ (i + j : Int) < s.length := by omega
   have : s.drop (i + j) = [] := List.drop_eq_nil_of_le (by omega)
   rw [this] at fin
   have := fin rfl
   simp [zlw, w1, w2, hjlt']
   simpa [zeS, w1] using this
end
def zhA (t0 t5 t6 t8 : AV) (H : zaa) (K : AV → zaa → Prop) (Kb5 : List AV → zaa → Prop) : Prop :=
 zac .add false t6 t8 fun t172 =>
 zaH 0 0 t0 (some t6) (some t172) fun t173 =>
 ACalls tP zeB [t173] H fun t174 H =>
 zar t174 0 fun t175 =>
 zar t174 1 fun t176 =>
 aUn .not t176 fun t178 =>
 zag t178
 (zau [.snil, t6, (.int .i64 9)] (K · H))
 (zac .add false t6 t8 fun t185 =>
 zaH 0 0 t0 (some t6) (some t185) fun t186 =>
 zal [(.int .i64 0), (.str []), (.int .i64 0)] [(0, 1), (1, 1), (2, 1)] [(0, (.int .i64 3)), (1, t186), (2, t6)] fun t188 =>
 zay 3 [(.int .i64 0), (.str []), (.int .i64 0)] 1 [(0, t188)] fun t189 =>
 zat za3 3 32 t5 t189 H fun t190 H =>
 zdK t0 t190 t6 t8 H K Kb5)
def zeT (t0 t5 t6 t7 t8 : AV) (H : zaa) (K : AV → zaa → Prop) (Kb5 : List AV → zaa → Prop) : Prop :=
 zac .gtr false t8 (.int .i64 1) fun t161 =>
 zab t161 true H (fun K' => K' t7 H) fun t163 H =>
 zab t161 true H (fun K' => zac .eql false t163 (.int .u8 48) (K' · H)) fun t164 H =>
 zaj t161 t164 (.bool false) fun t165 =>
 zag t165
 (zau [.snil, t6, (.int .i64 2)] (K · H))
 (zac .add false t6 t8 fun t172 =>
 zaH 0 0 t0 (some t6) (some t172) fun t173 =>
 ACalls tP zeB [t173] H fun t174 H =>
 zar t174 0 fun t175 =>
 zar t174 1 fun t176 =>
 aUn .not t176 fun t178 =>
 zag t178
 (zau [.snil, t6, (.int .i64 9)] (K · H))
 (zac .add false t6 t8 fun t185 =>
 zaH 0 0 t0 (some t6) (some t185) fun t186 =>
 zal [(.int .i64 0), (.str []), (.int .i64 0)] [(0, 1), (1, 1), (2, 1)] [(0, (.int .i64 3)), (1, t186), (2, t6)] fun t188 =>
 zay 3 [(.int .i64 0), (.str []), (.int .i64 0)] 1 [(0, t188)] fun t189 =>
 zat za3 3 32 t5 t189 H fun t190 H =>
 zdK t0 t190 t6 t8 H K Kb5))
section
variable (s : List UInt8) (hl : ¬ s.length > 16384) (i : Nat) (hlt : i < s.length) (H : zaa) (l : List Tk) (hll : l.length ≤ i) (hperm : ∀ n, HSc (H ++ [.perm za3 3 n])) (K : AV → zaa → Prop) (Kb : List AV → zaa → Prop)
include hl hlt hll hperm
theorem zvo (hLU : ¬ (zbs s[i] || bUp s[i]) = true) (hD : zaL s[i] = true)
  (app : ∀ (k : Int) (n : Nat), tok (kwF kwds) s[i] (s.drop (i + 1)) = .ok (k, n) → ∀ t, (s.drop i).take n = t → zfX (.str s) (.sl (l.map Tk.cs ++ [[.int .i64 k, .str t, .int .i64 i]]) (.own H.length)) (.int .i64 i) (.int .i64 n) (H ++ [.perm za3 3 (l.length + 1)]) (Out H.length K) Kb)
  (bad : ∀ e : Int, tok (kwF kwds) s[i] (s.drop (i + 1)) = .error e → Out H.length K (.tup [.snil, .int .i64 i, .int .i64 e]) (H ++ [.perm za3 3 l.length])) :
  zlA (.str s) (.sl (l.map Tk.cs) (.own H.length)) (.int .i64 i) (.int .u8 s[i].toNat) (.int .i64 1) (H ++ [.perm za3 3 l.length]) (Out H.length K) Kb := by
 refine zxh (Inv := fun q t8 H' => ∃ (j : Nat), i + j ≤ s.length ∧ 0 < j ∧ q = s.length - j ∧ t8 = .int .i64 j ∧ H' = H ++ [.perm za3 3 l.length] ∧ j + ((s.drop (i + j)).takeWhile zaL).length = ((s.drop (i + 1)).takeWhile zaL).length + 1) (s.length - 1) ?_ ?_
 ·intro _; exact ⟨1, by omega, by omega, by omega, rfl, rfl, by omega⟩
 ·rintro q t8 H' ⟨j, hij, hj0, rfl, rfl, rfl, hn⟩ hsc hlen hsF Kb18 hKb18
  have w1 : IntKind.i64.wrap ((i : Int) + j) = i + j := zan (by omega) (by omega)
  have w2 : IntKind.i64.wrap ((j : Int) + 1) = j + 1 := zan (by omega) (by omega)
  have e48 : ((s[i].toNat : Int) == 48) = (s[i] == 48) := zbQ s[i] 48
  have fin : ((s.drop (i + j)).takeWhile zaL).length = 0 → zeT (.str s) (.sl (l.map Tk.cs) (.own H.length)) (.int .i64 i) (.int .u8 s[i].toNat) (.int .i64 j) (H ++ [.perm za3 3 l.length]) (Out H.length K) Kb := by
   intro h0
   rw [h0] at hn
   have hdj : (s.drop i).take j = s[i] :: (s.drop (i + 1)).takeWhile zaL := by
    rw [List.drop_eq_getElem_cons hlt, show j = ((s.drop (i + 1)).takeWhile zaL).length + 1 by omega, zhq]
   have htk : tok (kwF kwds) s[i] (s.drop (i + 1)) = if (s[i] == 48 && decide (j > 1)) = true then .error 2 else if zbE ((s.drop i).take j) 0 = true then .ok (3, j) else .error 9 := by
    rw [List.drop_eq_getElem_cons hlt]
    simp only [tok, hLU, hD, if_true, ← hn, Nat.add_zero]
    rfl
   have hval : ∀ (K : AV → zaa → Prop) (H : zaa), (∀ n, K (.tup [.int .i64 n, .bool (zbE ((s.drop i).take j) 0)]) H) → ACalls tP zeB [.str ((s.drop i).take j)] H K := by
    intro K H hK
    refine zwZ _ ?_ (by simp; omega) _ _ hK
    intro c hc
    rw [hdj] at hc
    rcases List.mem_cons.1 hc with rfl | hc
    ·exact hD
    ·exact List.all_eq_true.1 (List.all_takeWhile) c hc
   have rest : ¬ (s[i] == 48 && decide (j > 1)) = true → zhA (.str s) (.sl (l.map Tk.cs) (.own H.length)) (.int .i64 i) (.int .i64 j) (H ++ [.perm za3 3 l.length]) (Out H.length K) Kb := by
    intro hne
    rw [if_neg hne] at htk
    simp [zhA, w1]
    refine ⟨by omega, by omega, ?_⟩
    rw [show ((i : Int) + j).toNat = i + j by omega, zhr]
    refine hval _ _ fun n => ?_
    cases hv : zbE ((s.drop i).take j) 0 with
    | false =>
     rw [hv] at htk
     simp [AV.isV]
     exact bad 9 htk
    | true =>
     rw [hv] at htk
     have := app 3 j htk _ rfl
     simp [zal, zaB, zay, zbz, zaD, AV.pd, zat, zaW, zaK, zdK]
     refine ⟨by omega, by omega, by omega, ?_⟩
     exact this
   by_cases h1 : j > 1
   ·have h1' : (1 : Int) < j := by omega
    have hd : decide (j > 1) = true := decide_eq_true h1
    rw [hd] at rest htk
    cases hz : (s[i] == 48) with
    | true =>
     rw [hz] at htk
     simp [zeT, h1', e48, hz, AV.isV]
     exact bad 2 htk
    | false =>
     have := rest (by rw [hz]; decide)
     simp [zeT, h1', e48, hz]
     simpa [zhA] using this
   ·have h1' : ¬ (1 : Int) < j := by omega
    have := rest (by rw [decide_eq_false h1]; simp)
    simp [zeT, h1']
    simpa [zhA] using this
  by_cases hjlt : i + j < s.length
  ·have hjlt' : (i + j : Int) < s.length := by omega
   rw [List.drop_eq_getElem_cons hjlt, List.takeWhile_cons] at hn fin
   have hget : s[((i : Int) + j).toNat]?.getD 0 = s[i + j] := by
    rw [show ((i : Int) + j).toNat = i + j by omega]
    simp [hjlt]
   simp [zlx, w1, w2, hjlt', hget]
   refine ⟨by omega, ?_⟩
   refine zka _ _ _ ?_
   cases hb : zaL s[i + j] with
   | true =>
    rw [hb] at hn
    simp at hn
    simp [w1, w2]
    refine hKb18 _ _ ⟨s.length - (j + 1), by omega, Back.here (by simp) (hperm _) ?_ ⟨_, rfl, j + 1, by omega, by omega, rfl, by simp, rfl, by rw [← Nat.add_assoc]; omega⟩⟩
    simp [zhC, AV.sc, AV.scV, AV.scA, AV.scB]
   | false =>
    rw [hb] at fin
    have := fin (by simp)
    simp [w1, w2]
    simpa [zeT, w1] using this
  ·have hjlt' : ¬ (i + j : Int) < s.length := by omega
   have : s.drop (i + j) = [] := List.drop_eq_nil_of_le (by omega)
   rw [this] at fin
   have := fin rfl
   simp [zlx, w1, w2, hjlt']
   simpa [zeT, w1] using this
end
theorem zwM (s : List UInt8) (H : zaa) (K : AV → zaa → Prop) (hK : K (zdF s) H) : ACalls tP zks [.str s] H K := by
 refine ACalls.out (zxm fun hs => ?_)
 by_cases hl : s.length > 16384
 ·have hl' : (16384 : Int) < s.length := by omega
  simp [zlu, hl', AV.isV]
  unfold zdF at hK
  rw [if_pos hl] at hK
  exact Out.tup0 hs hK ⟨zd8, zaR rfl rfl, zaR rfl rfl, trivial⟩
 have hl' : ¬ (16384 : Int) < s.length := by omega
 unfold zdF at hK
 rw [if_neg hl] at hK
 simp [zlu, hl']
 have hperm : ∀ n, HSc (H ++ [.perm za3 3 n]) := fun n => hs.append rfl
 unfold zhD
 refine ALoop.own 5 za3 3 rfl ?_
 show zhD (.str s) (.sl [] (.own H.length)) (.int .i64 0) (H ++ [.perm za3 3 0]) (Out H.length K)
 refine zxi (Inv := fun q t5 t6 H' => ∃ (i : Nat) (l : List Tk), i ≤ s.length ∧ l.length ≤ i ∧ q = s.length - i ∧ t6 = .int .i64 i ∧ t5 = .sl (l.map Tk.cs) (.own H.length) ∧ H' = H ++ [.perm za3 3 l.length] ∧ cat l (za8 (kwF kwds) (s.drop i) i) = za8 (kwF kwds) s 0) s.length ?_ ?_
 ·intro _; exact ⟨0, [], by omega, by simp, by omega, rfl, rfl, rfl, by simp⟩
 ·rintro q t5 t6 H' ⟨i, l, hi, hll, rfl, rfl, rfl, rfl, ho⟩ hsc hlen hsF Kb hKb
  by_cases hlt : i < s.length
  ·have hdr := List.drop_eq_getElem_cons hlt
   have e9 : ((s[i].toNat : Int) == 9) = (s[i] == 9) := zbQ s[i] 9
   have e10 : ((s[i].toNat : Int) == 10) = (s[i] == 10) := zbQ s[i] 10
   have e13 : ((s[i].toNat : Int) == 13) = (s[i] == 13) := zbQ s[i] 13
   have e32 : ((s[i].toNat : Int) == 32) = (s[i] == 32) := zbQ s[i] 32
   have e35 : ((s[i].toNat : Int) == 35) = (s[i] == 35) := zbQ s[i] 35
   cases hbl : zcs s[i] with
   | true =>
    rw [hdr, zqv _ hbl] at ho
    have key : zdI (.str s) (.sl (l.map Tk.cs) (.own H.length)) (.int .i64 (IntKind.i64.wrap (i + 1))) (H ++ [.perm za3 3 l.length]) (Out H.length K) Kb := by
     simp [zdI]
     rw [zan (by omega) (by omega)]
     refine hKb _ _ ⟨s.length - (i + 1), by omega, Back.here (by simp) (hperm _) ?_ ⟨_, _, rfl, i + 1, l, by omega, by omega, rfl, by simp, rfl, rfl, ho⟩⟩
     simp [zeb, AV.sc, AV.scV, AV.scA, AV.scB]
    unfold zcs at hbl
    cases h9 : (s[i] == 9) <;> cases h10 : (s[i] == 10) <;> cases h13 : (s[i] == 13) <;> cases h32 : (s[i] == 32) <;> simp [h9, h10, h13, h32] at hbl <;> simpa [zhz, hlt, e9, e10, e13, e32, h9, h10, h13, h32] using key
   | false =>
    have hbl' := hbl
    unfold zcs at hbl'
    simp only [Bool.or_eq_false_iff] at hbl'
    obtain ⟨⟨⟨h9, h10⟩, h13⟩, h32⟩ := hbl'
    have app : ∀ (k : Int) (n : Nat), tok (kwF kwds) s[i] (s.drop (i + 1)) = .ok (k, n) → (s[i] == 35) = false → ∀ t, (s.drop i).take n = t → zfX (.str s) (.sl (l.map Tk.cs ++ [[.int .i64 k, .str t, .int .i64 i]]) (.own H.length)) (.int .i64 i) (.int .i64 n) (H ++ [.perm za3 3 (l.length + 1)]) (Out H.length K) Kb := by
     intro k n ht hsh t hte
     subst hte
     rw [hdr, zqy _ hbl hsh ht, zop, ← hdr] at ho
     have hn := zll ht
     rw [← hdr] at hn
     simp at hn
     have hn0 := zlm ht
     simp [zfX, zdI]
     rw [zan (by omega) (by omega)]
     refine hKb _ _ ⟨s.length - (i + n), by omega, Back.here (by simp) (hperm _) ?_ ⟨_, _, rfl, i + n, l ++ [⟨k, (s.drop i).take n, i⟩], by omega, by simp; omega, rfl, by simp, by simp [Tk.cs], by simp, ?_⟩⟩
     ·simp [zeb, AV.sc, AV.scV, AV.scA, AV.scB]
     ·rw [List.drop_drop] at ho; exact ho
    have bad : ∀ e : Int, tok (kwF kwds) s[i] (s.drop (i + 1)) = .error e → (s[i] == 35) = false → Out H.length K (.tup [.snil, .int .i64 i, .int .i64 e]) (H ++ [.perm za3 3 l.length]) := by
     intro e ht hsh
     rw [hdr, zqw _ hbl hsh ht] at ho
     rw [← ho] at hK
     exact zpx hs hK
    simp [zhz, hlt, e9, e10, e13, e32, e35, h9, h10, h13, h32]
    cases hsh : (s[i] == 35) with
    | true =>
     simp
     rw [hdr, zqx _ hbl hsh] at ho
     obtain ⟨c1, c2⟩ := zhn h10 (s.drop (i + 1))
     rw [Nat.add_assoc, ← c1, ← c2, ← hdr] at ho
     refine zxf (Inv := fun q t6 H' => ∃ (j : Nat), i ≤ j ∧ j ≤ s.length ∧ q = s.length - j ∧ t6 = .int .i64 j ∧ H' = H ++ [.perm za3 3 l.length] ∧ cat l (za8 (kwF kwds) (zdc (s.drop j)) (j + zdd (s.drop j))) = za8 (kwF kwds) s 0) (s.length - i) ?_ ?_
     ·intro _; exact ⟨i, by omega, by omega, by omega, rfl, rfl, ho⟩
     ·rintro q t6 H' ⟨j, hij, hj, rfl, rfl, rfl, ho⟩ hsc hlen hsF Kb9 hKb9
      by_cases hjlt : j < s.length
      ·have hdrj := List.drop_eq_getElem_cons hjlt
       have e10 : ((s[j].toNat : Int) != 10) = !(s[j] == 10) := by rw [← zbQ s[j] 10]; rfl
       simp [zlv, hjlt, e10]
       cases hz : (s[j] == 10) with
       | true =>
        obtain ⟨d1, d2⟩ := zqd hz (s.drop (j + 1))
        rw [hdrj, d1, d2, ← hdrj, Nat.add_zero] at ho
        have hij' : i ≠ j := by rintro rfl; rw [h10] at hz; cases hz
        simp [zdI]
        refine hKb _ _ ⟨s.length - j, by omega, Back.here (by simp) (hperm _) ?_ ⟨_, _, rfl, j, l, by omega, by omega, rfl, by simp, rfl, rfl, ho⟩⟩
        simp [zeb, AV.sc, AV.scV, AV.scA, AV.scB]
       | false =>
        obtain ⟨d1, d2⟩ := zhn hz (s.drop (j + 1))
        rw [hdrj, d1, d2, ← Nat.add_assoc] at ho
        simp
        rw [zan (by omega) (by omega)]
        refine hKb9 _ _ ⟨s.length - (j + 1), by omega, Back.here (by simp) (hperm _) ?_ ⟨_, rfl, j + 1, by omega, by omega, rfl, by simp, rfl, ho⟩⟩
        simp [zhB, AV.sc, AV.scV, AV.scA, AV.scB]
      ·obtain rfl : j = s.length := by omega
       simp [zlv, zdI]
       rw [List.drop_length, skipC_nil.1, skipC_nil.2, Nat.add_zero] at ho
       refine hKb _ _ ⟨0, by omega, Back.here (by simp) (hperm _) ?_ ⟨_, _, rfl, s.length, l, by omega, by omega, by omega, by simp, rfl, rfl, by rw [List.drop_length]; exact ho⟩⟩
       simp [zeb, AV.sc, AV.scV, AV.scA, AV.scB]
    | false =>
     replace app := fun k n h => app k n h hsh
     replace bad := fun e h => bad e h hsh
     simp
     refine zpb _ _ _ ?_
     by_cases hLU : (zbs s[i] || bUp s[i]) = true
     ·have hc : zbs s[i] = true ∨ (zbs s[i] = false ∧ bUp s[i] = true) := by cases hL : zbs s[i] <;> simp [hL] at hLU ⊢; exact hLU
      rcases hc with hL | ⟨hL, hU⟩
      case' inl => simp [hL]
      case' inr => simp [hL]; refine zhu _ _ _ ?_; simp [hU]
      all_goals exact zw4 s hl i hlt H l hll hperm K Kb hLU app bad
     ·have hL : zbs s[i] = false := by simp at hLU; exact hLU.1
      have hU : bUp s[i] = false := by simp at hLU; exact hLU.2
      simp [hL]
      refine zhu _ _ _ ?_
      simp [hU]
      refine zka _ _ _ ?_
      cases hD : zaL s[i] with
      | true =>
       simp
       exact zvo s hl i hlt H l hll hperm K Kb hLU hD app bad
      | false =>
       simp
       refine ⟨by omega, ?_⟩
       have htk : tok (kwF kwds) s[i] (s.drop (i + 1)) = if sgn (s.drop i) = 0 then .error 2 else .ok (5, sgn (s.drop i)) := by
        simp only [tok, hLU, hD, hdr]
        rfl
       rw [hdr]
       refine zwb _ _ _ _ ?_
       rw [← hdr]
       by_cases hz : sgn (s.drop i) = 0
       ·simp [hz, AV.isV]
        exact bad 2 (by rw [htk, if_pos hz])
       ·have hz' : ((sgn (s.drop i) : Int) == 0) = false := by simpa using hz
        have ht := htk
        rw [if_neg hz] at ht
        have hn := zll ht
        rw [← hdr] at hn
        simp at hn
        have := app 5 (sgn (s.drop i)) ht _ rfl
        simp [hz']
        rw [zan (by omega) (by omega)]
        simp [zal, zaB, zay, zbz, zaD, AV.pd, zat, zaW, zaK, zdK]
        refine ⟨by omega, by omega, by omega, ?_⟩
        rw [show ((i : Int) + (sgn (s.drop i) : Int)).toNat = i + sgn (s.drop i) by omega, zhr]
        exact this
  ·obtain rfl : i = s.length := by omega
   rw [List.drop_length, zln] at ho
   rw [← ho] at hK
   simp [zhz, zal, zaB, zay, zbz, zaD, AV.pd, zat, zaW, zaK, AV.isV]
   refine ⟨by omega, ?_⟩
   simp [cat, Tk.cs] at hK
   exact Out.tup hs hK ⟨slV, zaR rfl rfl, zaR rfl rfl, trivial⟩
end Go.Proofs.YtacebbdfgbfgiaaGreat
namespace Go.Proofs.YtacebbdfgbfgiaaGreat
open Go Go.Abs
set_option maxRecDepth 100000
def zc2 : Nat → List Bool
 | 5 => rl false [0,1,2,3,115]
 | 12 => rl false [0,1,2,5,113]
 | 18 => rl false [0,1,2,5,85,3,25]
 | _ => []
noncomputable def zm5 : Code := Tryz.f63.body.getD .skip
noncomputable def zCL : List ResultVar := Tryz.f63.results.toList
def zi9 (t0 t3 t4 t5 : AV) : List AV := t0 :: ux 2 (t3 :: t4 :: t5 :: ux 115 [])
def zsI : List Bool := zc2 5
noncomputable def zm7 : Code := zap [1, 1, 1, 0, 1, 0, 0] zm5
def zsD (K : Kt) : AExit → List AV → zaa → Prop := zaq tP zc2 [1, 1, 1, 0, 1, 0] zm5 (zax tP zCL K)
def zjb (t0 t3 t4 t5 : AV) (H : zaa) (K : Kt) : Prop := ALoop tP zm7 (zsD K) (zi9 t0 t3 t4 t5) H
def zi7 (t0 t3 t4 t5 t6 t7 : AV) : List AV := t0 :: ux 2 (t3 :: t4 :: t5 :: t6 :: t7 :: ux 113 [])
def zsH : List Bool := zc2 12
noncomputable def zm6 : Code := zap [1, 0, 0, 1, 1, 1, 1, 0, 0] zm7
def zsC (K : Kt) (Kb5 : Lt) : AExit → List AV → zaa → Prop := zaq tP zc2 [1, 0, 0, 1, 1, 1, 1, 0] zm7 (zbH zsI Kb5 (zsD K))
def zsF (t0 t3 t4 t5 t6 t7 : AV) (H : zaa) (K : Kt) (Kb5 : Lt) : Prop := ALoop tP zm6 (zsC K Kb5) (zi7 t0 t3 t4 t5 t6 t7) H
def zi8 (t0 t3 t4 t5 t6 t7 t93 t94 t95 : AV) : List AV := t0 :: ux 2 (t3 :: t4 :: t5 :: t6 :: t7 :: ux 85 (t93 :: t94 :: t95 :: ux 25 []))
def zCJ : List Bool := zc2 18
noncomputable def zCF : Code := zap [1, 0, 0, 1, 1, 1, 0, 0] zm6
def zCE (K : Kt) (Kb5 : Lt) (Kb12 : Lt) : AExit → List AV → zaa → Prop := zaq tP zc2 [1, 0, 0, 1, 1, 1, 0] zm6 (zbH zsH Kb12 (zsC K Kb5))
def zsG (t0 t3 t4 t5 t6 t7 t93 t94 t95 : AV) (H : zaa) (K : Kt) (Kb5 : Lt) (Kb12 : Lt) : Prop := ALoop tP zCF (zCE K Kb5 Kb12) (zi8 t0 t3 t4 t5 t6 t7 t93 t94 t95) H
def zsE (t0 t3 t4 t5 t6 t7 t93 t94 t95 : AV) (H : zaa) (K : Kt) (Kb5 : Lt) (Kb12 : Lt) (Kb18 : Lt) : Prop :=
 zac .add false t95 (.int .i64 1) fun t112 =>
 Kb18 (zi8 t0 t3 t4 t5 t6 t7 t93 t94 t112) H
def zja (t0 t3 t4 t5 t6 t7 t93 t94 t95 : AV) (H : zaa) (K : Kt) (Kb5 : Lt) (Kb12 : Lt) (Kb18 : Lt) : Prop :=
 zsE t0 t3 t4 t5 t6 t7 t93 t94 t95 H K Kb5 Kb12 Kb18
def zm4 (t0 t3 t4 t5 t6 t7 t93 t94 t95 : AV) (H : zaa) (K : Kt) (Kb5 : Lt) (Kb12 : Lt) (Kb18 : Lt) : Prop :=
 zac .lss false t95 t94 fun t96 =>
 zag t96
 (zai 3 t93 t95 fun t97 =>
 zad true 3 t97 H fun t98 =>
 zav [(.int .i64 0), (.int .i64 0), .snil] H fun t9 H =>
 zak 3 t9 t98 H fun H =>
 zad true 3 t9 H fun t99 =>
 zaf 1 t6 fun t101 =>
 zad false 1 t101 H fun t102 =>
 ACalls tP zg1 [t99, t5, t102] H fun t103 H =>
 zag t103
 (zja t0 t3 t4 t5 t6 t7 t93 t94 t95 H K Kb5 Kb12 Kb18)
 (zae H (fun K' => K' t0 H) fun t104 =>
 zae H (fun K' => K' t5 H) fun t105 =>
 zae H (fun K' => zaH 1 3 t104 none (some t105) (K' · H)) fun t106 =>
 zae H (fun K' => zam true 3 t9 H (K' · H)) fun t107 =>
 zae H (fun K' => zaf 1 t6 (K' · H)) fun t108 =>
 zae H (fun K' => zam false 1 t108 H (K' · H)) fun t109 =>
 zbq H (fun H K' => ACalls tP zgU [t106, t107, t109] H K') fun t110 =>
 zae H (fun K' => aUn .not t110 (K' · H)) fun t111 =>
 zag t111
 (K (.bool false) H)
 (zja t0 t3 t4 t5 t6 t7 t93 t94 t95 H K Kb5 Kb12 Kb18)))
 (zac .add false t7 (.int .i64 1) fun t60 =>
 Kb12 (zi7 t0 t3 t4 t5 t6 t60) H)
def zm3 (t0 t3 t4 t5 t6 t7 : AV) (H : zaa) (K : Kt) (Kb5 : Lt) (Kb12 : Lt) : Prop :=
 zaf 2 t6 fun t55 =>
 zad false 1 t55 H fun t56 =>
 zah 1 t56 fun t57 =>
 zac .lss false t7 t57 fun t58 =>
 zag t58
 (zaf 2 t6 fun t61 =>
 zad false 1 t61 H fun t62 =>
 zai 2 t62 t7 fun t64 =>
 zaf 0 t64 fun t65 =>
 zad false 1 t65 H fun t66 =>
 ACalls tP zg0 [t66] H fun t67 H =>
 aUn .not t67 fun t68 =>
 zab t68 false H (fun K' => zaf 2 t6 (K' · H)) fun t70 H =>
 zab t68 false H (fun K' => zad false 1 t70 H (K' · H)) fun t71 H =>
 zab t68 false H (fun K' => K' t7 H) fun t72 H =>
 zab t68 false H (fun K' => zai 2 t71 t72 (K' · H)) fun t73 H =>
 zab t68 false H (fun K' => zaf 1 t73 (K' · H)) fun t74 H =>
 zab t68 false H (fun K' => zad false 1 t74 H (K' · H)) fun t75 H =>
 zab t68 false H (fun K' => zah 1 t75 (K' · H)) fun t76 H =>
 zab t68 false H (fun K' => zac .gtr false t76 (.int .i64 6) (K' · H)) fun t77 H =>
 zaj t68 (.bool true) t77 fun t78 =>
 zag t78
 (K (.bool false) H)
 (zaf 2 t6 fun t80 =>
 zad false 1 t80 H fun t81 =>
 zai 2 t81 t7 fun t83 =>
 zaf 0 t83 fun t84 =>
 zad false 1 t84 H fun t85 =>
 zay 1 [(.str [])] 1 [(0, t85)] fun t86 =>
 zat zby 1 16 t4 t86 H fun t87 H =>
 zaf 2 t6 fun t88 =>
 zad false 1 t88 H fun t89 =>
 zai 2 t89 t7 fun t91 =>
 zaf 1 t91 fun t92 =>
 zad false 1 t92 H fun t93 =>
 zah 1 t93 fun t94 =>
 zsG t0 t3 t87 t5 t6 t7 t93 t94 (.int .i64 0) H K Kb5 Kb12))
 (zac .add false t5 (.int .i64 1) fun t18 =>
 Kb5 (zi9 t0 t3 t4 t18) H)
def zej (t0 t3 t4 t5 : AV) (H : zaa) (K : Kt) (Kb5 : Lt) : Prop :=
 zah 1 t0 fun t15 =>
 zac .lss false t5 t15 fun t16 =>
 zag t16
 (zai 3 t0 t5 fun t21 =>
 zad true 3 t21 H fun t22 =>
 zav [(.str []), (.int .i64 0), .snil] H fun t6 H =>
 zak 3 t6 t22 H fun H =>
 zaf 1 t6 fun t23 =>
 zad false 1 t23 H fun t24 =>
 zac .lss false t24 (.int .i64 0) fun t25 =>
 zab t25 false H (fun K' => zaf 1 t6 (K' · H)) fun t27 H =>
 zab t25 false H (fun K' => zad false 1 t27 H (K' · H)) fun t28 H =>
 zab t25 false H (fun K' => zac .gtr false t28 (.int .i64 6) (K' · H)) fun t29 H =>
 zaj t25 (.bool true) t29 fun t30 =>
 zab t30 false H (fun K' => zaf 2 t6 (K' · H)) fun t32 H =>
 zab t30 false H (fun K' => zad false 1 t32 H (K' · H)) fun t33 H =>
 zab t30 false H (fun K' => zah 1 t33 (K' · H)) fun t34 H =>
 zab t30 false H (fun K' => zac .lss false t34 (.int .i64 1) (K' · H)) fun t35 H =>
 zaj t30 (.bool true) t35 fun t36 =>
 zab t36 false H (fun K' => zaf 2 t6 (K' · H)) fun t38 H =>
 zab t36 false H (fun K' => zad false 1 t38 H (K' · H)) fun t39 H =>
 zab t36 false H (fun K' => zah 1 t39 (K' · H)) fun t40 H =>
 zab t36 false H (fun K' => zac .gtr false t40 (.int .i64 8) (K' · H)) fun t41 H =>
 zaj t36 (.bool true) t41 fun t42 =>
 zab t42 false H (fun K' => zaf 0 t6 (K' · H)) fun t44 H =>
 zab t42 false H (fun K' => zad false 1 t44 H (K' · H)) fun t45 H =>
 zab t42 false H (fun K' => ACalls tP zg0 [t45] H K') fun t46 H =>
 zab t42 false H (fun K' => aUn .not t46 (K' · H)) fun t47 H =>
 zaj t42 (.bool true) t47 fun t48 =>
 zag t48
 (K (.bool false) H)
 (zaf 0 t6 fun t50 =>
 zad false 1 t50 H fun t51 =>
 zay 1 [(.str [])] 1 [(0, t51)] fun t52 =>
 zat zby 1 16 t3 t52 H fun t53 H =>
 zsF t0 t53 t4 t5 t6 (.int .i64 0) H K Kb5))
 (ACalls tP zfK [t3] H fun t114 H =>
 aUn .not t114 fun t115 =>
 zab t115 true H (fun K' => K' t4 H) fun t117 H =>
 zab t115 true H (fun K' => ACalls tP zfK [t117] H K') fun t118 H =>
 zab t115 true H (fun K' => aUn .not t118 (K' · H)) fun t119 H =>
 zaj t115 t119 (.bool false) fun t120 =>
 K t120 H)
def zm2 (t0 : AV) (H : zaa) (K : Kt) : Prop :=
 zah 1 t0 fun t11 =>
 zac .gtr false t11 (.int .i64 12) fun t12 =>
 zag t12
 (K (.bool false) H)
 (zjb t0 .snil .snil (.int .i64 0) H K)
theorem zCH {t0 t3 t4 t5 t6 t7 t93 t94 t95 : AV} {H : zaa} {K : Kt} {Kb5 : Lt} {Kb12 : Lt} (Inv : Nat → AV → zaa → Prop) (n : Nat) (h0 : HSc H → Inv n t95 H)
  (round : Rd1 (fun t95 => zi8 t0 t3 t4 t5 t6 t7 t93 t94 t95) (fun t95 => fun H Kb18 => zm4 t0 t3 t4 t5 t6 t7 t93 t94 t95 H K Kb5 Kb12 Kb18) H Inv) : zsG t0 t3 t4 t5 t6 t7 t93 t94 t95 H K Kb5 Kb12 :=
 lp1 (M := zc2) zCJ t95 (by kernel_rfl) Inv n h0 round
theorem zCG {t0 t3 t4 t5 t6 t7 : AV} {H : zaa} {K : Kt} {Kb5 : Lt} (Inv : Nat → AV → AV → zaa → Prop) (n : Nat) (h0 : HSc H → Inv n t4 t7 H)
  (round : Rd2 (fun t4 => fun t7 => zi7 t0 t3 t4 t5 t6 t7) (fun t4 => fun t7 => fun H Kb12 => zm3 t0 t3 t4 t5 t6 t7 H K Kb5 Kb12) H Inv) : zsF t0 t3 t4 t5 t6 t7 H K Kb5 :=
 lp2 (M := zc2) zsH t4 t7 (by kernel_rfl) Inv n h0 round
theorem zCI {t0 t3 t4 t5 : AV} {H : zaa} {K : Kt} (Inv : Nat → AV → AV → AV → zaa → Prop) (n : Nat) (h0 : HSc H → Inv n t3 t4 t5 H)
  (round : Rd3 (fun t3 => fun t4 => fun t5 => zi9 t0 t3 t4 t5) (fun t3 => fun t4 => fun t5 => fun H Kb5 => zej t0 t3 t4 t5 H K Kb5) H Inv) : zjb t0 t3 t4 t5 H K :=
 lp3 (M := zc2) zsI t3 t4 t5 (by kernel_rfl) Inv n h0 round
theorem zCK {t0 : AV} {H : zaa} {K : Kt} (h : HSc H → zm2 t0 H K) : ACalls tP zkK [t0] H K :=
 zao (M := zc2) Tryz.func63 (c := zm5) (by kernel_rfl) (fun hs => Eq.mpr (by kernel_rfl) (h hs))
def zek : Nat → List Bool
 | 2 => rl false [0,1,2,1,21]
 | 5 => rl false [0,1,2,2,20]
 | _ => []
noncomputable def znl : Code := Tryz.f85.body.getD .skip
noncomputable def zDS : List ResultVar := Tryz.f85.results.toList
def zjs (t0 t3 : AV) : List AV := t0 :: ux 2 (t3 :: ux 21 [])
def zs6 : List Bool := zek 2
noncomputable def znm : Code := zap [1, 0, 1, 0, 0] znl
def zs3 (K : Kt) : AExit → List AV → zaa → Prop := zaq tP zek [1, 0, 1, 0] znl (zax tP zDS K)
def zs4 (t0 t3 : AV) (H : zaa) (K : Kt) : Prop := ALoop tP znm (zs3 K) (zjs t0 t3) H
def zjt (t0 t3 t4 : AV) : List AV := t0 :: ux 2 (t3 :: t4 :: ux 20 [])
def zDQ : List Bool := zek 5
noncomputable def zDN : Code := zap [1, 0, 0, 1, 0, 0] znm
def zDM (K : Kt) (Kb2 : Lt) : AExit → List AV → zaa → Prop := zaq tP zek [1, 0, 0, 1, 0] znm (zbH zs6 Kb2 (zs3 K))
def zs5 (t0 t3 t4 : AV) (H : zaa) (K : Kt) (Kb2 : Lt) : Prop := ALoop tP zDN (zDM K Kb2) (zjt t0 t3 t4) H
def znk (t0 t3 t4 : AV) (H : zaa) (K : Kt) (Kb2 : Lt) (Kb5 : Lt) : Prop :=
 zac .lss false t4 t3 fun t13 =>
 zag t13
 (zae H (fun K' => K' t0 H) fun t16 =>
 zae H (fun K' => K' t3 H) fun t17 =>
 zae H (fun K' => zai 1 t16 t17 (K' · H)) fun t18 =>
 zae H (fun K' => zam false 1 t18 H (K' · H)) fun t19 =>
 zae H (fun K' => K' t0 H) fun t20 =>
 zae H (fun K' => K' t4 H) fun t21 =>
 zae H (fun K' => zai 1 t20 t21 (K' · H)) fun t22 =>
 zae H (fun K' => zam false 1 t22 H (K' · H)) fun t23 =>
 zae H (fun K' => zac .eql false t19 t23 (K' · H)) fun t24 =>
 zag t24
 (K (.bool true) H)
 (zac .add false t4 (.int .i64 1) fun t15 =>
 Kb5 (zjt t0 t3 t15) H))
 (zac .add false t3 (.int .i64 1) fun t10 =>
 Kb2 (zjs t0 t10) H)
def znj (t0 t3 : AV) (H : zaa) (K : Kt) (Kb2 : Lt) : Prop :=
 zah 1 t0 fun t7 =>
 zac .lss false t3 t7 fun t8 =>
 zag t8
 (zs5 t0 t3 (.int .i64 0) H K Kb2)
 (K (.bool false) H)
def zs2 (t0 : AV) (H : zaa) (K : Kt) : Prop :=
 zs4 t0 (.int .i64 0) H K
theorem zDP {t0 t3 t4 : AV} {H : zaa} {K : Kt} {Kb2 : Lt} (Inv : Nat → AV → zaa → Prop) (n : Nat) (h0 : HSc H → Inv n t4 H)
  (round : Rd1 (fun t4 => zjt t0 t3 t4) (fun t4 => fun H Kb5 => znk t0 t3 t4 H K Kb2 Kb5) H Inv) : zs5 t0 t3 t4 H K Kb2 :=
 lp1 (M := zek) zDQ t4 (by kernel_rfl) Inv n h0 round
theorem zDO {t0 t3 : AV} {H : zaa} {K : Kt} (Inv : Nat → AV → zaa → Prop) (n : Nat) (h0 : HSc H → Inv n t3 H)
  (round : Rd1 (fun t3 => zjs t0 t3) (fun t3 => fun H Kb2 => znj t0 t3 H K Kb2) H Inv) : zs4 t0 t3 H K :=
 lp1 (M := zek) zs6 t3 (by kernel_rfl) Inv n h0 round
theorem zDR {t0 : AV} {H : zaa} {K : Kt} (h : HSc H → zs2 t0 H K) : ACalls tP zfK [t0] H K :=
 zao (M := zek) Tryz.func85 (c := znl) (by kernel_rfl) (fun hs => Eq.mpr (by kernel_rfl) (h hs))
end Go.Proofs.YtacebbdfgbfgiaaGreat

namespace Go.Proofs.YtacebbdfgbfgiaaGreat
open Go Go.Abs
set_option maxRecDepth 8000
theorem zco {k : AV → Prop} (a b : AV) (vs : List AV) : zar (.tup (a :: b :: vs)) 1 k = k b := propext Iff.rfl
theorem zcp {k : AV → Prop} (a b c : AV) (vs : List AV) : zar (.tup (a :: b :: c :: vs)) 2 k = k c := propext Iff.rfl
def zd9 (s : List UInt8) : List Tk × Int × Int :=
 if s.length > 16384 then ([], 0, 9) else
 match za8 (kwF kwds) s 0 with
 | .error (p, e) => ([], p, e)
 | .ok l => (l, 0, 0)
theorem zqk (s : List UInt8) : zdF s = .tup [.sl ((zd9 s).1.map Tk.cs) .none, .int .i64 (zd9 s).2.1, .int .i64 (zd9 s).2.2] := by
 unfold zdF zd9
 split
 ·rfl
 ·split <;> (rename_i h; simp [h])
def zbA (s : List UInt8) (x : List Tk × Int × Int) : Bool := x.2.2 == 0 && match x.1 with
 | [a, _] => a.kind == 2 && a.text == s
 | _ => false
def zcf (s : List UInt8) : Bool := zbA s (zd9 s)
theorem zqT (s : List UInt8) (H : zaa) (K : AV → zaa → Prop) (hK : K (.bool (zcf s)) H) : ACalls tP zgw [.str s] H K := by
 refine ACalls.out (zxq fun hs => ?_)
 have hO : Out H.length K (.bool (zcf s)) H := Out.bool (J := []) (by simp) (Nat.le_refl _) hs hK
 simp only [zqS]
 refine zwL s _ _ ?_
 rw [zqk]
 rw [zcf] at hO
 generalize zd9 s = x at hO ⊢
 obtain ⟨l, p, e⟩ := x
 clear hK
 cases h0 : e == 0 with
 | false =>
  rw [show zbA s (l, p, e) = false by simp [zbA, h0]] at hO
  simp [zco, zcp, h0]; exact hO
 | true =>
 match l with
 | [] =>
  rw [show zbA s ([], p, e) = false by simp [zbA]] at hO
  simp [zco, zcp, h0]; exact hO
 | [x] =>
  rw [show zbA s ([x], p, e) = false by simp [zbA]] at hO
  simp [zco, zcp, h0]; exact hO
 | [a, x] =>
  rw [show zbA s ([a, x], p, e) = (a.kind == 2 && a.text == s) by simp [zbA, h0]] at hO
  cases hk : a.kind == 2 with
  | false => rw [hk] at hO; simp [zco, zcp, h0, Tk.cs, hk]; exact hO
  | true => rw [hk] at hO; simp [zco, zcp, h0, Tk.cs, hk]; exact hO
 | a :: b :: c :: r =>
  rw [show zbA s (a :: b :: c :: r, p, e) = false by simp [zbA]] at hO
  have : ¬ ((r.length : Int) + 1 + 1 + 1 = 2) := by omega
  have h2 : ((r.length : Int) + 1 + 1 + 1 == 2) = false := by simpa using this
  simp [zco, zcp, h0, h2]; exact hO
theorem zsZ (s : List UInt8) (H : zaa) (K : AV → zaa → Prop) (hK : K (.bool (zcf s)) H) : ACalls tP zg0 [.str s] H K := by
 refine ACalls.out (zDF fun hs => ?_)
 have hO : Out H.length K (.bool (zcf s)) H := Out.bool (J := []) (by simp) (Nat.le_refl _) hs hK
 simp only [zsY]
 refine zwM s _ _ ?_
 rw [zqk]
 rw [zcf] at hO
 generalize zd9 s = x at hO ⊢
 obtain ⟨l, p, e⟩ := x
 clear hK
 cases h0 : e == 0 with
 | false =>
  rw [show zbA s (l, p, e) = false by simp [zbA, h0]] at hO
  simp [zco, zcp, h0]; exact hO
 | true =>
 match l with
 | [] =>
  rw [show zbA s ([], p, e) = false by simp [zbA]] at hO
  simp [zco, zcp, h0]; exact hO
 | [x] =>
  rw [show zbA s ([x], p, e) = false by simp [zbA]] at hO
  simp [zco, zcp, h0]; exact hO
 | [a, x] =>
  rw [show zbA s ([a, x], p, e) = (a.kind == 2 && a.text == s) by simp [zbA, h0]] at hO
  cases hk : a.kind == 2 with
  | false => rw [hk] at hO; simp [zco, zcp, h0, Tk.cs, hk]; exact hO
  | true => rw [hk] at hO; simp [zco, zcp, h0, Tk.cs, hk]; exact hO
 | a :: b :: c :: r =>
  rw [show zbA s (a :: b :: c :: r, p, e) = false by simp [zbA]] at hO
  have : ¬ ((r.length : Int) + 1 + 1 + 1 = 2) := by omega
  have h2 : ((r.length : Int) + 1 + 1 + 1 == 2) = false := by simpa using this
  simp [zco, zcp, h0, h2]; exact hO
def zbM (l : List (List UInt8)) : Bool := !decide l.Nodup
def strs (l : List (List UInt8)) : List (List AV) := l.map fun s => [.str s]
@[simp] theorem zIV (l : List (List UInt8)) : (strs l).length = l.length := by simp [strs]
theorem zwP {l : List (List UInt8)} {i : Nat} (h : i < (strs l).length) : (strs l)[i] = [.str (l[i]'(by simpa using h))] := by simp [strs]
theorem zvO {l : List (List UInt8)} {i j : Nat} (hi : i < l.length) (hj : j < i) (h : l[i] = l[j]) : zbM l = true := by
 simp only [zbM, Bool.not_eq_true', decide_eq_false_iff_not]
 intro hn
 exact (List.pairwise_iff_getElem.mp hn) j i (by omega) hi hj h.symm
theorem zDT (l : List (List UInt8)) (hl : l.length ≤ 1000000) (H : zaa) (K : AV → zaa → Prop) (hK : K (.bool (zbM l)) H) : ACalls tP zfK [.sl (strs l) .none] H K := by
 refine ACalls.out (zDR fun hs => ?_)
 have hO : Out H.length K (.bool (zbM l)) H := Out.bool (J := []) (by simp) (Nat.le_refl _) hs hK
 simp [zs2]
 refine zDO (Inv := fun q t3 H' => ∃ i : Nat, i ≤ l.length ∧ q = l.length - i ∧ t3 = .int .i64 i ∧ (∀ a b (ha : a < i) (hb : b < a) (h' : a < l.length), l[a] ≠ l[b]) ∧ H = H') l.length ?_ ?_
 ·intro _; exact ⟨0, by omega, by omega, rfl, by omega, rfl⟩
 ·rintro q t3 H' ⟨i, hi, rfl, rfl, hne, rfl⟩ hsc hlen hsF Kb hKb
  by_cases hlt : i < l.length
  ·simp [znj, hlt]
   refine zDP (Inv := fun q t4 H' => ∃ j : Nat, j ≤ i ∧ q = i - j ∧ t4 = .int .i64 j ∧ (∀ b (hb : b < j) (hb' : b < l.length), l[i] ≠ l[b]) ∧ H = H') i ?_ ?_
   ·intro _; exact ⟨0, by omega, by omega, rfl, by omega, rfl⟩
   ·rintro q t4 H' ⟨j, hj, rfl, rfl, hnj, rfl⟩ hsc1 hlen1 hsF1 Kb1 hKb1
    by_cases hjl : j < i
    ·simp [znk, hjl, hlt, show j < l.length by omega, zwP]
     cases he : l[i] == l[j] with
     | true =>
      rw [zvO hlt hjl (by simpa using he)] at hO
      simpa using hO
     | false =>
      simp
      rw [zan (by omega) (by omega)]
      refine hKb1 _ _ ⟨i - (j + 1), by omega, Back.at (J := []) (H2 := H) (by simp) (Nat.le_refl _) hs ?_ ⟨_, rfl, j + 1, by omega, rfl, by simp, ?_, rfl⟩⟩
      ·simp [zjt, AV.sc, AV.scV, AV.scA, AV.scB]
      ·intro b hb hb'
       by_cases hbj : b = j
       ·subst hbj; simpa using he
       ·exact hnj b (by omega) hb'
    ·obtain rfl : j = i := by omega
     simp [znk]
     rw [zan (by omega) (by omega)]
     refine hKb _ _ ⟨l.length - (j + 1), by omega, Back.at (J := []) (H2 := H) (by simp) (Nat.le_refl _) hs ?_ ⟨_, rfl, j + 1, by omega, rfl, by simp, ?_, rfl⟩⟩
     ·simp [zjs, AV.sc, AV.scV, AV.scA, AV.scB]
     ·intro a b ha hb h'
      by_cases haj : a = j
      ·subst haj; exact hnj b hb (by omega)
      ·exact hne a b (by omega) hb h'
  ·obtain rfl : i = l.length := by omega
   have : zbM l = false := by
    simp only [zbM, Bool.not_eq_false', decide_eq_true_eq]
    refine List.pairwise_iff_getElem.mpr fun a b ha hb hab he => ?_
    exact hne b a hb hab hb he.symm
   rw [this] at hO
   simp [znj]
   exact hO
def zel : Nat → List Bool
 | 5 => rl false [0,1,2,2,9,2,89]
 | 13 => rl false [0,1,2,3,8,2,60,3,26]
 | _ => []
noncomputable def znA : Code := Tryz.f90.body.getD .skip
noncomputable def zEq : List ResultVar := Tryz.f90.results.toList
def zjG (t0 t3 t4 t14 t15 : AV) : List AV := t0 :: ux 2 (t3 :: t4 :: ux 9 (t14 :: t15 :: ux 89 []))
def ztg : List Bool := zel 5
noncomputable def znB : Code := zap [1, 1, 1, 0, 1, 0, 0] znA
def ztd (K : Kt) : AExit → List AV → zaa → Prop := zaq tP zel [1, 1, 1, 0, 1, 0] znA (zax tP zEq K)
def ztf (t0 t3 t4 t14 t15 : AV) (H : zaa) (K : Kt) : Prop := ALoop tP znB (ztd K) (zjG t0 t3 t4 t14 t15) H
def zjF (t0 t3 t4 t5 t14 t15 t76 t77 t78 : AV) : List AV := t0 :: ux 2 (t3 :: t4 :: t5 :: ux 8 (t14 :: t15 :: ux 60 (t76 :: t77 :: t78 :: ux 26 [])))
def zEo : List Bool := zel 13
noncomputable def zEl : Code := zap [1, 1, 0, 0, 1, 1, 1, 1, 1, 0, 0] znB
def zEk (K : Kt) (Kb5 : Lt) : AExit → List AV → zaa → Prop := zaq tP zel [1, 1, 0, 0, 1, 1, 1, 1, 1, 0] znB (zbH ztg Kb5 (ztd K))
def zte (t0 t3 t4 t5 t14 t15 t76 t77 t78 : AV) (H : zaa) (K : Kt) (Kb5 : Lt) : Prop := ALoop tP zEl (zEk K Kb5) (zjF t0 t3 t4 t5 t14 t15 t76 t77 t78) H
def zny (t0 t3 t4 t5 t14 t15 t76 t77 t78 : AV) (H : zaa) (K : Kt) (Kb5 : Lt) (Kb13 : Lt) : Prop :=
 zac .lss false t78 t77 fun t79 =>
 zag t79
 (zai 2 t76 t78 fun t81 =>
 zad true 2 t81 H fun t82 =>
 zav [(.str []), .snil] H fun t7 H =>
 zak 2 t7 t82 H fun H =>
 zaf 0 t7 fun t83 =>
 zad false 1 t83 H fun t84 =>
 ACalls tP zgw [t84] H fun t85 H =>
 aUn .not t85 fun t86 =>
 zab t86 false H (fun K' => K' t4 H) fun t88 H =>
 zab t86 false H (fun K' => zaf 0 t7 (K' · H)) fun t89 H =>
 zab t86 false H (fun K' => zad false 1 t89 H (K' · H)) fun t90 H =>
 zab t86 false H (fun K' => zcO (.bool false) false t88 t90 H (K' · H)) fun t91 H =>
 zaj t86 (.bool true) t91 fun t92 =>
 zab t92 false H (fun K' => K' t0 H) fun t94 H =>
 zab t92 false H (fun K' => K' t5 H) fun t95 H =>
 zab t92 false H (fun K' => K' t78 H) fun t96 H =>
 zab t92 false H (fun K' => ACalls tP zkt [t94, t95, t96] H K') fun t97 H =>
 zab t92 false H (fun K' => aUn .not t97 (K' · H)) fun t98 H =>
 zaj t92 (.bool true) t98 fun t99 =>
 zag t99
 (K (.bool false) H)
 (zaf 0 t7 fun t101 =>
 zad false 1 t101 H fun t102 =>
 zcg t4 t102 (.bool true) H fun H =>
 zac .add false t78 (.int .i64 1) fun t103 =>
 Kb13 (zjF t0 t3 t4 t5 t14 t15 t76 t77 t103) H))
 (zac .add false t15 (.int .i64 1) fun t104 =>
 Kb5 (zjG t0 t3 t4 t14 t104) H)
def znz (t0 t3 t4 t14 t15 : AV) (H : zaa) (K : Kt) (Kb5 : Lt) : Prop :=
 zac .lss false t15 t14 fun t16 =>
 zag t16
 (zai 3 t0 t15 fun t20 =>
 zaf 0 t20 fun t21 =>
 zad false 1 t21 H fun t22 =>
 ACalls tP zgw [t22] H fun t23 H =>
 aUn .not t23 fun t24 =>
 zab t24 false H (fun K' => K' t3 H) fun t26 H =>
 zab t24 false H (fun K' => K' t0 H) fun t27 H =>
 zab t24 false H (fun K' => K' t15 H) fun t28 H =>
 zab t24 false H (fun K' => zai 3 t27 t28 (K' · H)) fun t29 H =>
 zab t24 false H (fun K' => zaf 0 t29 (K' · H)) fun t30 H =>
 zab t24 false H (fun K' => zad false 1 t30 H (K' · H)) fun t31 H =>
 zab t24 false H (fun K' => zcO (.bool false) false t26 t31 H (K' · H)) fun t32 H =>
 zaj t24 (.bool true) t32 fun t33 =>
 zab t33 false H (fun K' => K' t0 H) fun t35 H =>
 zab t33 false H (fun K' => K' t15 H) fun t36 H =>
 zab t33 false H (fun K' => zai 3 t35 t36 (K' · H)) fun t37 H =>
 zab t33 false H (fun K' => zaf 1 t37 (K' · H)) fun t38 H =>
 zab t33 false H (fun K' => zad false 1 t38 H (K' · H)) fun t39 H =>
 zab t33 false H (fun K' => zac .lss false t39 (.int .i64 0) (K' · H)) fun t40 H =>
 zaj t33 (.bool true) t40 fun t41 =>
 zab t41 false H (fun K' => K' t0 H) fun t43 H =>
 zab t41 false H (fun K' => K' t15 H) fun t44 H =>
 zab t41 false H (fun K' => zai 3 t43 t44 (K' · H)) fun t45 H =>
 zab t41 false H (fun K' => zaf 1 t45 (K' · H)) fun t46 H =>
 zab t41 false H (fun K' => zad false 1 t46 H (K' · H)) fun t47 H =>
 zab t41 false H (fun K' => zac .gtr false t47 (.int .i64 6) (K' · H)) fun t48 H =>
 zaj t41 (.bool true) t48 fun t49 =>
 zag t49
 (K (.bool false) H)
 (zai 3 t0 t15 fun t53 =>
 zaf 0 t53 fun t54 =>
 zad false 1 t54 H fun t55 =>
 zcg t3 t55 (.bool true) H fun H =>
 zai 3 t0 t15 fun t58 =>
 zaf 2 t58 fun t59 =>
 zad false 1 t59 H fun t60 =>
 zah 1 t60 fun t61 =>
 zac .lss false t61 (.int .i64 1) fun t62 =>
 zab t62 false H (fun K' => K' t0 H) fun t64 H =>
 zab t62 false H (fun K' => K' t15 H) fun t65 H =>
 zab t62 false H (fun K' => zai 3 t64 t65 (K' · H)) fun t66 H =>
 zab t62 false H (fun K' => zaf 2 t66 (K' · H)) fun t67 H =>
 zab t62 false H (fun K' => zad false 1 t67 H (K' · H)) fun t68 H =>
 zab t62 false H (fun K' => zah 1 t68 (K' · H)) fun t69 H =>
 zab t62 false H (fun K' => zac .gtr false t69 (.int .i64 8) (K' · H)) fun t70 H =>
 zaj t62 (.bool true) t70 fun t71 =>
 zag t71
 (K (.bool false) H)
 (zai 3 t0 t15 fun t74 =>
 zaf 2 t74 fun t75 =>
 zad false 1 t75 H fun t76 =>
 zah 1 t76 fun t77 =>
 zte t0 t3 t4 t15 t14 t15 t76 t77 (.int .i64 0) H K Kb5)))
 (K (.bool true) H)
def znx (t0 : AV) (H : zaa) (K : Kt) : Prop :=
 zah 1 t0 fun t9 =>
 zac .gtr false t9 (.int .i64 12) fun t10 =>
 zag t10
 (K (.bool false) H)
 (zdl H fun t11 H =>
 zdl H fun t12 H =>
 zah 1 t0 fun t14 =>
 ztf t0 t11 t12 t14 (.int .i64 0) H K)
theorem zEm {t0 t3 t4 t5 t14 t15 t76 t77 t78 : AV} {H : zaa} {K : Kt} {Kb5 : Lt} (Inv : Nat → AV → zaa → Prop) (n : Nat) (h0 : HSc H → Inv n t78 H)
  (round : Rd1 (fun t78 => zjF t0 t3 t4 t5 t14 t15 t76 t77 t78) (fun t78 => fun H Kb13 => zny t0 t3 t4 t5 t14 t15 t76 t77 t78 H K Kb5 Kb13) H Inv) : zte t0 t3 t4 t5 t14 t15 t76 t77 t78 H K Kb5 :=
 lp1 (M := zel) zEo t78 (by kernel_rfl) Inv n h0 round
theorem zEn {t0 t3 t4 t14 t15 : AV} {H : zaa} {K : Kt} (Inv : Nat → AV → zaa → Prop) (n : Nat) (h0 : HSc H → Inv n t15 H)
  (round : Rd1 (fun t15 => zjG t0 t3 t4 t14 t15) (fun t15 => fun H Kb5 => znz t0 t3 t4 t14 t15 H K Kb5) H Inv) : ztf t0 t3 t4 t14 t15 H K :=
 lp1 (M := zel) ztg t15 (by kernel_rfl) Inv n h0 round
theorem zEp {t0 : AV} {H : zaa} {K : Kt} (h : HSc H → znx t0 H K) : ACalls tP zkP [t0] H K :=
 zao (M := zel) Tryz.func90 (c := znA) (by kernel_rfl) (fun hs => Eq.mpr (by kernel_rfl) (h hs))
def zhF : Nat → List Bool
 | 6 => rl false [0,2,6,1,18,3,29]
 | _ => []
noncomputable def zlC : Code := Tryz.f105.body.getD .skip
noncomputable def zxw : List ResultVar := Tryz.f105.results.toList
def zfY (t0 t1 t8 t27 t28 t29 : AV) : List AV := t0 :: t1 :: ux 6 (t8 :: ux 18 (t27 :: t28 :: t29 :: ux 29 []))
def zxu : List Bool := zhF 6
noncomputable def zxs : Code := zap [1, 1, 1, 1, 0, 1, 0, 0] zlC
def zxr (K : Kt) : AExit → List AV → zaa → Prop := zaq tP zhF [1, 1, 1, 1, 0, 1, 0] zlC (zax tP zxw K)
def zqV (t0 t1 t8 t27 t28 t29 : AV) (H : zaa) (K : Kt) : Prop := ALoop tP zxs (zxr K) (zfY t0 t1 t8 t27 t28 t29) H
def zlB (t0 t1 t8 t27 t28 t29 : AV) (H : zaa) (K : Kt) (Kb6 : Lt) : Prop :=
 zac .lss false t29 t28 fun t30 =>
 zag t30
 (zai 3 t27 t29 fun t32 =>
 zad true 3 t32 H fun t33 =>
 zav [(.int .i64 0), (.int .i64 0), .snil] H fun t10 H =>
 zak 3 t10 t33 H fun H =>
 zae H (fun K' => K' t0 H) fun t34 =>
 zae H (fun K' => K' t1 H) fun t35 =>
 zae H (fun K' => zac .add false t35 (.int .i64 1) (K' · H)) fun t36 =>
 zae H (fun K' => zaH 1 3 t34 none (some t36) (K' · H)) fun t37 =>
 zae H (fun K' => zam true 3 t10 H (K' · H)) fun t38 =>
 zae H (fun K' => K' t0 H) fun t39 =>
 zae H (fun K' => K' t1 H) fun t40 =>
 zae H (fun K' => zai 3 t39 t40 (K' · H)) fun t41 =>
 zae H (fun K' => zaf 1 t41 (K' · H)) fun t42 =>
 zae H (fun K' => zam false 1 t42 H (K' · H)) fun t43 =>
 zbq H (fun H K' => ACalls tP zfI [t37, t38, t43] H K') fun t44 =>
 zae H (fun K' => aUn .not t44 (K' · H)) fun t45 =>
 zae H (fun K' => K' t45 H) fun t46 =>
 zab t46 false H (fun K' => zae H (fun K'' => K'' t8 H) (K' · H)) fun t47 H =>
 zab t46 false H (fun K' => zae H (fun K'' => K'' t29 H) (K' · H)) fun t48 H =>
 zab t46 false H (fun K' => zae H (fun K'' => zai 1 t47 t48 (K'' · H)) (K' · H)) fun t49 H =>
 zab t46 false H (fun K' => zae H (fun K'' => zam false 1 t49 H (K'' · H)) (K' · H)) fun t50 H =>
 zab t46 false H (fun K' => zae H (fun K'' => aUn .not t50 (K'' · H)) (K' · H)) fun t51 H =>
 zab t46 false H (fun K' => zae H (fun K'' => K'' t51 H) (K' · H)) fun t52 H =>
 zab t52 true H (fun K' => zae H (fun K'' => zam true 3 t10 H (K'' · H)) (K' · H)) fun t53 H =>
 zab t52 true H (fun K' => zae H (fun K'' => K'' t1 H) (K' · H)) fun t54 H =>
 zab t52 true H (fun K' => zbq H (fun H K'' => ACalls tP zgA [t53, t54] H K'') (K' · H)) fun t55 H =>
 zab t46 false H (fun K' => zae H (fun K'' => zaj t52 t55 (.bool false) (K'' · H)) (K' · H)) fun t56 H =>
 zae H (fun K' => zaj t46 (.bool true) t56 (K' · H)) fun t57 =>
 zag t57
 (K (.bool false) H)
 (zac .add false t29 (.int .i64 1) fun t58 =>
 Kb6 (zfY t0 t1 t8 t27 t28 t58) H))
 (K (.bool true) H)
def zqU (t0 t1 t2 : AV) (H : zaa) (K : Kt) : Prop :=
 zai 3 t0 t1 fun t13 =>
 zaf 2 t13 fun t14 =>
 zad false 1 t14 H fun t15 =>
 zai 2 t15 t2 fun t17 =>
 zaf 1 t17 fun t18 =>
 zad false 1 t18 H fun t19 =>
 zah 1 t19 fun t21 =>
 zac .gtr false t21 (.int .i64 6) fun t22 =>
 zag t22
 (K (.bool false) H)
 (ACalls tP zcD [t0, t1, t2] H fun t26 H =>
 zah 1 t19 fun t28 =>
 zqV t0 t1 t26 t19 t28 (.int .i64 0) H K)
theorem zxt {t0 t1 t8 t27 t28 t29 : AV} {H : zaa} {K : Kt} (Inv : Nat → AV → zaa → Prop) (n : Nat) (h0 : HSc H → Inv n t29 H)
  (round : Rd1 (fun t29 => zfY t0 t1 t8 t27 t28 t29) (fun t29 => fun H Kb6 => zlB t0 t1 t8 t27 t28 t29 H K Kb6) H Inv) : zqV t0 t1 t8 t27 t28 t29 H K :=
 lp1 (M := zhF) zxu t29 (by kernel_rfl) Inv n h0 round
theorem zxv {t0 t1 t2 : AV} {H : zaa} {K : Kt} (h : HSc H → zqU t0 t1 t2 H K) : ACalls tP zkt [t0, t1, t2] H K :=
 zao (M := zhF) Tryz.func105 (c := zlC) (by kernel_rfl) (fun hs => Eq.mpr (by kernel_rfl) (h hs))
end Go.Proofs.YtacebbdfgbfgiaaGreat

namespace Go.Proofs.YtacebbdfgbfgiaaGreat
open Go Go.Abs
set_option maxRecDepth 8000
def zcQ (data : List Dat) (d : Nat) (vars : Int) (t : VT) : Bool := zbc (data.take (d + 1)) vars t && (zbt d vars t || !zbO d t)
theorem zxx (data : List Dat) (d : Nat) (c : Nat) (hd : d < data.length) (hc : c < (data[d]).cons.length) (hl : data.length ≤ 1000000) (hcl : (data[d]).cons.length ≤ 1000000) (hal : ((data[d]).cons[c]).args.length ≤ 1000000)
  (hb : ∀ x ∈ ((data[d]).cons[c]).args, x.nodes ≤ 1000000) (H : zaa) (K : AV → zaa → Prop)
  (hK : K (.bool (decide (((data[d]).cons[c]).args.length ≤ 6) && ((data[d]).cons[c]).args.all (zcQ data d (data[d]).vars))) H) :
  ACalls tP zkt [.sl (data.map Dat.cs) .none, .int .i64 d, .int .i64 c] H K := by
 refine ACalls.out (zxv fun hs => ?_)
 have e1 : (data.map Dat.cs)[d]? = some (data[d]).cs := by simp [hd]
 have e2 : ((data[d]).cons.map Con.cs)[c]? = some ((data[d]).cons[c]).cs := by simp [hc]
 have hrec := zmX data d c hd hc hl hcl hal hb
 generalize hD : data[d] = D at *
 generalize hA : D.cons[c] = C at *
 have hO : ∀ J, Out H.length K (.bool (decide (C.args.length ≤ 6) && C.args.all (zcQ data d D.vars))) (H ++ J) := fun J => Out.bool rfl (Nat.le_refl _) hs hK
 simp [zqU, e1, e2, Dat.cs, Con.cs, hd, hD, hc, hA]
 by_cases h6 : C.args.length ≤ 6
 ·have h6' : ¬ (6 : Int) < C.args.length := by omega
  have h6'' : ¬ 6 < C.args.length := by omega
  simp [h6', h6'']
  refine hrec _ _ ?_
  simp [h6] at hO
  refine zxt (Inv := fun q t29 H' => ∃ i : Nat, i ≤ C.args.length ∧ q = C.args.length - i ∧ t29 = .int .i64 i ∧ (C.args.drop i).all (zcQ data d D.vars) = C.args.all (zcQ data d D.vars) ∧ H = H') C.args.length ?_ ?_
  ·intro _; exact ⟨0, by omega, by omega, rfl, by simp, rfl⟩
  ·rintro q t29 H' ⟨i, hi, rfl, rfl, ho, rfl⟩ hsc hlen hsF Kb hKb
   by_cases hlt : i < C.args.length
   ·rw [List.drop_eq_getElem_cons hlt, List.all_cons] at ho
    have hnb := hb _ (List.getElem_mem hlt)
    obtain ⟨x1, x2, x3, hvx, hx1, hx2, hx3⟩ := zbd C.args[i]
    simp [zlB, hlt, hvx, e1, hd, hD, Dat.cs]
    refine ⟨⟨hx1, hx2, hx3⟩, ?_⟩
    rw [zan (by omega) (by omega), show ((d : Int) + 1).toNat = d + 1 by omega, ← List.map_take]
    refine ⟨by omega, by omega, ?_⟩
    rw [← hvx]
    refine zbF (.bool (zbc (data.take (d + 1)) D.vars C.args[i])) (fun J => zsW (data.take (d + 1)) D.vars _ (by omega) _ _ ⟨rfl, rfl⟩) ?_
    have hao : zcQ data d D.vars C.args[i] = (zbc (data.take (d + 1)) D.vars C.args[i] && (zbt d D.vars C.args[i] || !zbO d C.args[i])) := rfl
    rw [hao] at ho
    cases hv : zbc (data.take (d + 1)) D.vars C.args[i] with
    | false =>
     rw [hv] at ho
     simp only [Bool.false_and] at ho
     rw [← ho] at hO
     simp; exact hO _
    | true =>
    rw [hv] at ho
    cases hsf : zbt d D.vars C.args[i] with
    | true =>
     rw [hsf] at ho
     simp [hlt, hsf]
     rw [zan (by omega) (by omega)]
     refine hKb _ _ ⟨C.args.length - (i + 1), by omega, Back.same (by simp) hs ?_ ⟨_, rfl, i + 1, by omega, rfl, by simp, by simpa using ho, rfl⟩⟩
     simp [zfY, AV.sc, AV.scV, AV.scA, AV.scB]
    | false =>
     rw [hsf] at ho
     simp [hlt, hsf]
     refine zbF (.bool (zbO d C.args[i])) (fun J => zyi d _ _ (Nat.le_refl _) (by omega) _ _ ⟨rfl, rfl⟩) ?_
     cases hm : zbO d C.args[i] with
     | true =>
      rw [hm] at ho
      simp only [Bool.not_true, Bool.or_false, Bool.and_false, Bool.false_and] at ho
      rw [← ho] at hO
      simp; exact hO _
     | false =>
      rw [hm] at ho
      simp
      rw [zan (by omega) (by omega)]
      refine hKb _ _ ⟨C.args.length - (i + 1), by omega, Back.same (by simp) hs ?_ ⟨_, rfl, i + 1, by omega, rfl, by simp, by simpa using ho, rfl⟩⟩
      simp [zfY, AV.sc, AV.scV, AV.scA, AV.scB]
   ·obtain rfl : i = C.args.length := by omega
    rw [List.drop_length, List.all_nil] at ho
    rw [← ho] at hO
    simp [zlB]
    simpa using hO []
 ·have h6' : (6 : Int) < C.args.length := by omega
  have h6'' : 6 < C.args.length := by omega
  simp [h6', h6'']
  simp [h6] at hO
  simpa using hO []
end Go.Proofs.YtacebbdfgbfgiaaGreat
