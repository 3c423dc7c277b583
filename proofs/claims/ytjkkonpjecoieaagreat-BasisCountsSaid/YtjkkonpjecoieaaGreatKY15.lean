import Derived.Test.YtjkkonpjecoieaaGreatKTW3
import Derived.Test.YtjkkonpjecoieaaGreatKNum
import Derived.Test.YtjkkonpjecoieaaGreatProg
import Derived.KernelRfl
set_option linter.unusedSimpArgs false
set_option linter.unusedVariables false
namespace Go.Proofs.YtjkkonpjecoieaaGreat
open Go Go.Abs
set_option maxRecDepth 4000
theorem zye (b : UInt8) (r : List UInt8) (H : zaa) (K : AV → zaa → Prop) (hK : K (.int .i64 (sgn (b :: r))) H) : ACalls tP zk4 [.str (b :: r)] H K := by
 refine ACalls.out (zDi fun hs => ?_)
 have hO := zck (K := K) (H := H) (r := .int .i64 (sgn (b :: r))) hs rfl rfl hK
 have one : zcG (b :: r) = false → zm2 (.str (b :: r)) (.str sgns) (.int .i64 0) H (Out H.length K) := by
  intro h2
  rw [zrh b r h2] at hO
  have hlen : sgns.length = 13 := rfl
  generalize sgns = ws at *
  refine zDg (Inv := fun q t4 H' => ∃ i : Nat, i ≤ ws.length ∧ q = ws.length - i ∧ t4 = .int .i64 i ∧ (ws.drop i).contains b = ws.contains b ∧ H' = H) ws.length ?_ ?_
  ·intro _; exact ⟨0, by omega, by omega, rfl, by simp, rfl⟩
  ·rintro q t8 H' ⟨i, hi, rfl, rfl, ho, rfl⟩ hsc _ hsF Kb hKb
   by_cases hlt : i < ws.length
   ·rw [List.drop_eq_getElem_cons hlt, List.contains_cons] at ho
    have e1 := zb6 b ws[i]
    cases hz : (b == ws[i]) with
    | true =>
     rw [hz, Bool.true_or] at ho
     rw [← ho] at hO
     simpa [ziv, hlt, e1, hz] using hO
    | false =>
     rw [hz, Bool.false_or] at ho
     simp [ziv, hlt, e1, hz]
     rw [zaq (by omega) (by omega)]
     refine hKb _ _ ⟨ws.length - (i + 1), by omega, Back.here (Nat.le_refl _) hs ?_ ⟨_, rfl, i + 1, by omega, rfl, by simp, ho, rfl⟩⟩
     simp [ziw, AV.sc, AV.scV, AV.scA, AV.scB]
   ·obtain rfl : i = ws.length := by omega
    rw [List.drop_length] at ho
    rw [← ho] at hO
    simpa [ziv, hlt] using hO
 by_cases hl : 2 ≤ (b :: r).length
 ·have hl' : (2 : Int) ≤ r.length + 1 := by simp only [List.length_cons] at hl; omega
  have hl2 : 1 ≤ r.length := by simp only [List.length_cons] at hl; omega
  cases h2 : zcG (b :: r) with
  | true =>
   have h3 : sgn (b :: r) = 2 := by simp [sgn, h2]
   rw [h3] at hO
   unfold zcG at h2
   simp only [List.take_succ_cons] at h2 hO
   cases e1 : (b :: List.take 1 r == [45, 62]) with
   | true => simpa [zeS, hl', hl2, e1] using hO
   | false =>
    cases e2 : (b :: List.take 1 r == [60, 61]) with
    | true => simpa [zeS, hl', hl2, e1, e2] using hO
    | false =>
     rw [e1, e2] at h2
     simp only [Bool.false_or] at h2
     simpa [zeS, hl', hl2, e1, e2, h2] using hO
  | false =>
   have ho := one h2
   unfold sgns at ho
   unfold zcG at h2
   simp only [List.take_succ_cons] at h2
   rw [Bool.or_eq_false_iff, Bool.or_eq_false_iff] at h2
   simpa [zeS, hl', hl2, h2.1.1, h2.1.2, h2.2] using ho
 ·have ho := one (zlH hl)
  unfold sgns at ho
  have : ¬ ((2 : Int) ≤ r.length + 1) := by simp only [List.length_cons] at hl; omega
  simpa [zeS, this] using ho

def Tk.cs (t : Tk) : List AV := [.int .i64 t.kind, .str t.text, .int .i64 t.pos]
def zhg (kw : List UInt8 → Bool) (b : UInt8) (r : List UInt8) (i : Nat) : AV :=
 match tok kw b r with
 | .error e => .tup [.agg [.int .i64 0, .str [], .int .i64 0], .int .i64 e]
 | .ok (k, n) => .tup [.agg (Tk.cs ⟨k, (b :: r).take n, i⟩), .int .i64 0]
theorem zhl {p : UInt8 → Bool} (b : UInt8) (r : List UInt8) : (b :: r).take ((r.takeWhile p).length + 1) = b :: r.takeWhile p := by
 rw [List.take_succ_cons]
 congr 1
 induction r with
 | nil => simp
 | cons c r ih => by_cases h : p c = true <;> simp [h, ih]
theorem zw9 : zcC tP zfx = true := by kernel_rfl
theorem zxa : zcC tP zdZ = true := by kernel_rfl
theorem zqB {H J : zaa} {K : AV → zaa → Prop} {k p e : Int} {t : List UInt8} (hs : HSc H) (h : K (.tup [.agg [.int .i64 k, .str t, .int .i64 p], .int .i64 e]) H) :
  Out H.length K (.tup [.agg [.int .i64 k, .str t, .int .i64 p], .int .i64 e]) (H ++ J) := Out.tup hs h ⟨zaQ rfl rfl, zaQ rfl rfl, trivial⟩
def ziS (t4 t6 : AV) (H : zaa) (K : AV → zaa → Prop) : Prop :=
 zaf 1 t6 fun t69 =>
 zad false 1 t69 H fun t70 =>
 ACalls tP zfy [t70] H fun t71 H =>
 aUn .not t71 fun t72 =>
 zag t72
 (zav [(.int .i64 0), (.str []), (.int .i64 0)] [(0, 1), (1, 1), (2, 1)] [] fun t73 =>
 zak 3 t4 t73 H fun H =>
 zad true 3 t4 H fun r0 =>
 zay [r0, (.int .i64 9)] (K · H))
 (zeW t4 t6 H K)
theorem zx6 (s : List UInt8) (hl : s.length ≤ 1000000) (i : Nat) (hi : i < s.length) (H : zaa) (K : AV → zaa → Prop) (hK : K (zhg (kwF kwds) s[i] (s.drop (i + 1)) i) H) : ACalls tP zlf [.str s, .int .i64 i] H K := by
 refine ACalls.out (zET fun hs => ?_)
 have hdr := List.drop_eq_getElem_cons hi
 have hrl : (s.drop i).length ≤ 1000000 := by simp; omega
 generalize hb : s[i] = b at *
 generalize hr : s.drop (i + 1) = r at *
 have hb' : s[i]?.getD 0 = b := by simp [hi, hb]
 have post : ∀ (k : Int) (n : Nat), tok (kwF kwds) b r = .ok (k, n) → ∀ t, (b :: r).take n = t → zeW (.ptr H.length 0) (.ptr (H.length + 1) 0) (H ++ [.cells [.int .i64 0, .str [], .int .i64 0], .cells [.int .i64 k, .str t, .int .i64 i]]) (Out H.length K) := by
  intro k n ht t hte
  subst hte
  simp [zhg, ht, Tk.cs] at hK
  simp [zeW, zub, AV.known, AV.isV]
  exact zqB hs hK
 have bad : ∀ e : Int, tok (kwF kwds) b r = .error e → ∀ J, Out H.length K (.tup [.agg [.int .i64 0, .str [], .int .i64 0], .int .i64 e]) (H ++ J) := by
  intro e ht J
  simp [zhg, ht] at hK
  exact zqB hs hK
 have hi' := Nat.le_of_lt hi
 by_cases hLU : (zbx b || bUp b) = true
 ·have hin : bIn b = true := by simp [bIn, hLU]
  simp [znt, hi, hb, hi', zav, zaO, AV.known]
  refine zkF b _ _ ?_
  have hc : zbx b = true ∨ (zbx b = false ∧ bUp b = true) := by cases hL : zbx b <;> simp [hL] at hLU ⊢; exact hLU
  have hpost := fun k => post k ((r.takeWhile bIn).length + 1)
  simp only [tok, hLU, if_true, zhl] at hpost
  rcases hc with hL | ⟨hL, hU⟩
  case' inl => simp [hL]
  case' inr => simp [hL]; refine zhq b _ _ ?_; simp [hU]
  all_goals
   rw [hdr]
   refine zqQ bIn zfx zw9 zy9 (b :: r) (by rw [← hdr]; exact hrl) _ _ ?_
   simp [hin, AV.known]
   by_cases hn : (r.takeWhile bIn).length + 1 > 24
   ·have hn' : (24 : Int) < (r.takeWhile bIn).length + 1 := by omega
    have := bad 9 (by simp only [tok, hLU, if_true]; rw [if_pos hn])
    simp [hn', AV.known, AV.isV]
    exact this _
   ·have hn' : ¬ (24 : Int) < (r.takeWhile bIn).length + 1 := by omega
    simp [hn']
    refine zhq b _ _ ?_
    rw [if_neg hn] at hpost
    cases hU : bUp b with
    | true =>
     simp [AV.known, zeV]
     exact hpost 2 (by simp [hU]) _ rfl
    | false =>
     simp [AV.known]
     refine zw7 _ _ _ ?_
     cases hkw : kwF kwds (b :: r.takeWhile bIn) with
     | true =>
      simp [AV.known, zeV]
      exact hpost 4 (by simp [hU, hkw]) _ rfl
     | false =>
      simp [AV.known, zeV]
      exact hpost 1 (by simp [hU, hkw]) _ rfl
 ·have hL : zbx b = false := by simp at hLU; exact hLU.1
  have hU : bUp b = false := by simp at hLU; exact hLU.2
  simp [znt, hi, hb, zav, zaO, AV.known]
  refine zkF b _ _ ?_
  simp [hL]
  refine zhq b _ _ ?_
  simp [hU]
  refine zkq b _ _ ?_
  cases hD : zaK b with
  | true =>
   simp [hi', AV.known]
   rw [hdr]
   refine zqQ zaK zdZ zxa zkq (b :: r) (by rw [← hdr]; exact hrl) _ _ ?_
   have e1 : ((b.toNat : Int) == 48) = (b == 48) := zb6 b 48
   have htk : tok (kwF kwds) b r = if (b == 48 && decide ((r.takeWhile zaK).length + 1 > 1)) = true then .error 2 else if zbL (b :: r.takeWhile zaK) 0 = true then .ok (3, (r.takeWhile zaK).length + 1) else .error 9 := by
    simp only [tok, hLU, hD, if_true, zhl]
    rfl
   have hsm : ∀ J, ACalls tP zfy [.str (b :: r.takeWhile zaK)] (H ++ J) fun t H' => t = .bool (zbL (b :: r.takeWhile zaK) 0) ∧ H' = H ++ J := by
    intro J
    refine zyj _ ?_ ?_ _ _ ⟨rfl, rfl⟩
    ·intro c hc
     rcases List.mem_cons.1 hc with rfl | hc
     ·exact hD
     ·exact List.all_eq_true.1 (List.all_takeWhile) c hc
    ·have h1 : (r.takeWhile zaK).length ≤ r.length := (List.takeWhile_sublist _).length_le
     rw [hdr] at hrl
     simp at hrl ⊢
     omega
   simp [hD, AV.known, e1]
   have hpost := post 3 ((r.takeWhile zaK).length + 1)
   rw [zhl] at hpost
   rw [htk] at hpost bad
   have last : ∀ J, (¬ (b == 48 && decide ((r.takeWhile zaK).length + 1 > 1)) = true) → J = [.cells [.int .i64 0, .str [], .int .i64 0], .cells [.int .i64 3, .str (b :: r.takeWhile zaK), .int .i64 i]] → ziS (.ptr H.length 0) (.ptr (H.length + 1) 0) (H ++ J) (Out H.length K) := by
    rintro J hne rfl
    rw [if_neg hne] at hpost bad
    simp [ziS]
    refine (hsm _).mono ?_
    rintro _ _ ⟨rfl, rfl⟩
    cases hv : zbL (b :: r.takeWhile zaK) 0 with
    | true =>
     simp
     exact hpost (by simp [hv]) _ rfl
    | false =>
     simp [AV.known, zav, zaO, AV.isV]
     exact bad 9 (by simp [hv]) _
   cases hz : (b == 48) with
   | true =>
    simp [hz]
    by_cases hn : 1 < (r.takeWhile zaK).length + 1
    ·have hn' : (1 : Int) < (r.takeWhile zaK).length + 1 := by omega
     have hd : decide ((r.takeWhile zaK).length + 1 > 1) = true := decide_eq_true hn
     have := bad 2 (by rw [hz, hd]; rfl)
     simp [hn', AV.known, AV.isV]
     exact this _
    ·have hn' : ¬ (1 : Int) < (r.takeWhile zaK).length + 1 := by omega
     have hd : decide ((r.takeWhile zaK).length + 1 > 1) = false := decide_eq_false hn
     have := last _ (by rw [hz, hd]; decide) rfl
     simp [ziS, zav, zaO] at this
     simp [hn']
     exact this
   | false =>
    have := last _ (by simp [hz]) rfl
    simp [ziS, zav, zaO] at this
    simp [hz]
    exact this
  | false => 
   simp [hi', AV.known]
   rw [hdr]
   refine zyf b r _ _ ?_
   simp [AV.known]
   have htk : tok (kwF kwds) b r = if sgn (b :: r) = 0 then .error 2 else .ok (5, sgn (b :: r)) := by
    simp only [tok, hLU, hD]
    rfl
   by_cases hz : sgn (b :: r) = 0
   ·have := bad 2 (by rw [htk, if_pos hz])
    simp [hz, AV.isV]
    exact this _
   ·have := post 5 (sgn (b :: r)) (by rw [htk, if_neg hz]) _ rfl
    have he : (List.take (sgn (b :: r)) (b :: r)).isEmpty = false := by
     cases h : sgn (b :: r) with
     | zero => exact absurd h hz
     | succ n => simp
    simp [he]
    exact this
def cat (l : List Tk) : Except (Nat × Int) (List Tk) → Except (Nat × Int) (List Tk)
 | .error e => .error e
 | .ok m => .ok (l ++ m)
theorem zpp (l m : List Tk) (r : Except (Nat × Int) (List Tk)) : cat l (cat m r) = cat (l ++ m) r := by cases r <;> simp [cat]
@[simp] theorem zMj (r : Except (Nat × Int) (List Tk)) : cat [] r = r := by cases r <;> rfl
def zdb (r : List UInt8) : List UInt8 := r.dropWhile (· != 10)
def zdc (r : List UInt8) : Nat := (r.takeWhile (· != 10)).length
section
variable (kw : List UInt8 → Bool)
theorem zlR (p : Nat) : za9 kw [] p = .ok [⟨6, [], p⟩] := by unfold za9; rfl
theorem zrA {b : UInt8} (h : zcB b = true) (r : List UInt8) (p : Nat) : za9 kw (b :: r) p = za9 kw r (p + 1) := by
 conv => lhs; unfold za9
 simp [h]
theorem zrD {b : UInt8} (h0 : zcB b = false) (h : (b == 35) = true) (r : List UInt8) (p : Nat) : za9 kw (b :: r) p = za9 kw (zdb r) (p + 1 + zdc r) := by
 conv => lhs; unfold za9
 simp only [h0, h, Bool.false_eq_true, if_false, if_true]
 rfl
theorem zrB {b : UInt8} (h0 : zcB b = false) (h : (b == 35) = false) {r : List UInt8} {p : Nat} {e : Int} (ht : tok kw b r = .error e) : za9 kw (b :: r) p = .error (p, e) := by
 conv => lhs; unfold za9
 simp only [h0, h, Bool.false_eq_true, if_false, ht]
theorem zrE {b : UInt8} (h0 : zcB b = false) (h : (b == 35) = false) {r : List UInt8} {p : Nat} {k : Int} {n : Nat} (ht : tok kw b r = .ok (k, n)) :
  za9 kw (b :: r) p = cat [⟨k, (b :: r).take n, p⟩] (za9 kw ((b :: r).drop n) (p + n)) := by
 conv => lhs; unfold za9
 have hn := zlQ ht
 obtain ⟨m, rfl⟩ : ∃ m, n = m + 1 := ⟨n - 1, by omega⟩
 simp only [h0, h, Bool.false_eq_true, if_false, ht, Nat.add_sub_cancel, List.drop_succ_cons]
 cases za9 kw (r.drop m) (p + (m + 1)) <;> rfl
end
theorem zhi {b : UInt8} (h : (b == 10) = false) (r : List UInt8) : zdb (b :: r) = zdb r ∧ zdc (b :: r) = 1 + zdc r := by
 have hb : b ≠ 10 := by simpa using h
 constructor
 ·simp [zdb, hb]
 ·simp [zdc, hb]; omega
theorem zri {b : UInt8} (h : (b == 10) = true) (r : List UInt8) : zdb (b :: r) = b :: r ∧ zdc (b :: r) = 0 := by
 have hb : b = 10 := by simpa using h
 constructor
 ·simp [zdb, hb]
 ·simp [zdc, hb]
theorem skipC_nil : zdb [] = [] ∧ zdc [] = 0 := ⟨rfl, rfl⟩
theorem zlP {kw : List UInt8 → Bool} {b : UInt8} {r : List UInt8} {k : Int} {n : Nat} (h : tok kw b r = .ok (k, n)) : n ≤ (b :: r).length := by
 have tw : ∀ p : UInt8 → Bool, (r.takeWhile p).length ≤ r.length := fun p => (List.takeWhile_sublist _).length_le
 unfold tok at h
 split at h
 ·simp only at h; split at h <;> simp at h; have := tw bIn; simp; omega
 ·split at h
  ·simp only at h; split at h
   ·simp at h
   ·split at h <;> simp at h; have := tw zaK; simp; omega
  ·simp only at h
   split at h <;> simp at h
   obtain ⟨_, rfl⟩ := h
   unfold sgn
   split
   ·rename_i h2
    by_cases hl : 2 ≤ (b :: r).length
    ·exact hl
    ·rw [zlH hl] at h2; cases h2
   ·split
    ·simp
    ·split <;> simp
theorem zyW {kw : List UInt8 → Bool} {b : UInt8} {r : List UInt8} {e : Int} (h : tok kw b r = .error e) : e = 2 ∨ e = 9 := by
 unfold tok at h
 split at h
 ·simp only at h; split at h <;> simp at h; omega
 ·split at h
  ·simp only at h; split at h
   ·simp at h; omega
   ·split at h <;> simp at h; omega
  ·simp only at h
   split at h <;> simp at h; omega
def zdB (s : List UInt8) : AV :=
 if s.length > 16384 then .tup [.sl [] .none, .int .i64 0, .int .i64 9] else
 match za9 (kwF kwds) s 0 with
 | .error (p, e) => .tup [.sl [] .none, .int .i64 p, .int .i64 e]
 | .ok l => .tup [.sl (l.map Tk.cs) .none, .int .i64 0, .int .i64 0]
theorem two {H : zaa} {x y : AB} : H ++ [x, y] = (H ++ [x]) ++ [y] := by simp
theorem zqA {H J : zaa} {K : AV → zaa → Prop} {p e : Int} (hs : HSc H) (hK : K (.tup [.sl [] .none, .int .i64 p, .int .i64 e]) H) : Out H.length K (.tup [.snil, .int .i64 p, .int .i64 e]) (H ++ J) :=
 Out.tup hs hK ⟨zdA, zaQ rfl rfl, zaQ rfl rfl, trivial⟩
theorem zyO (s : List UInt8) (H : zaa) (K : AV → zaa → Prop) (hK : K (zdB s) H) : ACalls tP zlb [.str s] H K := by
 refine ACalls.out (zEC fun hs => ?_)
 by_cases hl : s.length > 16384
 ·have hl' : (16384 : Int) < s.length := by omega
  simp [znm, hl', AV.isV]
  unfold zdB at hK
  rw [if_pos hl] at hK
  exact Out.tup0 hs hK ⟨zdA, zaQ rfl rfl, zaQ rfl rfl, trivial⟩
 have hl' : ¬ (16384 : Int) < s.length := by omega
 unfold zdB at hK
 rw [if_neg hl] at hK
 simp [znm, hl']
 have hperm : ∀ n, HSc (H ++ [.perm zds 3 n]) := fun n => hs.append rfl
 unfold ziP
 refine ALoop.own 5 zds 3 rfl ?_
 show ziP (.str s) (.sl [] (.own H.length)) (.int .i64 0) (H ++ [.perm zds 3 0]) (Out H.length K)
 refine zEz (Inv := fun q t5 t6 H' => ∃ (i : Nat) (l : List Tk), i ≤ s.length ∧ l.length ≤ i ∧ q = s.length - i ∧ t6 = .int .i64 i ∧ t5 = .sl (l.map Tk.cs) (.own H.length) ∧ H' = H ++ [.perm zds 3 l.length] ∧ cat l (za9 (kwF kwds) (s.drop i) i) = za9 (kwF kwds) s 0) s.length ?_ ?_
 ·intro _; exact ⟨0, [], by omega, by simp, by omega, rfl, rfl, rfl, by simp⟩
 ·rintro q t5 t6 H' ⟨i, l, hi, hll, rfl, rfl, rfl, rfl, ho⟩ hsc hlen hsF Kb hKb
  have done : cat l (.ok [⟨6, [], s.length⟩]) = za9 (kwF kwds) s 0 → ziO (.str s) (.sl (l.map Tk.cs) (.own H.length)) (H ++ [.perm zds 3 l.length]) (Out H.length K) := by
   intro ho
   rw [← ho] at hK
   simp [ziO, zt3, zav, zaO, zaB, zbj, zaz, AV.pd, zaA, zaV, zaN, AV.isV]
   refine ⟨by omega, ?_⟩
   simp [cat, Tk.cs] at hK
   exact Out.tup hs hK ⟨slV, zaQ rfl rfl, zaQ rfl rfl, trivial⟩
  by_cases hlt : i < s.length
  ·have hdr := List.drop_eq_getElem_cons hlt
   simp [znn, hlt]
   refine zwi _ _ _ ?_
   have e35 : ((s[i].toNat : Int) == 35) = (s[i] == 35) := zb6 s[i] 35
   cases hbl : zcB s[i] with
   | true =>
    rw [hdr, zrA _ hbl] at ho
    simp [zeU]
    rw [zaq (by omega) (by omega)]
    refine hKb _ _ ⟨s.length - (i + 1), by omega, Back.here (by simp) (hperm _) ?_ ⟨_, _, rfl, i + 1, l, by omega, by omega, rfl, by simp, rfl, rfl, ho⟩⟩
    simp [zeT, AV.sc, AV.scV, AV.scA, AV.scB]
   | false =>
    simp [e35]
    cases hsh : (s[i] == 35) with
    | true =>
     simp
     rw [hdr, zrD _ hbl hsh] at ho
     have h10 : (s[i] == 10) = false := by
      rw [beq_iff_eq] at hsh; rw [hsh]; rfl
     obtain ⟨c1, c2⟩ := zhi h10 (s.drop (i + 1))
     rw [Nat.add_assoc, ← c1, ← c2, ← hdr] at ho
     refine zEA (Inv := fun q t6 H' => ∃ (j : Nat), i ≤ j ∧ j ≤ s.length ∧ q = s.length - j ∧ t6 = .int .i64 j ∧ H' = H ++ [.perm zds 3 l.length] ∧ cat l (za9 (kwF kwds) (zdb (s.drop j)) (j + zdc (s.drop j))) = za9 (kwF kwds) s 0) (s.length - i) ?_ ?_
     ·intro _; exact ⟨i, by omega, by omega, by omega, rfl, rfl, ho⟩
     ·rintro q t6 H' ⟨j, hij, hj, rfl, rfl, rfl, ho⟩ hsc hlen hsF Kb9 hKb9
      by_cases hjlt : j < s.length
      ·have hdrj := List.drop_eq_getElem_cons hjlt
       have e10 : ((s[j].toNat : Int) == 10) = (s[j] == 10) := zb6 s[j] 10
       simp [zno, hjlt, e10]
       cases hz : (s[j] == 10) with
       | true =>
        obtain ⟨d1, d2⟩ := zri hz (s.drop (j + 1))
        rw [hdrj, d1, d2, ← hdrj, Nat.add_zero] at ho
        have hij' : i ≠ j := by rintro rfl; rw [h10] at hz; cases hz
        simp [zeU]
        refine hKb _ _ ⟨s.length - j, by omega, Back.here (by simp) (hperm _) ?_ ⟨_, _, rfl, j, l, by omega, by omega, rfl, by simp, rfl, rfl, ho⟩⟩
        simp [zeT, AV.sc, AV.scV, AV.scA, AV.scB]
       | false =>
        obtain ⟨d1, d2⟩ := zhi hz (s.drop (j + 1))
        rw [hdrj, d1, d2, ← Nat.add_assoc] at ho
        simp
        rw [zaq (by omega) (by omega)]
        refine hKb9 _ _ ⟨s.length - (j + 1), by omega, Back.here (by simp) (hperm _) ?_ ⟨_, rfl, j + 1, by omega, by omega, rfl, by simp, rfl, ho⟩⟩
        simp [ziN, AV.sc, AV.scV, AV.scA, AV.scB]
      ·obtain rfl : j = s.length := by omega
       simp [zno]
       rw [List.drop_length, skipC_nil.1, skipC_nil.2, Nat.add_zero, zlR] at ho
       exact done ho
    | false =>
     simp
     refine zx6 s (by omega) i hlt _ _ ?_
     unfold zhg
     cases ht : tok (kwF kwds) s[i] (s.drop (i + 1)) with
     | error e =>
      rw [hdr, zrB _ hbl hsh ht] at ho
      have he : (e != 0) = true := by rcases zyW ht with rfl | rfl <;> rfl
      rw [← ho] at hK
      simp [AV.known, AV.isV, he]
      exact zqA hs hK
     | ok kn =>
      obtain ⟨k, n⟩ := kn
      rw [hdr, zrE _ hbl hsh ht, zpp, ← hdr] at ho
      have hn := zlP ht
      rw [← hdr] at hn
      simp at hn
      have hn0 := zlQ ht
      simp [Tk.cs, AV.known, zaB, zbj, zaz, AV.pd, zaA, zaV, zaN, zeU]
      refine ⟨by omega, ?_⟩
      rw [show min n (s.length - i) = n by omega, zaq (by omega) (by omega), two]
      refine hKb _ _ ⟨s.length - (i + n), by omega, Back.same (by simp) (hperm _) ?_ ⟨_, _, rfl, i + n, l ++ [⟨k, (s.drop i).take n, i⟩], by omega, by simp; omega, rfl, by simp, by simp [Tk.cs], by simp, ?_⟩⟩
      ·simp [zeT, AV.sc, AV.scV, AV.scA, AV.scB]
      ·rw [List.drop_drop] at ho; exact ho
  ·obtain rfl : i = s.length := by omega
   rw [List.drop_length, zlR] at ho
   simpa [znn] using done ho
end Go.Proofs.YtjkkonpjecoieaaGreat
namespace Go.Proofs.YtjkkonpjecoieaaGreat
open Go Go.Abs
set_option maxRecDepth 4000
set_option maxRecDepth 4000
theorem zhm (s : List UInt8) (i n : Nat) : List.drop i (List.take (i + n) s) = List.take n (List.drop i s) := by
 rw [List.drop_take]; congr 1; omega
def zeP (t0 t5 t6 t7 t8 : AV) (H : zaa) (K : AV → zaa → Prop) (Kb5 : List AV → zaa → Prop) : Prop :=
 zac .gtr false t8 (.int .i64 24) fun t118 =>
 zag t118
 (zay [.snil, t6, (.int .i64 9)] (K · H))
 (ACalls tP zez [t7] H fun t121 H =>
 zag t121
 (zdE t0 t5 t6 t8 (.int .i64 2) H K Kb5)
 (zac .add false t6 t8 fun t126 =>
 zaL 0 0 t0 (some t6) (some t126) fun t127 =>
 ACalls tP zgI [t127] H fun t128 H =>
 zag t128
 (zdE t0 t5 t6 t8 (.int .i64 4) H K Kb5)
 (zdE t0 t5 t6 t8 (.int .i64 1) H K Kb5)))
section
variable (s : List UInt8) (hl : ¬ s.length > 16384) (i : Nat) (hlt : i < s.length) (H : zaa) (l : List Tk) (hll : l.length ≤ i) (hperm : ∀ n, HSc (H ++ [.perm za1 3 n])) (K : AV → zaa → Prop) (Kb : List AV → zaa → Prop)
include hl hlt hll hperm
theorem zza (hLU : (zbx s[i] || bUp s[i]) = true)
  (app : ∀ (k : Int) (n : Nat), tok (kwF kwds) s[i] (s.drop (i + 1)) = .ok (k, n) → ∀ t, (s.drop i).take n = t → zfU (.str s) (.sl (l.map Tk.cs ++ [[.int .i64 k, .str t, .int .i64 i]]) (.own H.length)) (.int .i64 i) (.int .i64 n) (H ++ [.perm za1 3 (l.length + 1)]) (Out H.length K) Kb)
  (bad : ∀ e : Int, tok (kwF kwds) s[i] (s.drop (i + 1)) = .error e → Out H.length K (.tup [.snil, .int .i64 i, .int .i64 e]) (H ++ [.perm za1 3 l.length])) :
  zmm (.str s) (.sl (l.map Tk.cs) (.own H.length)) (.int .i64 i) (.int .u8 s[i].toNat) (.int .i64 1) (H ++ [.perm za1 3 l.length]) (Out H.length K) Kb := by
 refine zAH (Inv := fun q t8 H' => ∃ (j : Nat), i + j ≤ s.length ∧ 0 < j ∧ q = s.length - j ∧ t8 = .int .i64 j ∧ H' = H ++ [.perm za1 3 l.length] ∧ j + ((s.drop (i + j)).takeWhile bIn).length = ((s.drop (i + 1)).takeWhile bIn).length + 1) (s.length - 1) ?_ ?_
 ·intro _; exact ⟨1, by omega, by omega, by omega, rfl, rfl, by omega⟩
 ·rintro q t8 H' ⟨j, hij, hj0, rfl, rfl, rfl, hn⟩ hsc hlen hsF Kb18 hKb18
  have w1 : IntKind.i64.wrap ((i : Int) + j) = i + j := zaq (by omega) (by omega)
  have w2 : IntKind.i64.wrap ((j : Int) + 1) = j + 1 := zaq (by omega) (by omega)
  have fin : ((s.drop (i + j)).takeWhile bIn).length = 0 → zeP (.str s) (.sl (l.map Tk.cs) (.own H.length)) (.int .i64 i) (.int .u8 s[i].toNat) (.int .i64 j) (H ++ [.perm za1 3 l.length]) (Out H.length K) Kb := by
   intro h0
   rw [h0] at hn
   have htk : tok (kwF kwds) s[i] (s.drop (i + 1)) = if j > 24 then .error 9 else .ok (if bUp s[i] = true then 2 else if kwF kwds ((s.drop i).take j) = true then 4 else 1, j) := by
    rw [List.drop_eq_getElem_cons hlt]
    simp only [tok, hLU, if_true, ← hn, Nat.add_zero]
   by_cases h24 : j > 24
   ·have h24' : (24 : Int) < j := by omega
    rw [if_pos h24] at htk
    simp [zeP, h24', AV.isV]
    exact bad 9 htk
   ·have h24' : ¬ (24 : Int) < j := by omega
    rw [if_neg h24] at htk
    simp [zeP, h24']
    refine zhp _ _ _ ?_
    have fin2 : ∀ k, k = (if bUp s[i] = true then 2 else if kwF kwds ((s.drop i).take j) = true then 4 else 1 : Int) → zdE (.str s) (.sl (l.map Tk.cs) (.own H.length)) (.int .i64 i) (.int .i64 j) (.int .i64 k) (H ++ [.perm za1 3 l.length]) (Out H.length K) Kb := by
     intro k hk
     rw [← hk] at htk
     have := app k j htk _ rfl
     simp [zdE, w1, w2, zav, zaO, zaB, zbj, zaz, AV.pd, zaA, zaV, zaN, zdF]
     refine ⟨by omega, by omega, by omega, ?_⟩
     rw [show ((i : Int) + j).toNat = i + j by omega, zhm]
     exact this
    cases hU : bUp s[i] with
    | true => simp; exact fin2 2 (by simp [hU])
    | false =>
     simp [w1, w2]
     refine ⟨by omega, by omega, ?_⟩
     rw [show ((i : Int) + j).toNat = i + j by omega, zhm]
     refine zw8 _ _ _ ?_
     cases hkw : kwF kwds ((s.drop i).take j) with
     | true => simp; exact fin2 4 (by simp [hU, hkw])
     | false => simp; exact fin2 1 (by simp [hU, hkw])
  by_cases hjlt : i + j < s.length
  ·have e95 : ((s[i + j].toNat : Int) == 95) = (s[i + j] == 95) := zb6 s[i + j] 95
   have hjlt' : (i + j : Int) < s.length := by omega
   rw [List.drop_eq_getElem_cons hjlt, List.takeWhile_cons] at hn fin
   have key : bIn s[i + j] = true → Kb18 (zfT (.str s) (.sl (l.map Tk.cs) (.own H.length)) (.int .i64 i) (.int .u8 s[i].toNat) (.int .i64 (j + 1))) (H ++ [.perm za1 3 l.length]) := by
    intro hbin
    rw [hbin] at hn
    simp at hn
    refine hKb18 _ _ ⟨s.length - (j + 1), by omega, Back.here (by simp) (hperm _) ?_ ⟨_, rfl, j + 1, by omega, by omega, rfl, by simp, rfl, by rw [← Nat.add_assoc]; omega⟩⟩
    simp [zfT, AV.sc, AV.scV, AV.scA, AV.scB]
   have no : bIn s[i + j] = false → zeP (.str s) (.sl (l.map Tk.cs) (.own H.length)) (.int .i64 i) (.int .u8 s[i].toNat) (.int .i64 j) (H ++ [.perm za1 3 l.length]) (Out H.length K) Kb := by
    intro hbin
    rw [hbin] at fin
    exact fin (by simp)
   have hget : s[((i : Int) + j).toNat]?.getD 0 = s[i + j] := by
    rw [show ((i : Int) + j).toNat = i + j by omega]
    simp [hjlt]
   unfold bIn at key no
   simp [zmj, w1, w2, hjlt', hget]
   refine ⟨by omega, ?_⟩
   refine zqd _ _ _ ?_
   cases hL : zbx s[i + j] with
   | true => simpa using key (by simp [hL])
   | false =>
    simp [w1, w2, hjlt', hget]
    refine ⟨by omega, zhp _ _ _ ?_⟩
    cases hU : bUp s[i + j] with
    | true => simpa using key (by simp [hU])
    | false =>
     simp [w1, w2, hjlt', hget]
     refine ⟨by omega, zkp _ _ _ ?_⟩
     cases hD : zaK s[i + j] with
     | true => simpa using key (by simp [hD])
     | false =>
      simp [w1, w2, hjlt', hget, e95]
      refine ⟨by omega, ?_⟩
      cases h95 : (s[i + j] == 95) with
      | true => simpa using key (by simp [h95])
      | false => simpa [zeP, w1] using no (by simp [hL, hU, hD, h95])
  ·have hjlt' : ¬ (i + j : Int) < s.length := by omega
   have : s.drop (i + j) = [] := List.drop_eq_nil_of_le (by omega)
   rw [this] at fin
   have := fin rfl
   simp [zmj, w1, w2, hjlt']
   simpa [zeP, w1] using this
end
def zhP (t0 t5 t6 t8 : AV) (H : zaa) (K : AV → zaa → Prop) (Kb5 : List AV → zaa → Prop) : Prop :=
 zac .add false t6 t8 fun t172 =>
 zaL 0 0 t0 (some t6) (some t172) fun t173 =>
 ACalls tP zeA [t173] H fun t174 H =>
 zax t174 0 fun t175 =>
 zax t174 1 fun t176 =>
 aUn .not t176 fun t178 =>
 zag t178
 (zay [.snil, t6, (.int .i64 9)] (K · H))
 (zac .add false t6 t8 fun t185 =>
 zaL 0 0 t0 (some t6) (some t185) fun t186 =>
 zav [(.int .i64 0), (.str []), (.int .i64 0)] [(0, 1), (1, 1), (2, 1)] [(0, (.int .i64 3)), (1, t186), (2, t6)] fun t188 =>
 zaB 3 [(.int .i64 0), (.str []), (.int .i64 0)] 1 [(0, t188)] fun t189 =>
 zaA za1 3 32 t5 t189 H fun t190 H =>
 zdF t0 t190 t6 t8 H K Kb5)
def zeQ (t0 t5 t6 t7 t8 : AV) (H : zaa) (K : AV → zaa → Prop) (Kb5 : List AV → zaa → Prop) : Prop :=
 zac .gtr false t8 (.int .i64 1) fun t161 =>
 zab t161 true H (fun K' => K' t7 H) fun t163 H =>
 zab t161 true H (fun K' => zac .eql false t163 (.int .u8 48) (K' · H)) fun t164 H =>
 zai t161 t164 (.bool false) fun t165 =>
 zag t165
 (zay [.snil, t6, (.int .i64 2)] (K · H))
 (zac .add false t6 t8 fun t172 =>
 zaL 0 0 t0 (some t6) (some t172) fun t173 =>
 ACalls tP zeA [t173] H fun t174 H =>
 zax t174 0 fun t175 =>
 zax t174 1 fun t176 =>
 aUn .not t176 fun t178 =>
 zag t178
 (zay [.snil, t6, (.int .i64 9)] (K · H))
 (zac .add false t6 t8 fun t185 =>
 zaL 0 0 t0 (some t6) (some t185) fun t186 =>
 zav [(.int .i64 0), (.str []), (.int .i64 0)] [(0, 1), (1, 1), (2, 1)] [(0, (.int .i64 3)), (1, t186), (2, t6)] fun t188 =>
 zaB 3 [(.int .i64 0), (.str []), (.int .i64 0)] 1 [(0, t188)] fun t189 =>
 zaA za1 3 32 t5 t189 H fun t190 H =>
 zdF t0 t190 t6 t8 H K Kb5))
section
variable (s : List UInt8) (hl : ¬ s.length > 16384) (i : Nat) (hlt : i < s.length) (H : zaa) (l : List Tk) (hll : l.length ≤ i) (hperm : ∀ n, HSc (H ++ [.perm za1 3 n])) (K : AV → zaa → Prop) (Kb : List AV → zaa → Prop)
include hl hlt hll hperm
theorem zxr (hLU : ¬ (zbx s[i] || bUp s[i]) = true) (hD : zaK s[i] = true)
  (app : ∀ (k : Int) (n : Nat), tok (kwF kwds) s[i] (s.drop (i + 1)) = .ok (k, n) → ∀ t, (s.drop i).take n = t → zfU (.str s) (.sl (l.map Tk.cs ++ [[.int .i64 k, .str t, .int .i64 i]]) (.own H.length)) (.int .i64 i) (.int .i64 n) (H ++ [.perm za1 3 (l.length + 1)]) (Out H.length K) Kb)
  (bad : ∀ e : Int, tok (kwF kwds) s[i] (s.drop (i + 1)) = .error e → Out H.length K (.tup [.snil, .int .i64 i, .int .i64 e]) (H ++ [.perm za1 3 l.length])) :
  zmn (.str s) (.sl (l.map Tk.cs) (.own H.length)) (.int .i64 i) (.int .u8 s[i].toNat) (.int .i64 1) (H ++ [.perm za1 3 l.length]) (Out H.length K) Kb := by
 refine zAI (Inv := fun q t8 H' => ∃ (j : Nat), i + j ≤ s.length ∧ 0 < j ∧ q = s.length - j ∧ t8 = .int .i64 j ∧ H' = H ++ [.perm za1 3 l.length] ∧ j + ((s.drop (i + j)).takeWhile zaK).length = ((s.drop (i + 1)).takeWhile zaK).length + 1) (s.length - 1) ?_ ?_
 ·intro _; exact ⟨1, by omega, by omega, by omega, rfl, rfl, by omega⟩
 ·rintro q t8 H' ⟨j, hij, hj0, rfl, rfl, rfl, hn⟩ hsc hlen hsF Kb18 hKb18
  have w1 : IntKind.i64.wrap ((i : Int) + j) = i + j := zaq (by omega) (by omega)
  have w2 : IntKind.i64.wrap ((j : Int) + 1) = j + 1 := zaq (by omega) (by omega)
  have e48 : ((s[i].toNat : Int) == 48) = (s[i] == 48) := zb6 s[i] 48
  have fin : ((s.drop (i + j)).takeWhile zaK).length = 0 → zeQ (.str s) (.sl (l.map Tk.cs) (.own H.length)) (.int .i64 i) (.int .u8 s[i].toNat) (.int .i64 j) (H ++ [.perm za1 3 l.length]) (Out H.length K) Kb := by
   intro h0
   rw [h0] at hn
   have hdj : (s.drop i).take j = s[i] :: (s.drop (i + 1)).takeWhile zaK := by
    rw [List.drop_eq_getElem_cons hlt, show j = ((s.drop (i + 1)).takeWhile zaK).length + 1 by omega, zhl]
   have htk : tok (kwF kwds) s[i] (s.drop (i + 1)) = if (s[i] == 48 && decide (j > 1)) = true then .error 2 else if zbL ((s.drop i).take j) 0 = true then .ok (3, j) else .error 9 := by
    rw [List.drop_eq_getElem_cons hlt]
    simp only [tok, hLU, hD, if_true, ← hn, Nat.add_zero]
    rfl
   have hval : ∀ (K : AV → zaa → Prop) (H : zaa), (∀ n, K (.tup [.int .i64 n, .bool (zbL ((s.drop i).take j) 0)]) H) → ACalls tP zeA [.str ((s.drop i).take j)] H K := by
    intro K H hK
    refine zy5 _ ?_ (by simp; omega) _ _ hK
    intro c hc
    rw [hdj] at hc
    rcases List.mem_cons.1 hc with rfl | hc
    ·exact hD
    ·exact List.all_eq_true.1 (List.all_takeWhile) c hc
   have rest : ¬ (s[i] == 48 && decide (j > 1)) = true → zhP (.str s) (.sl (l.map Tk.cs) (.own H.length)) (.int .i64 i) (.int .i64 j) (H ++ [.perm za1 3 l.length]) (Out H.length K) Kb := by
    intro hne
    rw [if_neg hne] at htk
    simp [zhP, w1]
    refine ⟨by omega, by omega, ?_⟩
    rw [show ((i : Int) + j).toNat = i + j by omega, zhm]
    refine hval _ _ fun n => ?_
    cases hv : zbL ((s.drop i).take j) 0 with
    | false =>
     rw [hv] at htk
     simp [AV.isV]
     exact bad 9 htk
    | true =>
     rw [hv] at htk
     have := app 3 j htk _ rfl
     simp [zav, zaO, zaB, zbj, zaz, AV.pd, zaA, zaV, zaN, zdF]
     refine ⟨by omega, by omega, by omega, ?_⟩
     exact this
   by_cases h1 : j > 1
   ·have h1' : (1 : Int) < j := by omega
    have hd : decide (j > 1) = true := decide_eq_true h1
    rw [hd] at rest htk
    cases hz : (s[i] == 48) with
    | true =>
     rw [hz] at htk
     simp [zeQ, h1', e48, hz, AV.isV]
     exact bad 2 htk
    | false =>
     have := rest (by rw [hz]; decide)
     simp [zeQ, h1', e48, hz]
     simpa [zhP] using this
   ·have h1' : ¬ (1 : Int) < j := by omega
    have := rest (by rw [decide_eq_false h1]; simp)
    simp [zeQ, h1']
    simpa [zhP] using this
  by_cases hjlt : i + j < s.length
  ·have hjlt' : (i + j : Int) < s.length := by omega
   rw [List.drop_eq_getElem_cons hjlt, List.takeWhile_cons] at hn fin
   have hget : s[((i : Int) + j).toNat]?.getD 0 = s[i + j] := by
    rw [show ((i : Int) + j).toNat = i + j by omega]
    simp [hjlt]
   simp [zmk, w1, w2, hjlt', hget]
   refine ⟨by omega, ?_⟩
   refine zkp _ _ _ ?_
   cases hb : zaK s[i + j] with
   | true =>
    rw [hb] at hn
    simp at hn
    simp [w1, w2]
    refine hKb18 _ _ ⟨s.length - (j + 1), by omega, Back.here (by simp) (hperm _) ?_ ⟨_, rfl, j + 1, by omega, by omega, rfl, by simp, rfl, by rw [← Nat.add_assoc]; omega⟩⟩
    simp [zhR, AV.sc, AV.scV, AV.scA, AV.scB]
   | false =>
    rw [hb] at fin
    have := fin (by simp)
    simp [w1, w2]
    simpa [zeQ, w1] using this
  ·have hjlt' : ¬ (i + j : Int) < s.length := by omega
   have : s.drop (i + j) = [] := List.drop_eq_nil_of_le (by omega)
   rw [this] at fin
   have := fin rfl
   simp [zmk, w1, w2, hjlt']
   simpa [zeQ, w1] using this
end
theorem zyP (s : List UInt8) (H : zaa) (K : AV → zaa → Prop) (hK : K (zdB s) H) : ACalls tP zkQ [.str s] H K := by
 refine ACalls.out (zAN fun hs => ?_)
 by_cases hl : s.length > 16384
 ·have hl' : (16384 : Int) < s.length := by omega
  simp [zmh, hl', AV.isV]
  unfold zdB at hK
  rw [if_pos hl] at hK
  exact Out.tup0 hs hK ⟨zdA, zaQ rfl rfl, zaQ rfl rfl, trivial⟩
 have hl' : ¬ (16384 : Int) < s.length := by omega
 unfold zdB at hK
 rw [if_neg hl] at hK
 simp [zmh, hl']
 have hperm : ∀ n, HSc (H ++ [.perm za1 3 n]) := fun n => hs.append rfl
 unfold zhS
 refine ALoop.own 5 za1 3 rfl ?_
 show zhS (.str s) (.sl [] (.own H.length)) (.int .i64 0) (H ++ [.perm za1 3 0]) (Out H.length K)
 refine zAJ (Inv := fun q t5 t6 H' => ∃ (i : Nat) (l : List Tk), i ≤ s.length ∧ l.length ≤ i ∧ q = s.length - i ∧ t6 = .int .i64 i ∧ t5 = .sl (l.map Tk.cs) (.own H.length) ∧ H' = H ++ [.perm za1 3 l.length] ∧ cat l (za9 (kwF kwds) (s.drop i) i) = za9 (kwF kwds) s 0) s.length ?_ ?_
 ·intro _; exact ⟨0, [], by omega, by simp, by omega, rfl, rfl, rfl, by simp⟩
 ·rintro q t5 t6 H' ⟨i, l, hi, hll, rfl, rfl, rfl, rfl, ho⟩ hsc hlen hsF Kb hKb
  by_cases hlt : i < s.length
  ·have hdr := List.drop_eq_getElem_cons hlt
   have e9 : ((s[i].toNat : Int) == 9) = (s[i] == 9) := zb6 s[i] 9
   have e10 : ((s[i].toNat : Int) == 10) = (s[i] == 10) := zb6 s[i] 10
   have e13 : ((s[i].toNat : Int) == 13) = (s[i] == 13) := zb6 s[i] 13
   have e32 : ((s[i].toNat : Int) == 32) = (s[i] == 32) := zb6 s[i] 32
   have e35 : ((s[i].toNat : Int) == 35) = (s[i] == 35) := zb6 s[i] 35
   cases hbl : zcB s[i] with
   | true =>
    rw [hdr, zrA _ hbl] at ho
    have key : zdD (.str s) (.sl (l.map Tk.cs) (.own H.length)) (.int .i64 (IntKind.i64.wrap (i + 1))) (H ++ [.perm za1 3 l.length]) (Out H.length K) Kb := by
     simp [zdD]
     rw [zaq (by omega) (by omega)]
     refine hKb _ _ ⟨s.length - (i + 1), by omega, Back.here (by simp) (hperm _) ?_ ⟨_, _, rfl, i + 1, l, by omega, by omega, rfl, by simp, rfl, rfl, ho⟩⟩
     simp [zd9, AV.sc, AV.scV, AV.scA, AV.scB]
    unfold zcB at hbl
    cases h9 : (s[i] == 9) <;> cases h10 : (s[i] == 10) <;> cases h13 : (s[i] == 13) <;> cases h32 : (s[i] == 32) <;> simp [h9, h10, h13, h32] at hbl <;> simpa [zhO, hlt, e9, e10, e13, e32, h9, h10, h13, h32] using key
   | false =>
    have hbl' := hbl
    unfold zcB at hbl'
    simp only [Bool.or_eq_false_iff] at hbl'
    obtain ⟨⟨⟨h9, h10⟩, h13⟩, h32⟩ := hbl'
    have app : ∀ (k : Int) (n : Nat), tok (kwF kwds) s[i] (s.drop (i + 1)) = .ok (k, n) → (s[i] == 35) = false → ∀ t, (s.drop i).take n = t → zfU (.str s) (.sl (l.map Tk.cs ++ [[.int .i64 k, .str t, .int .i64 i]]) (.own H.length)) (.int .i64 i) (.int .i64 n) (H ++ [.perm za1 3 (l.length + 1)]) (Out H.length K) Kb := by
     intro k n ht hsh t hte
     subst hte
     rw [hdr, zrE _ hbl hsh ht, zpp, ← hdr] at ho
     have hn := zlP ht
     rw [← hdr] at hn
     simp at hn
     have hn0 := zlQ ht
     simp [zfU, zdD]
     rw [zaq (by omega) (by omega)]
     refine hKb _ _ ⟨s.length - (i + n), by omega, Back.here (by simp) (hperm _) ?_ ⟨_, _, rfl, i + n, l ++ [⟨k, (s.drop i).take n, i⟩], by omega, by simp; omega, rfl, by simp, by simp [Tk.cs], by simp, ?_⟩⟩
     ·simp [zd9, AV.sc, AV.scV, AV.scA, AV.scB]
     ·rw [List.drop_drop] at ho; exact ho
    have bad : ∀ e : Int, tok (kwF kwds) s[i] (s.drop (i + 1)) = .error e → (s[i] == 35) = false → Out H.length K (.tup [.snil, .int .i64 i, .int .i64 e]) (H ++ [.perm za1 3 l.length]) := by
     intro e ht hsh
     rw [hdr, zrB _ hbl hsh ht] at ho
     rw [← ho] at hK
     exact zqA hs hK
    simp [zhO, hlt, e9, e10, e13, e32, e35, h9, h10, h13, h32]
    cases hsh : (s[i] == 35) with
    | true =>
     simp
     rw [hdr, zrD _ hbl hsh] at ho
     obtain ⟨c1, c2⟩ := zhi h10 (s.drop (i + 1))
     rw [Nat.add_assoc, ← c1, ← c2, ← hdr] at ho
     refine zAG (Inv := fun q t6 H' => ∃ (j : Nat), i ≤ j ∧ j ≤ s.length ∧ q = s.length - j ∧ t6 = .int .i64 j ∧ H' = H ++ [.perm za1 3 l.length] ∧ cat l (za9 (kwF kwds) (zdb (s.drop j)) (j + zdc (s.drop j))) = za9 (kwF kwds) s 0) (s.length - i) ?_ ?_
     ·intro _; exact ⟨i, by omega, by omega, by omega, rfl, rfl, ho⟩
     ·rintro q t6 H' ⟨j, hij, hj, rfl, rfl, rfl, ho⟩ hsc hlen hsF Kb9 hKb9
      by_cases hjlt : j < s.length
      ·have hdrj := List.drop_eq_getElem_cons hjlt
       have e10 : ((s[j].toNat : Int) != 10) = !(s[j] == 10) := by rw [← zb6 s[j] 10]; rfl
       simp [zmi, hjlt, e10]
       cases hz : (s[j] == 10) with
       | true =>
        obtain ⟨d1, d2⟩ := zri hz (s.drop (j + 1))
        rw [hdrj, d1, d2, ← hdrj, Nat.add_zero] at ho
        have hij' : i ≠ j := by rintro rfl; rw [h10] at hz; cases hz
        simp [zdD]
        refine hKb _ _ ⟨s.length - j, by omega, Back.here (by simp) (hperm _) ?_ ⟨_, _, rfl, j, l, by omega, by omega, rfl, by simp, rfl, rfl, ho⟩⟩
        simp [zd9, AV.sc, AV.scV, AV.scA, AV.scB]
       | false =>
        obtain ⟨d1, d2⟩ := zhi hz (s.drop (j + 1))
        rw [hdrj, d1, d2, ← Nat.add_assoc] at ho
        simp
        rw [zaq (by omega) (by omega)]
        refine hKb9 _ _ ⟨s.length - (j + 1), by omega, Back.here (by simp) (hperm _) ?_ ⟨_, rfl, j + 1, by omega, by omega, rfl, by simp, rfl, ho⟩⟩
        simp [zhQ, AV.sc, AV.scV, AV.scA, AV.scB]
      ·obtain rfl : j = s.length := by omega
       simp [zmi, zdD]
       rw [List.drop_length, skipC_nil.1, skipC_nil.2, Nat.add_zero] at ho
       refine hKb _ _ ⟨0, by omega, Back.here (by simp) (hperm _) ?_ ⟨_, _, rfl, s.length, l, by omega, by omega, by omega, by simp, rfl, rfl, by rw [List.drop_length]; exact ho⟩⟩
       simp [zd9, AV.sc, AV.scV, AV.scA, AV.scB]
    | false =>
     replace app := fun k n h => app k n h hsh
     replace bad := fun e h => bad e h hsh
     simp
     refine zqd _ _ _ ?_
     by_cases hLU : (zbx s[i] || bUp s[i]) = true
     ·have hc : zbx s[i] = true ∨ (zbx s[i] = false ∧ bUp s[i] = true) := by cases hL : zbx s[i] <;> simp [hL] at hLU ⊢; exact hLU
      rcases hc with hL | ⟨hL, hU⟩
      case' inl => simp [hL]
      case' inr => simp [hL]; refine zhp _ _ _ ?_; simp [hU]
      all_goals exact zza s hl i hlt H l hll hperm K Kb hLU app bad
     ·have hL : zbx s[i] = false := by simp at hLU; exact hLU.1
      have hU : bUp s[i] = false := by simp at hLU; exact hLU.2
      simp [hL]
      refine zhp _ _ _ ?_
      simp [hU]
      refine zkp _ _ _ ?_
      cases hD : zaK s[i] with
      | true =>
       simp
       exact zxr s hl i hlt H l hll hperm K Kb hLU hD app bad
      | false =>
       simp
       refine ⟨by omega, ?_⟩
       have htk : tok (kwF kwds) s[i] (s.drop (i + 1)) = if sgn (s.drop i) = 0 then .error 2 else .ok (5, sgn (s.drop i)) := by
        simp only [tok, hLU, hD, hdr]
        rfl
       rw [hdr]
       refine zye _ _ _ _ ?_
       rw [← hdr]
       by_cases hz : sgn (s.drop i) = 0
       ·simp [hz, AV.isV]
        exact bad 2 (by rw [htk, if_pos hz])
       ·have hz' : ((sgn (s.drop i) : Int) == 0) = false := by simpa using hz
        have ht := htk
        rw [if_neg hz] at ht
        have hn := zlP ht
        rw [← hdr] at hn
        simp at hn
        have := app 5 (sgn (s.drop i)) ht _ rfl
        simp [hz']
        rw [zaq (by omega) (by omega)]
        simp [zav, zaO, zaB, zbj, zaz, AV.pd, zaA, zaV, zaN, zdF]
        refine ⟨by omega, by omega, by omega, ?_⟩
        rw [show ((i : Int) + (sgn (s.drop i) : Int)).toNat = i + sgn (s.drop i) by omega, zhm]
        exact this
  ·obtain rfl : i = s.length := by omega
   rw [List.drop_length, zlR] at ho
   rw [← ho] at hK
   simp [zhO, zav, zaO, zaB, zbj, zaz, AV.pd, zaA, zaV, zaN, AV.isV]
   refine ⟨by omega, ?_⟩
   simp [cat, Tk.cs] at hK
   exact Out.tup hs hK ⟨slV, zaQ rfl rfl, zaQ rfl rfl, trivial⟩
end Go.Proofs.YtjkkonpjecoieaaGreat
namespace Go.Proofs.YtjkkonpjecoieaaGreat
open Go Go.Abs
set_option maxRecDepth 100000
def zc0 : Nat → List Bool
 | 5 => rl false [0,1,2,3,115]
 | 12 => rl false [0,1,2,5,113]
 | 18 => rl false [0,1,2,5,85,3,25]
 | _ => []
noncomputable def znO : Code := Tryz.f39.body.getD .skip
noncomputable def zGl : List ResultVar := Tryz.f39.results.toList
def zi7 (t0 t3 t4 t5 : AV) : List AV := t0 :: ux 2 (t3 :: t4 :: t5 :: ux 115 [])
def zuJ : List Bool := zc0 5
noncomputable def znQ : Code := zar [1, 1, 1, 0, 1, 0, 0] znO
def zuE (K : Kt) : AExit → List AV → zaa → Prop := zas tP zc0 [1, 1, 1, 0, 1, 0] znO (zaw tP zGl K)
def zi9 (t0 t3 t4 t5 : AV) (H : zaa) (K : Kt) : Prop := ALoop tP znQ (zuE K) (zi7 t0 t3 t4 t5) H
def zi5 (t0 t3 t4 t5 t6 t7 : AV) : List AV := t0 :: ux 2 (t3 :: t4 :: t5 :: t6 :: t7 :: ux 113 [])
def zuI : List Bool := zc0 12
noncomputable def znP : Code := zar [1, 0, 0, 1, 1, 1, 1, 0, 0] znQ
def zuD (K : Kt) (Kb5 : Lt) : AExit → List AV → zaa → Prop := zas tP zc0 [1, 0, 0, 1, 1, 1, 1, 0] znQ (zbQ zuJ Kb5 (zuE K))
def zuG (t0 t3 t4 t5 t6 t7 : AV) (H : zaa) (K : Kt) (Kb5 : Lt) : Prop := ALoop tP znP (zuD K Kb5) (zi5 t0 t3 t4 t5 t6 t7) H
def zi6 (t0 t3 t4 t5 t6 t7 t93 t94 t95 : AV) : List AV := t0 :: ux 2 (t3 :: t4 :: t5 :: t6 :: t7 :: ux 85 (t93 :: t94 :: t95 :: ux 25 []))
def zGj : List Bool := zc0 18
noncomputable def zGf : Code := zar [1, 0, 0, 1, 1, 1, 0, 0] znP
def zGe (K : Kt) (Kb5 : Lt) (Kb12 : Lt) : AExit → List AV → zaa → Prop := zas tP zc0 [1, 0, 0, 1, 1, 1, 0] znP (zbQ zuI Kb12 (zuD K Kb5))
def zuH (t0 t3 t4 t5 t6 t7 t93 t94 t95 : AV) (H : zaa) (K : Kt) (Kb5 : Lt) (Kb12 : Lt) : Prop := ALoop tP zGf (zGe K Kb5 Kb12) (zi6 t0 t3 t4 t5 t6 t7 t93 t94 t95) H
def zuF (t0 t3 t4 t5 t6 t7 t93 t94 t95 : AV) (H : zaa) (K : Kt) (Kb5 : Lt) (Kb12 : Lt) (Kb18 : Lt) : Prop :=
 zac .add false t95 (.int .i64 1) fun t112 =>
 Kb18 (zi6 t0 t3 t4 t5 t6 t7 t93 t94 t112) H
def zi8 (t0 t3 t4 t5 t6 t7 t93 t94 t95 : AV) (H : zaa) (K : Kt) (Kb5 : Lt) (Kb12 : Lt) (Kb18 : Lt) : Prop :=
 zuF t0 t3 t4 t5 t6 t7 t93 t94 t95 H K Kb5 Kb12 Kb18
def znN (t0 t3 t4 t5 t6 t7 t93 t94 t95 : AV) (H : zaa) (K : Kt) (Kb5 : Lt) (Kb12 : Lt) (Kb18 : Lt) : Prop :=
 zac .lss false t95 t94 fun t96 =>
 zag t96
 (zaj 3 t93 t95 fun t97 =>
 zad true 3 t97 H fun t98 =>
 zau [(.int .i64 0), (.int .i64 0), .snil] H fun t9 H =>
 zak 3 t9 t98 H fun H =>
 zad true 3 t9 H fun t99 =>
 zaf 1 t6 fun t101 =>
 zad false 1 t101 H fun t102 =>
 ACalls tP zg4 [t99, t5, t102] H fun t103 H =>
 zag t103
 (zi8 t0 t3 t4 t5 t6 t7 t93 t94 t95 H K Kb5 Kb12 Kb18)
 (zae H (fun K' => K' t0 H) fun t104 =>
 zae H (fun K' => K' t5 H) fun t105 =>
 zae H (fun K' => zaL 1 3 t104 none (some t105) (K' · H)) fun t106 =>
 zae H (fun K' => zan true 3 t9 H (K' · H)) fun t107 =>
 zae H (fun K' => zaf 1 t6 (K' · H)) fun t108 =>
 zae H (fun K' => zan false 1 t108 H (K' · H)) fun t109 =>
 za6 H (fun H K' => ACalls tP zfz [t106, t107, t109] H K') fun t110 =>
 zae H (fun K' => aUn .not t110 (K' · H)) fun t111 =>
 zag t111
 (K (.bool false) H)
 (zi8 t0 t3 t4 t5 t6 t7 t93 t94 t95 H K Kb5 Kb12 Kb18)))
 (zac .add false t7 (.int .i64 1) fun t60 =>
 Kb12 (zi5 t0 t3 t4 t5 t6 t60) H)
def znM (t0 t3 t4 t5 t6 t7 : AV) (H : zaa) (K : Kt) (Kb5 : Lt) (Kb12 : Lt) : Prop :=
 zaf 2 t6 fun t55 =>
 zad false 1 t55 H fun t56 =>
 zah 1 t56 fun t57 =>
 zac .lss false t7 t57 fun t58 =>
 zag t58
 (zaf 2 t6 fun t61 =>
 zad false 1 t61 H fun t62 =>
 zaj 2 t62 t7 fun t64 =>
 zaf 0 t64 fun t65 =>
 zad false 1 t65 H fun t66 =>
 ACalls tP zg3 [t66] H fun t67 H =>
 aUn .not t67 fun t68 =>
 zab t68 false H (fun K' => zaf 2 t6 (K' · H)) fun t70 H =>
 zab t68 false H (fun K' => zad false 1 t70 H (K' · H)) fun t71 H =>
 zab t68 false H (fun K' => K' t7 H) fun t72 H =>
 zab t68 false H (fun K' => zaj 2 t71 t72 (K' · H)) fun t73 H =>
 zab t68 false H (fun K' => zaf 1 t73 (K' · H)) fun t74 H =>
 zab t68 false H (fun K' => zad false 1 t74 H (K' · H)) fun t75 H =>
 zab t68 false H (fun K' => zah 1 t75 (K' · H)) fun t76 H =>
 zab t68 false H (fun K' => zac .gtr false t76 (.int .i64 6) (K' · H)) fun t77 H =>
 zai t68 (.bool true) t77 fun t78 =>
 zag t78
 (K (.bool false) H)
 (zaf 2 t6 fun t80 =>
 zad false 1 t80 H fun t81 =>
 zaj 2 t81 t7 fun t83 =>
 zaf 0 t83 fun t84 =>
 zad false 1 t84 H fun t85 =>
 zaB 1 [(.str [])] 1 [(0, t85)] fun t86 =>
 zaA zbA 1 16 t4 t86 H fun t87 H =>
 zaf 2 t6 fun t88 =>
 zad false 1 t88 H fun t89 =>
 zaj 2 t89 t7 fun t91 =>
 zaf 1 t91 fun t92 =>
 zad false 1 t92 H fun t93 =>
 zah 1 t93 fun t94 =>
 zuH t0 t3 t87 t5 t6 t7 t93 t94 (.int .i64 0) H K Kb5 Kb12))
 (zac .add false t5 (.int .i64 1) fun t18 =>
 Kb5 (zi7 t0 t3 t4 t18) H)
def zef (t0 t3 t4 t5 : AV) (H : zaa) (K : Kt) (Kb5 : Lt) : Prop :=
 zah 1 t0 fun t15 =>
 zac .lss false t5 t15 fun t16 =>
 zag t16
 (zaj 3 t0 t5 fun t21 =>
 zad true 3 t21 H fun t22 =>
 zau [(.str []), (.int .i64 0), .snil] H fun t6 H =>
 zak 3 t6 t22 H fun H =>
 zaf 1 t6 fun t23 =>
 zad false 1 t23 H fun t24 =>
 zac .lss false t24 (.int .i64 0) fun t25 =>
 zab t25 false H (fun K' => zaf 1 t6 (K' · H)) fun t27 H =>
 zab t25 false H (fun K' => zad false 1 t27 H (K' · H)) fun t28 H =>
 zab t25 false H (fun K' => zac .gtr false t28 (.int .i64 6) (K' · H)) fun t29 H =>
 zai t25 (.bool true) t29 fun t30 =>
 zab t30 false H (fun K' => zaf 2 t6 (K' · H)) fun t32 H =>
 zab t30 false H (fun K' => zad false 1 t32 H (K' · H)) fun t33 H =>
 zab t30 false H (fun K' => zah 1 t33 (K' · H)) fun t34 H =>
 zab t30 false H (fun K' => zac .lss false t34 (.int .i64 1) (K' · H)) fun t35 H =>
 zai t30 (.bool true) t35 fun t36 =>
 zab t36 false H (fun K' => zaf 2 t6 (K' · H)) fun t38 H =>
 zab t36 false H (fun K' => zad false 1 t38 H (K' · H)) fun t39 H =>
 zab t36 false H (fun K' => zah 1 t39 (K' · H)) fun t40 H =>
 zab t36 false H (fun K' => zac .gtr false t40 (.int .i64 8) (K' · H)) fun t41 H =>
 zai t36 (.bool true) t41 fun t42 =>
 zab t42 false H (fun K' => zaf 0 t6 (K' · H)) fun t44 H =>
 zab t42 false H (fun K' => zad false 1 t44 H (K' · H)) fun t45 H =>
 zab t42 false H (fun K' => ACalls tP zg3 [t45] H K') fun t46 H =>
 zab t42 false H (fun K' => aUn .not t46 (K' · H)) fun t47 H =>
 zai t42 (.bool true) t47 fun t48 =>
 zag t48
 (K (.bool false) H)
 (zaf 0 t6 fun t50 =>
 zad false 1 t50 H fun t51 =>
 zaB 1 [(.str [])] 1 [(0, t51)] fun t52 =>
 zaA zbA 1 16 t3 t52 H fun t53 H =>
 zuG t0 t53 t4 t5 t6 (.int .i64 0) H K Kb5))
 (ACalls tP zfG [t3] H fun t114 H =>
 aUn .not t114 fun t115 =>
 zab t115 true H (fun K' => K' t4 H) fun t117 H =>
 zab t115 true H (fun K' => ACalls tP zfG [t117] H K') fun t118 H =>
 zab t115 true H (fun K' => aUn .not t118 (K' · H)) fun t119 H =>
 zai t115 t119 (.bool false) fun t120 =>
 K t120 H)
def znL (t0 : AV) (H : zaa) (K : Kt) : Prop :=
 zah 1 t0 fun t11 =>
 zac .gtr false t11 (.int .i64 12) fun t12 =>
 zag t12
 (K (.bool false) H)
 (zi9 t0 .snil .snil (.int .i64 0) H K)
theorem zGh {t0 t3 t4 t5 t6 t7 t93 t94 t95 : AV} {H : zaa} {K : Kt} {Kb5 : Lt} {Kb12 : Lt} (Inv : Nat → AV → zaa → Prop) (n : Nat) (h0 : HSc H → Inv n t95 H)
  (round : Rd1 (fun t95 => zi6 t0 t3 t4 t5 t6 t7 t93 t94 t95) (fun t95 => fun H Kb18 => znN t0 t3 t4 t5 t6 t7 t93 t94 t95 H K Kb5 Kb12 Kb18) H Inv) : zuH t0 t3 t4 t5 t6 t7 t93 t94 t95 H K Kb5 Kb12 :=
 lp1 (M := zc0) zGj t95 (by kernel_rfl) Inv n h0 round
theorem zGg {t0 t3 t4 t5 t6 t7 : AV} {H : zaa} {K : Kt} {Kb5 : Lt} (Inv : Nat → AV → AV → zaa → Prop) (n : Nat) (h0 : HSc H → Inv n t4 t7 H)
  (round : Rd2 (fun t4 => fun t7 => zi5 t0 t3 t4 t5 t6 t7) (fun t4 => fun t7 => fun H Kb12 => znM t0 t3 t4 t5 t6 t7 H K Kb5 Kb12) H Inv) : zuG t0 t3 t4 t5 t6 t7 H K Kb5 :=
 lp2 (M := zc0) zuI t4 t7 (by kernel_rfl) Inv n h0 round
theorem zGi {t0 t3 t4 t5 : AV} {H : zaa} {K : Kt} (Inv : Nat → AV → AV → AV → zaa → Prop) (n : Nat) (h0 : HSc H → Inv n t3 t4 t5 H)
  (round : Rd3 (fun t3 => fun t4 => fun t5 => zi7 t0 t3 t4 t5) (fun t3 => fun t4 => fun t5 => fun H Kb5 => zef t0 t3 t4 t5 H K Kb5) H Inv) : zi9 t0 t3 t4 t5 H K :=
 lp3 (M := zc0) zuJ t3 t4 t5 (by kernel_rfl) Inv n h0 round
theorem zGk {t0 : AV} {H : zaa} {K : Kt} (h : HSc H → znL t0 H K) : ACalls tP zgV [t0] H K :=
 zam (M := zc0) Tryz.func39 (c := znO) (by kernel_rfl) (fun hs => Eq.mpr (by kernel_rfl) (h hs))
def zei : Nat → List Bool
 | 2 => rl false [0,1,2,1,21]
 | 5 => rl false [0,1,2,2,20]
 | _ => []
noncomputable def zoB : Code := Tryz.f84.body.getD .skip
noncomputable def zI0 : List ResultVar := Tryz.f84.results.toList
def zjP (t0 t3 : AV) : List AV := t0 :: ux 2 (t3 :: ux 21 [])
def zvA : List Bool := zei 2
noncomputable def zoC : Code := zar [1, 0, 1, 0, 0] zoB
def zvx (K : Kt) : AExit → List AV → zaa → Prop := zas tP zei [1, 0, 1, 0] zoB (zaw tP zI0 K)
def zvy (t0 t3 : AV) (H : zaa) (K : Kt) : Prop := ALoop tP zoC (zvx K) (zjP t0 t3) H
def zjQ (t0 t3 t4 : AV) : List AV := t0 :: ux 2 (t3 :: t4 :: ux 20 [])
def zIY : List Bool := zei 5
noncomputable def zIV : Code := zar [1, 0, 0, 1, 0, 0] zoC
def zIU (K : Kt) (Kb2 : Lt) : AExit → List AV → zaa → Prop := zas tP zei [1, 0, 0, 1, 0] zoC (zbQ zvA Kb2 (zvx K))
def zvz (t0 t3 t4 : AV) (H : zaa) (K : Kt) (Kb2 : Lt) : Prop := ALoop tP zIV (zIU K Kb2) (zjQ t0 t3 t4) H
def zoA (t0 t3 t4 : AV) (H : zaa) (K : Kt) (Kb2 : Lt) (Kb5 : Lt) : Prop :=
 zac .lss false t4 t3 fun t13 =>
 zag t13
 (zae H (fun K' => K' t0 H) fun t16 =>
 zae H (fun K' => K' t3 H) fun t17 =>
 zae H (fun K' => zaj 1 t16 t17 (K' · H)) fun t18 =>
 zae H (fun K' => zan false 1 t18 H (K' · H)) fun t19 =>
 zae H (fun K' => K' t0 H) fun t20 =>
 zae H (fun K' => K' t4 H) fun t21 =>
 zae H (fun K' => zaj 1 t20 t21 (K' · H)) fun t22 =>
 zae H (fun K' => zan false 1 t22 H (K' · H)) fun t23 =>
 zae H (fun K' => zac .eql false t19 t23 (K' · H)) fun t24 =>
 zag t24
 (K (.bool true) H)
 (zac .add false t4 (.int .i64 1) fun t15 =>
 Kb5 (zjQ t0 t3 t15) H))
 (zac .add false t3 (.int .i64 1) fun t10 =>
 Kb2 (zjP t0 t10) H)
def zoz (t0 t3 : AV) (H : zaa) (K : Kt) (Kb2 : Lt) : Prop :=
 zah 1 t0 fun t7 =>
 zac .lss false t3 t7 fun t8 =>
 zag t8
 (zvz t0 t3 (.int .i64 0) H K Kb2)
 (K (.bool false) H)
def zvw (t0 : AV) (H : zaa) (K : Kt) : Prop :=
 zvy t0 (.int .i64 0) H K
theorem zIX {t0 t3 t4 : AV} {H : zaa} {K : Kt} {Kb2 : Lt} (Inv : Nat → AV → zaa → Prop) (n : Nat) (h0 : HSc H → Inv n t4 H)
  (round : Rd1 (fun t4 => zjQ t0 t3 t4) (fun t4 => fun H Kb5 => zoA t0 t3 t4 H K Kb2 Kb5) H Inv) : zvz t0 t3 t4 H K Kb2 :=
 lp1 (M := zei) zIY t4 (by kernel_rfl) Inv n h0 round
theorem zIW {t0 t3 : AV} {H : zaa} {K : Kt} (Inv : Nat → AV → zaa → Prop) (n : Nat) (h0 : HSc H → Inv n t3 H)
  (round : Rd1 (fun t3 => zjP t0 t3) (fun t3 => fun H Kb2 => zoz t0 t3 H K Kb2) H Inv) : zvy t0 t3 H K :=
 lp1 (M := zei) zvA t3 (by kernel_rfl) Inv n h0 round
theorem zIZ {t0 : AV} {H : zaa} {K : Kt} (h : HSc H → zvw t0 H K) : ACalls tP zfG [t0] H K :=
 zam (M := zei) Tryz.func84 (c := zoB) (by kernel_rfl) (fun hs => Eq.mpr (by kernel_rfl) (h hs))
end Go.Proofs.YtjkkonpjecoieaaGreat

namespace Go.Proofs.YtjkkonpjecoieaaGreat
open Go Go.Abs
set_option maxRecDepth 8000
theorem zcx {k : AV → Prop} (a b : AV) (vs : List AV) : zax (.tup (a :: b :: vs)) 1 k = k b := propext Iff.rfl
theorem zcy {k : AV → Prop} (a b c : AV) (vs : List AV) : zax (.tup (a :: b :: c :: vs)) 2 k = k c := propext Iff.rfl
def zd4 (s : List UInt8) : List Tk × Int × Int :=
 if s.length > 16384 then ([], 0, 9) else
 match za9 (kwF kwds) s 0 with
 | .error (p, e) => ([], p, e)
 | .ok l => (l, 0, 0)
theorem zrm (s : List UInt8) : zdB s = .tup [.sl ((zd4 s).1.map Tk.cs) .none, .int .i64 (zd4 s).2.1, .int .i64 (zd4 s).2.2] := by
 unfold zdB zd4
 split
 ·rfl
 ·split <;> (rename_i h; simp [h])
def zbE (s : List UInt8) (x : List Tk × Int × Int) : Bool := x.2.2 == 0 && match x.1 with
 | [a, _] => a.kind == 2 && a.text == s
 | _ => false
def zcp (s : List UInt8) : Bool := zbE s (zd4 s)
theorem ztS (s : List UInt8) (H : zaa) (K : AV → zaa → Prop) (hK : K (.bool (zcp s)) H) : ACalls tP zgL [.str s] H K := by
 refine ACalls.out (zDW fun hs => ?_)
 have hO : Out H.length K (.bool (zcp s)) H := Out.bool (J := []) (by simp) (Nat.le_refl _) hs hK
 simp only [ztR]
 refine zyO s _ _ ?_
 rw [zrm]
 rw [zcp] at hO
 generalize zd4 s = x at hO ⊢
 obtain ⟨l, p, e⟩ := x
 clear hK
 cases h0 : e == 0 with
 | false =>
  rw [show zbE s (l, p, e) = false by simp [zbE, h0]] at hO
  simp [zcx, zcy, h0]; exact hO
 | true =>
 match l with
 | [] =>
  rw [show zbE s ([], p, e) = false by simp [zbE]] at hO
  simp [zcx, zcy, h0]; exact hO
 | [x] =>
  rw [show zbE s ([x], p, e) = false by simp [zbE]] at hO
  simp [zcx, zcy, h0]; exact hO
 | [a, x] =>
  rw [show zbE s ([a, x], p, e) = (a.kind == 2 && a.text == s) by simp [zbE, h0]] at hO
  cases hk : a.kind == 2 with
  | false => rw [hk] at hO; simp [zcx, zcy, h0, Tk.cs, hk]; exact hO
  | true => rw [hk] at hO; simp [zcx, zcy, h0, Tk.cs, hk]; exact hO
 | a :: b :: c :: r =>
  rw [show zbE s (a :: b :: c :: r, p, e) = false by simp [zbE]] at hO
  have : ¬ ((r.length : Int) + 1 + 1 + 1 = 2) := by omega
  have h2 : ((r.length : Int) + 1 + 1 + 1 == 2) = false := by simpa using this
  simp [zcx, zcy, h0, h2]; exact hO
theorem zvt (s : List UInt8) (H : zaa) (K : AV → zaa → Prop) (hK : K (.bool (zcp s)) H) : ACalls tP zg3 [.str s] H K := by
 refine ACalls.out (zIN fun hs => ?_)
 have hO : Out H.length K (.bool (zcp s)) H := Out.bool (J := []) (by simp) (Nat.le_refl _) hs hK
 simp only [zvs]
 refine zyP s _ _ ?_
 rw [zrm]
 rw [zcp] at hO
 generalize zd4 s = x at hO ⊢
 obtain ⟨l, p, e⟩ := x
 clear hK
 cases h0 : e == 0 with
 | false =>
  rw [show zbE s (l, p, e) = false by simp [zbE, h0]] at hO
  simp [zcx, zcy, h0]; exact hO
 | true =>
 match l with
 | [] =>
  rw [show zbE s ([], p, e) = false by simp [zbE]] at hO
  simp [zcx, zcy, h0]; exact hO
 | [x] =>
  rw [show zbE s ([x], p, e) = false by simp [zbE]] at hO
  simp [zcx, zcy, h0]; exact hO
 | [a, x] =>
  rw [show zbE s ([a, x], p, e) = (a.kind == 2 && a.text == s) by simp [zbE, h0]] at hO
  cases hk : a.kind == 2 with
  | false => rw [hk] at hO; simp [zcx, zcy, h0, Tk.cs, hk]; exact hO
  | true => rw [hk] at hO; simp [zcx, zcy, h0, Tk.cs, hk]; exact hO
 | a :: b :: c :: r =>
  rw [show zbE s (a :: b :: c :: r, p, e) = false by simp [zbE]] at hO
  have : ¬ ((r.length : Int) + 1 + 1 + 1 = 2) := by omega
  have h2 : ((r.length : Int) + 1 + 1 + 1 == 2) = false := by simpa using this
  simp [zcx, zcy, h0, h2]; exact hO
def zbX (l : List (List UInt8)) : Bool := !decide l.Nodup
def strs (l : List (List UInt8)) : List (List AV) := l.map fun s => [.str s]
@[simp] theorem zM9 (l : List (List UInt8)) : (strs l).length = l.length := by simp [strs]
theorem zyT {l : List (List UInt8)} {i : Nat} (h : i < (strs l).length) : (strs l)[i] = [.str (l[i]'(by simpa using h))] := by simp [strs]
theorem zxW {l : List (List UInt8)} {i j : Nat} (hi : i < l.length) (hj : j < i) (h : l[i] = l[j]) : zbX l = true := by
 simp only [zbX, Bool.not_eq_true', decide_eq_false_iff_not]
 intro hn
 exact (List.pairwise_iff_getElem.mp hn) j i (by omega) hi hj h.symm
theorem zI1 (l : List (List UInt8)) (hl : l.length ≤ 1000000) (H : zaa) (K : AV → zaa → Prop) (hK : K (.bool (zbX l)) H) : ACalls tP zfG [.sl (strs l) .none] H K := by
 refine ACalls.out (zIZ fun hs => ?_)
 have hO : Out H.length K (.bool (zbX l)) H := Out.bool (J := []) (by simp) (Nat.le_refl _) hs hK
 simp [zvw]
 refine zIW (Inv := fun q t3 H' => ∃ i : Nat, i ≤ l.length ∧ q = l.length - i ∧ t3 = .int .i64 i ∧ (∀ a b (ha : a < i) (hb : b < a) (h' : a < l.length), l[a] ≠ l[b]) ∧ H = H') l.length ?_ ?_
 ·intro _; exact ⟨0, by omega, by omega, rfl, by omega, rfl⟩
 ·rintro q t3 H' ⟨i, hi, rfl, rfl, hne, rfl⟩ hsc hlen hsF Kb hKb
  by_cases hlt : i < l.length
  ·simp [zoz, hlt]
   refine zIX (Inv := fun q t4 H' => ∃ j : Nat, j ≤ i ∧ q = i - j ∧ t4 = .int .i64 j ∧ (∀ b (hb : b < j) (hb' : b < l.length), l[i] ≠ l[b]) ∧ H = H') i ?_ ?_
   ·intro _; exact ⟨0, by omega, by omega, rfl, by omega, rfl⟩
   ·rintro q t4 H' ⟨j, hj, rfl, rfl, hnj, rfl⟩ hsc1 hlen1 hsF1 Kb1 hKb1
    by_cases hjl : j < i
    ·simp [zoA, hjl, hlt, show j < l.length by omega, zyT]
     cases he : l[i] == l[j] with
     | true =>
      rw [zxW hlt hjl (by simpa using he)] at hO
      simpa using hO
     | false =>
      simp
      rw [zaq (by omega) (by omega)]
      refine hKb1 _ _ ⟨i - (j + 1), by omega, Back.at (J := []) (H2 := H) (by simp) (Nat.le_refl _) hs ?_ ⟨_, rfl, j + 1, by omega, rfl, by simp, ?_, rfl⟩⟩
      ·simp [zjQ, AV.sc, AV.scV, AV.scA, AV.scB]
      ·intro b hb hb'
       by_cases hbj : b = j
       ·subst hbj; simpa using he
       ·exact hnj b (by omega) hb'
    ·obtain rfl : j = i := by omega
     simp [zoA]
     rw [zaq (by omega) (by omega)]
     refine hKb _ _ ⟨l.length - (j + 1), by omega, Back.at (J := []) (H2 := H) (by simp) (Nat.le_refl _) hs ?_ ⟨_, rfl, j + 1, by omega, rfl, by simp, ?_, rfl⟩⟩
     ·simp [zjP, AV.sc, AV.scV, AV.scA, AV.scB]
     ·intro a b ha hb h'
      by_cases haj : a = j
      ·subst haj; exact hnj b hb (by omega)
      ·exact hne a b (by omega) hb h'
  ·obtain rfl : i = l.length := by omega
   have : zbX l = false := by
    simp only [zbX, Bool.not_eq_false', decide_eq_true_eq]
    refine List.pairwise_iff_getElem.mpr fun a b ha hb hab he => ?_
    exact hne b a hb hab hb he.symm
   rw [this] at hO
   simp [zoz]
   exact hO
def zea : Nat → List Bool
 | 5 => rl false [0,1,2,2,9,2,89]
 | 13 => rl false [0,1,2,3,8,2,60,3,26]
 | _ => []
noncomputable def zmB : Code := Tryz.f158.body.getD .skip
noncomputable def zBD : List ResultVar := Tryz.f158.results.toList
def zic (t0 t3 t4 t14 t15 : AV) : List AV := t0 :: ux 2 (t3 :: t4 :: ux 9 (t14 :: t15 :: ux 89 []))
def zsR : List Bool := zea 5
noncomputable def zmC : Code := zar [1, 1, 1, 0, 1, 0, 0] zmB
def zsO (K : Kt) : AExit → List AV → zaa → Prop := zas tP zea [1, 1, 1, 0, 1, 0] zmB (zaw tP zBD K)
def zsQ (t0 t3 t4 t14 t15 : AV) (H : zaa) (K : Kt) : Prop := ALoop tP zmC (zsO K) (zic t0 t3 t4 t14 t15) H
def zib (t0 t3 t4 t5 t14 t15 t76 t77 t78 : AV) : List AV := t0 :: ux 2 (t3 :: t4 :: t5 :: ux 8 (t14 :: t15 :: ux 60 (t76 :: t77 :: t78 :: ux 26 [])))
def zBB : List Bool := zea 13
noncomputable def zBy : Code := zar [1, 1, 0, 0, 1, 1, 1, 1, 1, 0, 0] zmC
def zBx (K : Kt) (Kb5 : Lt) : AExit → List AV → zaa → Prop := zas tP zea [1, 1, 0, 0, 1, 1, 1, 1, 1, 0] zmC (zbQ zsR Kb5 (zsO K))
def zsP (t0 t3 t4 t5 t14 t15 t76 t77 t78 : AV) (H : zaa) (K : Kt) (Kb5 : Lt) : Prop := ALoop tP zBy (zBx K Kb5) (zib t0 t3 t4 t5 t14 t15 t76 t77 t78) H
def zmz (t0 t3 t4 t5 t14 t15 t76 t77 t78 : AV) (H : zaa) (K : Kt) (Kb5 : Lt) (Kb13 : Lt) : Prop :=
 zac .lss false t78 t77 fun t79 =>
 zag t79
 (zaj 2 t76 t78 fun t81 =>
 zad true 2 t81 H fun t82 =>
 zau [(.str []), .snil] H fun t7 H =>
 zak 2 t7 t82 H fun H =>
 zaf 0 t7 fun t83 =>
 zad false 1 t83 H fun t84 =>
 ACalls tP zgL [t84] H fun t85 H =>
 aUn .not t85 fun t86 =>
 zab t86 false H (fun K' => K' t4 H) fun t88 H =>
 zab t86 false H (fun K' => zaf 0 t7 (K' · H)) fun t89 H =>
 zab t86 false H (fun K' => zad false 1 t89 H (K' · H)) fun t90 H =>
 zab t86 false H (fun K' => zcU (.bool false) false t88 t90 H (K' · H)) fun t91 H =>
 zai t86 (.bool true) t91 fun t92 =>
 zab t92 false H (fun K' => K' t0 H) fun t94 H =>
 zab t92 false H (fun K' => K' t5 H) fun t95 H =>
 zab t92 false H (fun K' => K' t78 H) fun t96 H =>
 zab t92 false H (fun K' => ACalls tP zk8 [t94, t95, t96] H K') fun t97 H =>
 zab t92 false H (fun K' => aUn .not t97 (K' · H)) fun t98 H =>
 zai t92 (.bool true) t98 fun t99 =>
 zag t99
 (K (.bool false) H)
 (zaf 0 t7 fun t101 =>
 zad false 1 t101 H fun t102 =>
 zcq t4 t102 (.bool true) H fun H =>
 zac .add false t78 (.int .i64 1) fun t103 =>
 Kb13 (zib t0 t3 t4 t5 t14 t15 t76 t77 t103) H))
 (zac .add false t15 (.int .i64 1) fun t104 =>
 Kb5 (zic t0 t3 t4 t14 t104) H)
def zmA (t0 t3 t4 t14 t15 : AV) (H : zaa) (K : Kt) (Kb5 : Lt) : Prop :=
 zac .lss false t15 t14 fun t16 =>
 zag t16
 (zaj 3 t0 t15 fun t20 =>
 zaf 0 t20 fun t21 =>
 zad false 1 t21 H fun t22 =>
 ACalls tP zgL [t22] H fun t23 H =>
 aUn .not t23 fun t24 =>
 zab t24 false H (fun K' => K' t3 H) fun t26 H =>
 zab t24 false H (fun K' => K' t0 H) fun t27 H =>
 zab t24 false H (fun K' => K' t15 H) fun t28 H =>
 zab t24 false H (fun K' => zaj 3 t27 t28 (K' · H)) fun t29 H =>
 zab t24 false H (fun K' => zaf 0 t29 (K' · H)) fun t30 H =>
 zab t24 false H (fun K' => zad false 1 t30 H (K' · H)) fun t31 H =>
 zab t24 false H (fun K' => zcU (.bool false) false t26 t31 H (K' · H)) fun t32 H =>
 zai t24 (.bool true) t32 fun t33 =>
 zab t33 false H (fun K' => K' t0 H) fun t35 H =>
 zab t33 false H (fun K' => K' t15 H) fun t36 H =>
 zab t33 false H (fun K' => zaj 3 t35 t36 (K' · H)) fun t37 H =>
 zab t33 false H (fun K' => zaf 1 t37 (K' · H)) fun t38 H =>
 zab t33 false H (fun K' => zad false 1 t38 H (K' · H)) fun t39 H =>
 zab t33 false H (fun K' => zac .lss false t39 (.int .i64 0) (K' · H)) fun t40 H =>
 zai t33 (.bool true) t40 fun t41 =>
 zab t41 false H (fun K' => K' t0 H) fun t43 H =>
 zab t41 false H (fun K' => K' t15 H) fun t44 H =>
 zab t41 false H (fun K' => zaj 3 t43 t44 (K' · H)) fun t45 H =>
 zab t41 false H (fun K' => zaf 1 t45 (K' · H)) fun t46 H =>
 zab t41 false H (fun K' => zad false 1 t46 H (K' · H)) fun t47 H =>
 zab t41 false H (fun K' => zac .gtr false t47 (.int .i64 6) (K' · H)) fun t48 H =>
 zai t41 (.bool true) t48 fun t49 =>
 zag t49
 (K (.bool false) H)
 (zaj 3 t0 t15 fun t53 =>
 zaf 0 t53 fun t54 =>
 zad false 1 t54 H fun t55 =>
 zcq t3 t55 (.bool true) H fun H =>
 zaj 3 t0 t15 fun t58 =>
 zaf 2 t58 fun t59 =>
 zad false 1 t59 H fun t60 =>
 zah 1 t60 fun t61 =>
 zac .lss false t61 (.int .i64 1) fun t62 =>
 zab t62 false H (fun K' => K' t0 H) fun t64 H =>
 zab t62 false H (fun K' => K' t15 H) fun t65 H =>
 zab t62 false H (fun K' => zaj 3 t64 t65 (K' · H)) fun t66 H =>
 zab t62 false H (fun K' => zaf 2 t66 (K' · H)) fun t67 H =>
 zab t62 false H (fun K' => zad false 1 t67 H (K' · H)) fun t68 H =>
 zab t62 false H (fun K' => zah 1 t68 (K' · H)) fun t69 H =>
 zab t62 false H (fun K' => zac .gtr false t69 (.int .i64 8) (K' · H)) fun t70 H =>
 zai t62 (.bool true) t70 fun t71 =>
 zag t71
 (K (.bool false) H)
 (zaj 3 t0 t15 fun t74 =>
 zaf 2 t74 fun t75 =>
 zad false 1 t75 H fun t76 =>
 zah 1 t76 fun t77 =>
 zsP t0 t3 t4 t15 t14 t15 t76 t77 (.int .i64 0) H K Kb5)))
 (K (.bool true) H)
def zmy (t0 : AV) (H : zaa) (K : Kt) : Prop :=
 zah 1 t0 fun t9 =>
 zac .gtr false t9 (.int .i64 12) fun t10 =>
 zag t10
 (K (.bool false) H)
 (zdl H fun t11 H =>
 zdl H fun t12 H =>
 zah 1 t0 fun t14 =>
 zsQ t0 t11 t12 t14 (.int .i64 0) H K)
theorem zBz {t0 t3 t4 t5 t14 t15 t76 t77 t78 : AV} {H : zaa} {K : Kt} {Kb5 : Lt} (Inv : Nat → AV → zaa → Prop) (n : Nat) (h0 : HSc H → Inv n t78 H)
  (round : Rd1 (fun t78 => zib t0 t3 t4 t5 t14 t15 t76 t77 t78) (fun t78 => fun H Kb13 => zmz t0 t3 t4 t5 t14 t15 t76 t77 t78 H K Kb5 Kb13) H Inv) : zsP t0 t3 t4 t5 t14 t15 t76 t77 t78 H K Kb5 :=
 lp1 (M := zea) zBB t78 (by kernel_rfl) Inv n h0 round
theorem zBA {t0 t3 t4 t14 t15 : AV} {H : zaa} {K : Kt} (Inv : Nat → AV → zaa → Prop) (n : Nat) (h0 : HSc H → Inv n t15 H)
  (round : Rd1 (fun t15 => zic t0 t3 t4 t14 t15) (fun t15 => fun H Kb5 => zmA t0 t3 t4 t14 t15 H K Kb5) H Inv) : zsQ t0 t3 t4 t14 t15 H K :=
 lp1 (M := zea) zsR t15 (by kernel_rfl) Inv n h0 round
theorem zBC {t0 : AV} {H : zaa} {K : Kt} (h : HSc H → zmy t0 H K) : ACalls tP zkS [t0] H K :=
 zam (M := zea) Tryz.func158 (c := zmB) (by kernel_rfl) (fun hs => Eq.mpr (by kernel_rfl) (h hs))
def ziI : Nat → List Bool
 | 6 => rl false [0,2,6,1,18,3,29]
 | _ => []
noncomputable def znh : Code := Tryz.f190.body.getD .skip
noncomputable def zD2 : List ResultVar := Tryz.f190.results.toList
def zfY (t0 t1 t8 t27 t28 t29 : AV) : List AV := t0 :: t1 :: ux 6 (t8 :: ux 18 (t27 :: t28 :: t29 :: ux 29 []))
def zD0 : List Bool := ziI 6
noncomputable def zDY : Code := zar [1, 1, 1, 1, 0, 1, 0, 0] znh
def zDX (K : Kt) : AExit → List AV → zaa → Prop := zas tP ziI [1, 1, 1, 1, 0, 1, 0] znh (zaw tP zD2 K)
def ztU (t0 t1 t8 t27 t28 t29 : AV) (H : zaa) (K : Kt) : Prop := ALoop tP zDY (zDX K) (zfY t0 t1 t8 t27 t28 t29) H
def zng (t0 t1 t8 t27 t28 t29 : AV) (H : zaa) (K : Kt) (Kb6 : Lt) : Prop :=
 zac .lss false t29 t28 fun t30 =>
 zag t30
 (zaj 3 t27 t29 fun t32 =>
 zad true 3 t32 H fun t33 =>
 zau [(.int .i64 0), (.int .i64 0), .snil] H fun t10 H =>
 zak 3 t10 t33 H fun H =>
 zae H (fun K' => K' t0 H) fun t34 =>
 zae H (fun K' => K' t1 H) fun t35 =>
 zae H (fun K' => zac .add false t35 (.int .i64 1) (K' · H)) fun t36 =>
 zae H (fun K' => zaL 1 3 t34 none (some t36) (K' · H)) fun t37 =>
 zae H (fun K' => zan true 3 t10 H (K' · H)) fun t38 =>
 zae H (fun K' => K' t0 H) fun t39 =>
 zae H (fun K' => K' t1 H) fun t40 =>
 zae H (fun K' => zaj 3 t39 t40 (K' · H)) fun t41 =>
 zae H (fun K' => zaf 1 t41 (K' · H)) fun t42 =>
 zae H (fun K' => zan false 1 t42 H (K' · H)) fun t43 =>
 za6 H (fun H K' => ACalls tP zex [t37, t38, t43] H K') fun t44 =>
 zae H (fun K' => aUn .not t44 (K' · H)) fun t45 =>
 zae H (fun K' => K' t45 H) fun t46 =>
 zab t46 false H (fun K' => zae H (fun K'' => K'' t8 H) (K' · H)) fun t47 H =>
 zab t46 false H (fun K' => zae H (fun K'' => K'' t29 H) (K' · H)) fun t48 H =>
 zab t46 false H (fun K' => zae H (fun K'' => zaj 1 t47 t48 (K'' · H)) (K' · H)) fun t49 H =>
 zab t46 false H (fun K' => zae H (fun K'' => zan false 1 t49 H (K'' · H)) (K' · H)) fun t50 H =>
 zab t46 false H (fun K' => zae H (fun K'' => aUn .not t50 (K'' · H)) (K' · H)) fun t51 H =>
 zab t46 false H (fun K' => zae H (fun K'' => K'' t51 H) (K' · H)) fun t52 H =>
 zab t52 true H (fun K' => zae H (fun K'' => zan true 3 t10 H (K'' · H)) (K' · H)) fun t53 H =>
 zab t52 true H (fun K' => zae H (fun K'' => K'' t1 H) (K' · H)) fun t54 H =>
 zab t52 true H (fun K' => za6 H (fun H K'' => ACalls tP zgO [t53, t54] H K'') (K' · H)) fun t55 H =>
 zab t46 false H (fun K' => zae H (fun K'' => zai t52 t55 (.bool false) (K'' · H)) (K' · H)) fun t56 H =>
 zae H (fun K' => zai t46 (.bool true) t56 (K' · H)) fun t57 =>
 zag t57
 (K (.bool false) H)
 (zac .add false t29 (.int .i64 1) fun t58 =>
 Kb6 (zfY t0 t1 t8 t27 t28 t58) H))
 (K (.bool true) H)
def ztT (t0 t1 t2 : AV) (H : zaa) (K : Kt) : Prop :=
 zaj 3 t0 t1 fun t13 =>
 zaf 2 t13 fun t14 =>
 zad false 1 t14 H fun t15 =>
 zaj 2 t15 t2 fun t17 =>
 zaf 1 t17 fun t18 =>
 zad false 1 t18 H fun t19 =>
 zah 1 t19 fun t21 =>
 zac .gtr false t21 (.int .i64 6) fun t22 =>
 zag t22
 (K (.bool false) H)
 (ACalls tP zeC [t0, t1, t2] H fun t26 H =>
 zah 1 t19 fun t28 =>
 ztU t0 t1 t26 t19 t28 (.int .i64 0) H K)
theorem zDZ {t0 t1 t8 t27 t28 t29 : AV} {H : zaa} {K : Kt} (Inv : Nat → AV → zaa → Prop) (n : Nat) (h0 : HSc H → Inv n t29 H)
  (round : Rd1 (fun t29 => zfY t0 t1 t8 t27 t28 t29) (fun t29 => fun H Kb6 => zng t0 t1 t8 t27 t28 t29 H K Kb6) H Inv) : ztU t0 t1 t8 t27 t28 t29 H K :=
 lp1 (M := ziI) zD0 t29 (by kernel_rfl) Inv n h0 round
theorem zD1 {t0 t1 t2 : AV} {H : zaa} {K : Kt} (h : HSc H → ztT t0 t1 t2 H K) : ACalls tP zk8 [t0, t1, t2] H K :=
 zam (M := ziI) Tryz.func190 (c := znh) (by kernel_rfl) (fun hs => Eq.mpr (by kernel_rfl) (h hs))
end Go.Proofs.YtjkkonpjecoieaaGreat

namespace Go.Proofs.YtjkkonpjecoieaaGreat
open Go Go.Abs
set_option maxRecDepth 8000
def zcV (data : List Dat) (d : Nat) (vars : Int) (t : VT) : Bool := zaH (data.take (d + 1)) vars t && (zbk d vars t || !zb2 d t)
theorem zD3 (data : List Dat) (d : Nat) (c : Nat) (hd : d < data.length) (hc : c < (data[d]).cons.length) (hl : data.length ≤ 1000000) (hcl : (data[d]).cons.length ≤ 1000000) (hal : ((data[d]).cons[c]).args.length ≤ 1000000)
  (hb : ∀ x ∈ ((data[d]).cons[c]).args, x.nodes ≤ 1000000) (H : zaa) (K : AV → zaa → Prop)
  (hK : K (.bool (decide (((data[d]).cons[c]).args.length ≤ 6) && ((data[d]).cons[c]).args.all (zcV data d (data[d]).vars))) H) :
  ACalls tP zk8 [.sl (data.map Dat.cs) .none, .int .i64 d, .int .i64 c] H K := by
 refine ACalls.out (zD1 fun hs => ?_)
 have e1 : (data.map Dat.cs)[d]? = some (data[d]).cs := by simp [hd]
 have e2 : ((data[d]).cons.map Con.cs)[c]? = some ((data[d]).cons[c]).cs := by simp [hc]
 have hrec := zoo data d c hd hc hl hcl hal hb
 generalize hD : data[d] = D at *
 generalize hA : D.cons[c] = C at *
 have hO : ∀ J, Out H.length K (.bool (decide (C.args.length ≤ 6) && C.args.all (zcV data d D.vars))) (H ++ J) := fun J => Out.bool rfl (Nat.le_refl _) hs hK
 simp [ztT, e1, e2, Dat.cs, Con.cs, hd, hD, hc, hA]
 by_cases h6 : C.args.length ≤ 6
 ·have h6' : ¬ (6 : Int) < C.args.length := by omega
  have h6'' : ¬ 6 < C.args.length := by omega
  simp [h6', h6'']
  refine hrec _ _ ?_
  simp [h6] at hO
  refine zDZ (Inv := fun q t29 H' => ∃ i : Nat, i ≤ C.args.length ∧ q = C.args.length - i ∧ t29 = .int .i64 i ∧ (C.args.drop i).all (zcV data d D.vars) = C.args.all (zcV data d D.vars) ∧ H = H') C.args.length ?_ ?_
  ·intro _; exact ⟨0, by omega, by omega, rfl, by simp, rfl⟩
  ·rintro q t29 H' ⟨i, hi, rfl, rfl, ho, rfl⟩ hsc hlen hsF Kb hKb
   by_cases hlt : i < C.args.length
   ·rw [List.drop_eq_getElem_cons hlt, List.all_cons] at ho
    have hnb := hb _ (List.getElem_mem hlt)
    obtain ⟨x1, x2, x3, hvx, hx1, hx2, hx3⟩ := zaE C.args[i]
    simp [zng, hlt, hvx, e1, hd, hD, Dat.cs]
    refine ⟨⟨hx1, hx2, hx3⟩, ?_⟩
    rw [zaq (by omega) (by omega), show ((d : Int) + 1).toNat = d + 1 by omega, ← List.map_take]
    refine ⟨by omega, by omega, ?_⟩
    rw [← hvx]
    refine zbq (.bool (zaH (data.take (d + 1)) D.vars C.args[i])) (fun J => zmd (data.take (d + 1)) D.vars _ (by omega) _ _ ⟨rfl, rfl⟩) ?_
    have hao : zcV data d D.vars C.args[i] = (zaH (data.take (d + 1)) D.vars C.args[i] && (zbk d D.vars C.args[i] || !zb2 d C.args[i])) := rfl
    rw [hao] at ho
    cases hv : zaH (data.take (d + 1)) D.vars C.args[i] with
    | false =>
     rw [hv] at ho
     simp only [Bool.false_and] at ho
     rw [← ho] at hO
     simp; exact hO _
    | true =>
    rw [hv] at ho
    cases hsf : zbk d D.vars C.args[i] with
    | true =>
     rw [hsf] at ho
     simp [hlt, hsf]
     rw [zaq (by omega) (by omega)]
     refine hKb _ _ ⟨C.args.length - (i + 1), by omega, Back.same (by simp) hs ?_ ⟨_, rfl, i + 1, by omega, rfl, by simp, by simpa using ho, rfl⟩⟩
     simp [zfY, AV.sc, AV.scV, AV.scA, AV.scB]
    | false =>
     rw [hsf] at ho
     simp [hlt, hsf]
     refine zbq (.bool (zb2 d C.args[i])) (fun J => zEH d _ _ (Nat.le_refl _) (by omega) _ _ ⟨rfl, rfl⟩) ?_
     cases hm : zb2 d C.args[i] with
     | true =>
      rw [hm] at ho
      simp only [Bool.not_true, Bool.or_false, Bool.and_false, Bool.false_and] at ho
      rw [← ho] at hO
      simp; exact hO _
     | false =>
      rw [hm] at ho
      simp
      rw [zaq (by omega) (by omega)]
      refine hKb _ _ ⟨C.args.length - (i + 1), by omega, Back.same (by simp) hs ?_ ⟨_, rfl, i + 1, by omega, rfl, by simp, by simpa using ho, rfl⟩⟩
      simp [zfY, AV.sc, AV.scV, AV.scA, AV.scB]
   ·obtain rfl : i = C.args.length := by omega
    rw [List.drop_length, List.all_nil] at ho
    rw [← ho] at hO
    simp [zng]
    simpa using hO []
 ·have h6' : (6 : Int) < C.args.length := by omega
  have h6'' : 6 < C.args.length := by omega
  simp [h6', h6'']
  simp [h6] at hO
  simpa using hO []
end Go.Proofs.YtjkkonpjecoieaaGreat
