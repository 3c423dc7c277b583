/- Split: the program's walk. -/
import Derived.Test.YtmbegappkkbfpaaTW4
namespace Go.Proofs.Ytmbegappkkbfpaa
open Go Go.Abs
set_option linter.unusedSimpArgs false
def cat (l : List Tk) : Except (Nat × Int) (List Tk) → Except (Nat × Int) (List Tk)
  | .error e => .error e
  | .ok m => .ok (l ++ m)
theorem cat_cat (l m : List Tk) (r : Except (Nat × Int) (List Tk)) : cat l (cat m r) = cat (l ++ m) r := by cases r <;> simp [cat]
@[simp] theorem cat_nil (r : Except (Nat × Int) (List Tk)) : cat [] r = r := by cases r <;> rfl
def skipC (r : List UInt8) : List UInt8 := r.dropWhile (· != 10)
def skipN (r : List UInt8) : Nat := (r.takeWhile (· != 10)).length
section
variable (kw : List UInt8 → Bool)
theorem toks_nil (p : Nat) : toks kw [] p = .ok [⟨6, [], p⟩] := by unfold toks; rfl
theorem toks_blank {b : UInt8} (h : bBlank b = true) (r : List UInt8) (p : Nat) : toks kw (b :: r) p = toks kw r (p + 1) := by
  conv => lhs; unfold toks
  simp [h]
theorem toks_hash {b : UInt8} (h0 : bBlank b = false) (h : (b == 35) = true) (r : List UInt8) (p : Nat) : toks kw (b :: r) p = toks kw (skipC r) (p + 1 + skipN r) := by
  conv => lhs; unfold toks
  simp only [h0, h, Bool.false_eq_true, if_false, if_true]
  rfl
theorem toks_err {b : UInt8} (h0 : bBlank b = false) (h : (b == 35) = false) {r : List UInt8} {p : Nat} {e : Int} (ht : tok kw b r = .error e) : toks kw (b :: r) p = .error (p, e) := by
  conv => lhs; unfold toks
  simp only [h0, h, Bool.false_eq_true, if_false, ht]
theorem toks_ok {b : UInt8} (h0 : bBlank b = false) (h : (b == 35) = false) {r : List UInt8} {p : Nat} {k : Int} {n : Nat} (ht : tok kw b r = .ok (k, n)) :
    toks kw (b :: r) p = cat [⟨k, (b :: r).take n, p⟩] (toks kw ((b :: r).drop n) (p + n)) := by
  conv => lhs; unfold toks
  have hn := tok_pos ht
  obtain ⟨m, rfl⟩ : ∃ m, n = m + 1 := ⟨n - 1, by omega⟩
  simp only [h0, h, Bool.false_eq_true, if_false, ht, Nat.add_sub_cancel, List.drop_succ_cons]
  cases toks kw (r.drop m) (p + (m + 1)) <;> rfl
end
theorem skipC_cons_ne {b : UInt8} (h : (b == 10) = false) (r : List UInt8) : skipC (b :: r) = skipC r ∧ skipN (b :: r) = 1 + skipN r := by
  have hb : b ≠ 10 := by simpa using h
  constructor
  · simp [skipC, hb]
  · simp [skipN, hb]; omega
theorem skipC_cons_eq {b : UInt8} (h : (b == 10) = true) (r : List UInt8) : skipC (b :: r) = b :: r ∧ skipN (b :: r) = 0 := by
  have hb : b = 10 := by simpa using h
  constructor
  · simp [skipC, hb]
  · simp [skipN, hb]
theorem skipC_nil : skipC [] = [] ∧ skipN [] = 0 := ⟨rfl, rfl⟩
theorem tok_len {kw : List UInt8 → Bool} {b : UInt8} {r : List UInt8} {k : Int} {n : Nat} (h : tok kw b r = .ok (k, n)) : n ≤ (b :: r).length := by
  have tw : ∀ p : UInt8 → Bool, (r.takeWhile p).length ≤ r.length := fun p => (List.takeWhile_sublist _).length_le
  unfold tok at h
  split at h
  · simp only at h; split at h <;> simp at h; have := tw bIn; simp; omega
  · split at h
    · simp only at h; split at h
      · simp at h
      · split at h <;> simp at h; have := tw bDig; simp; omega
    · simp only at h
      split at h <;> simp at h
      obtain ⟨_, rfl⟩ := h
      unfold sgn
      split
      · rename_i h2
        by_cases hl : 2 ≤ (b :: r).length
        · exact hl
        · rw [sgn2_short hl] at h2; cases h2
      · split
        · simp
        · split <;> simp
theorem tok_err {kw : List UInt8 → Bool} {b : UInt8} {r : List UInt8} {e : Int} (h : tok kw b r = .error e) : e = 2 ∨ e = 9 := by
  unfold tok at h
  split at h
  · simp only at h; split at h <;> simp at h; omega
  · split at h
    · simp only at h; split at h
      · simp at h; omega
      · split at h <;> simp at h; omega
    · simp only at h
      split at h <;> simp at h; omega
def splitR (s : List UInt8) : AV :=
  if s.length > 16384 then .tup [.sl [] .none, .int .i64 0, .int .i64 9] else
  match toks (kwF kwds) s 0 with
  | .error (p, e) => .tup [.sl [] .none, .int .i64 p, .int .i64 e]
  | .ok l => .tup [.sl (l.map Tk.cs) .none, .int .i64 0, .int .i64 0]
theorem two {H : Heap} {x y : AB} : H ++ [x, y] = (H ++ [x]) ++ [y] := by simp
theorem outErr {H J : Heap} {K : AV → Heap → Prop} {p e : Int} (hs : HSc H) (hK : K (.tup [.sl [] .none, .int .i64 p, .int .i64 e]) H) : Out H.length K (.tup [.snil, .int .i64 p, .int .i64 e]) (H ++ J) :=
  Out.tup hs hK ⟨snilV, keepV rfl rfl, keepV rfl rfl, trivial⟩
theorem split25 (s : List UInt8) (H : Heap) (K : AV → Heap → Prop) (hK : K (splitR s) H) : ACalls Try.prog 25 [.str s] H K := by
  refine ACalls.out (f25_ok fun hs => ?_)
  by_cases hl : s.length > 16384
  · have hl' : (16384 : Int) < s.length := by omega
    simp [f25, hl', AV.isV]
    unfold splitR at hK
    rw [if_pos hl] at hK
    exact Out.tup0 hs hK ⟨snilV, keepV rfl rfl, keepV rfl rfl, trivial⟩
  have hl' : ¬ (16384 : Int) < s.length := by omega
  unfold splitR at hK
  rw [if_neg hl] at hK
  simp [f25, hl']
  have hperm : ∀ n, HSc (H ++ [.perm 46 3 n]) := fun n => hs.append rfl
  unfold f25_l5
  refine ALoop.own 5 46 3 rfl ?_
  show f25_l5 (.str s) (.sl [] (.own H.length)) (.int .i64 0) (H ++ [.perm 46 3 0]) (Out H.length K)
  refine f25_loop5 (Inv := fun q t5 t6 H' => ∃ (i : Nat) (l : List Tk), i ≤ s.length ∧ l.length ≤ i ∧ q = s.length - i ∧ t6 = .int .i64 i ∧ t5 = .sl (l.map Tk.cs) (.own H.length) ∧ H' = H ++ [.perm 46 3 l.length] ∧ cat l (toks (kwF kwds) (s.drop i) i) = toks (kwF kwds) s 0) s.length ?_ ?_
  · intro _; exact ⟨0, [], by omega, by simp, by omega, rfl, rfl, rfl, by simp⟩
  · rintro q t5 t6 H' ⟨i, l, hi, hll, rfl, rfl, rfl, rfl, ho⟩ hsc hlen hsF Kb hKb
    have done : cat l (.ok [⟨6, [], s.length⟩]) = toks (kwF kwds) s 0 → f25_j2 (.str s) (.sl (l.map Tk.cs) (.own H.length)) (H ++ [.perm 46 3 l.length]) (Out H.length K) := by
      intro ho
      rw [← ho] at hK
      simp [f25_j2, f25_j3, aBuild, fillA, aBuildS, fillS, plain, AV.pd, aAppend, aSrc, aAppTo, AV.isV]
      refine ⟨by omega, ?_⟩
      simp [cat, Tk.cs] at hK
      exact Out.tup hs hK ⟨slV, keepV rfl rfl, keepV rfl rfl, trivial⟩
    by_cases hlt : i < s.length
    · have hdr := List.drop_eq_getElem_cons hlt
      simp [f25_b5, hlt]
      refine blank41 _ _ _ ?_
      have e35 : ((s[i].toNat : Int) == 35) = (s[i] == 35) := u8_eq s[i] 35
      cases hbl : bBlank s[i] with
      | true =>
        rw [hdr, toks_blank _ hbl] at ho
        simp [f25_j1]
        rw [wrap_in (by omega) (by omega)]
        refine hKb _ _ ⟨s.length - (i + 1), by omega, Back.here (by simp) (hperm _) ?_ ⟨_, _, rfl, i + 1, l, by omega, by omega, rfl, by simp, rfl, rfl, ho⟩⟩
        simp [f25_fr5, AV.sc, AV.scV, AV.scA, AV.scB]
      | false =>
        simp [e35]
        cases hsh : (s[i] == 35) with
        | true =>
          simp
          rw [hdr, toks_hash _ hbl hsh] at ho
          have h10 : (s[i] == 10) = false := by
            rw [beq_iff_eq] at hsh; rw [hsh]; rfl
          obtain ⟨c1, c2⟩ := skipC_cons_ne h10 (s.drop (i + 1))
          rw [Nat.add_assoc, ← c1, ← c2, ← hdr] at ho
          refine f25_loop9 (Inv := fun q t6 H' => ∃ (j : Nat), i ≤ j ∧ j ≤ s.length ∧ q = s.length - j ∧ t6 = .int .i64 j ∧ H' = H ++ [.perm 46 3 l.length] ∧ cat l (toks (kwF kwds) (skipC (s.drop j)) (j + skipN (s.drop j))) = toks (kwF kwds) s 0) (s.length - i) ?_ ?_
          · intro _; exact ⟨i, by omega, by omega, by omega, rfl, rfl, ho⟩
          · rintro q t6 H' ⟨j, hij, hj, rfl, rfl, rfl, ho⟩ hsc hlen hsF Kb9 hKb9
            by_cases hjlt : j < s.length
            · have hdrj := List.drop_eq_getElem_cons hjlt
              have e10 : ((s[j].toNat : Int) == 10) = (s[j] == 10) := u8_eq s[j] 10
              simp [f25_b9, hjlt, e10]
              cases hz : (s[j] == 10) with
              | true =>
                obtain ⟨d1, d2⟩ := skipC_cons_eq hz (s.drop (j + 1))
                rw [hdrj, d1, d2, ← hdrj, Nat.add_zero] at ho
                have hij' : i ≠ j := by rintro rfl; rw [h10] at hz; cases hz
                simp [f25_j1]
                refine hKb _ _ ⟨s.length - j, by omega, Back.here (by simp) (hperm _) ?_ ⟨_, _, rfl, j, l, by omega, by omega, rfl, by simp, rfl, rfl, ho⟩⟩
                simp [f25_fr5, AV.sc, AV.scV, AV.scA, AV.scB]
              | false =>
                obtain ⟨d1, d2⟩ := skipC_cons_ne hz (s.drop (j + 1))
                rw [hdrj, d1, d2, ← Nat.add_assoc] at ho
                simp
                rw [wrap_in (by omega) (by omega)]
                refine hKb9 _ _ ⟨s.length - (j + 1), by omega, Back.here (by simp) (hperm _) ?_ ⟨_, rfl, j + 1, by omega, by omega, rfl, by simp, rfl, ho⟩⟩
                simp [f25_fr9, AV.sc, AV.scV, AV.scA, AV.scB]
            · obtain rfl : j = s.length := by omega
              simp [f25_b9]
              rw [List.drop_length, skipC_nil.1, skipC_nil.2, Nat.add_zero, toks_nil] at ho
              exact done ho
        | false =>
          simp
          refine scan42 s (by omega) i hlt _ _ ?_
          unfold scanR
          cases ht : tok (kwF kwds) s[i] (s.drop (i + 1)) with
          | error e =>
            rw [hdr, toks_err _ hbl hsh ht] at ho
            have he : (e != 0) = true := by rcases tok_err ht with rfl | rfl <;> rfl
            rw [← ho] at hK
            simp [AV.known, AV.isV, he]
            exact outErr hs hK
          | ok kn =>
            obtain ⟨k, n⟩ := kn
            rw [hdr, toks_ok _ hbl hsh ht, cat_cat, ← hdr] at ho
            have hn := tok_len ht
            rw [← hdr] at hn
            simp at hn
            have hn0 := tok_pos ht
            simp [Tk.cs, AV.known, aBuildS, fillS, plain, AV.pd, aAppend, aSrc, aAppTo, f25_j1]
            refine ⟨by omega, ?_⟩
            rw [show min n (s.length - i) = n by omega, wrap_in (by omega) (by omega), two]
            refine hKb _ _ ⟨s.length - (i + n), by omega, Back.same (by simp) (hperm _) ?_ ⟨_, _, rfl, i + n, l ++ [⟨k, (s.drop i).take n, i⟩], by omega, by simp; omega, rfl, by simp, by simp [Tk.cs], by simp, ?_⟩⟩
            · simp [f25_fr5, AV.sc, AV.scV, AV.scA, AV.scB]
            · rw [List.drop_drop] at ho; exact ho
    · obtain rfl : i = s.length := by omega
      rw [List.drop_length, toks_nil] at ho
      simpa [f25_b5] using done ho
end Go.Proofs.Ytmbegappkkbfpaa
