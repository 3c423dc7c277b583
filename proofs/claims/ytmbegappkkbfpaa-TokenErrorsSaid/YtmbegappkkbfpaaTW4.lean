/- The token functions: the sign of the reference, the reading of one token. -/
import Derived.Test.YtmbegappkkbfpaaTW3
namespace Go.Proofs.Ytmbegappkkbfpaa
open Go Go.Abs
set_option linter.unusedSimpArgs false
theorem sign47 (b : UInt8) (r : List UInt8) (H : Heap) (K : AV → Heap → Prop) (hK : K (.int .i64 (sgn (b :: r))) H) : ACalls Try.prog 47 [.str (b :: r)] H K := by
  refine ACalls.out (f47_ok fun hs => ?_)
  have hO := outHere (K := K) (H := H) (r := .int .i64 (sgn (b :: r))) hs rfl rfl hK
  have one : sgn2 (b :: r) = false → f47_l5 (.str (b :: r)) (.str sgns) (.int .i64 0) H (Out H.length K) := by
    intro h2
    rw [sgn_cons b r h2] at hO
    have hlen : sgns.length = 13 := rfl
    generalize sgns = ws at *
    refine f47_loop5 (Inv := fun q t4 H' => ∃ i : Nat, i ≤ ws.length ∧ q = ws.length - i ∧ t4 = .int .i64 i ∧ (ws.drop i).contains b = ws.contains b ∧ H' = H) ws.length ?_ ?_
    · intro _; exact ⟨0, by omega, by omega, rfl, by simp, rfl⟩
    · rintro q t8 H' ⟨i, hi, rfl, rfl, ho, rfl⟩ hsc _ hsF Kb hKb
      by_cases hlt : i < ws.length
      · rw [List.drop_eq_getElem_cons hlt, List.contains_cons] at ho
        have e1 := u8_eq b ws[i]
        cases hz : (b == ws[i]) with
        | true =>
          rw [hz, Bool.true_or] at ho
          rw [← ho] at hO
          simpa [f47_b5, hlt, e1, hz] using hO
        | false =>
          rw [hz, Bool.false_or] at ho
          simp [f47_b5, hlt, e1, hz]
          rw [wrap_in (by omega) (by omega)]
          refine hKb _ _ ⟨ws.length - (i + 1), by omega, Back.here (Nat.le_refl _) hs ?_ ⟨_, rfl, i + 1, by omega, rfl, by simp, ho, rfl⟩⟩
          simp [f47_fr5, AV.sc, AV.scV, AV.scA, AV.scB]
      · obtain rfl : i = ws.length := by omega
        rw [List.drop_length] at ho
        rw [← ho] at hO
        simpa [f47_b5, hlt] using hO
  by_cases hl : 2 ≤ (b :: r).length
  · have hl' : (2 : Int) ≤ r.length + 1 := by simp only [List.length_cons] at hl; omega
    have hl2 : 1 ≤ r.length := by simp only [List.length_cons] at hl; omega
    cases h2 : sgn2 (b :: r) with
    | true =>
      have h3 : sgn (b :: r) = 2 := by simp [sgn, h2]
      rw [h3] at hO
      unfold sgn2 at h2
      simp only [List.take_succ_cons] at h2 hO
      cases e1 : (b :: List.take 1 r == [45, 62]) with
      | true => simpa [f47, hl', hl2, e1] using hO
      | false =>
        cases e2 : (b :: List.take 1 r == [60, 61]) with
        | true => simpa [f47, hl', hl2, e1, e2] using hO
        | false =>
          rw [e1, e2] at h2
          simp only [Bool.false_or] at h2
          simpa [f47, hl', hl2, e1, e2, h2] using hO
    | false =>
      have ho := one h2
      unfold sgns at ho
      unfold sgn2 at h2
      simp only [List.take_succ_cons] at h2
      rw [Bool.or_eq_false_iff, Bool.or_eq_false_iff] at h2
      simpa [f47, hl', hl2, h2.1.1, h2.1.2, h2.2] using ho
  · have ho := one (sgn2_short hl)
    unfold sgns at ho
    have : ¬ ((2 : Int) ≤ r.length + 1) := by simp only [List.length_cons] at hl; omega
    simpa [f47, this] using ho

def Tk.cs (t : Tk) : List AV := [.int .i64 t.kind, .str t.text, .int .i64 t.pos]
def scanR (kw : List UInt8 → Bool) (b : UInt8) (r : List UInt8) (i : Nat) : AV :=
  match tok kw b r with
  | .error e => .tup [.agg [.int .i64 0, .str [], .int .i64 0], .int .i64 e]
  | .ok (k, n) => .tup [.agg (Tk.cs ⟨k, (b :: r).take n, i⟩), .int .i64 0]
theorem up_not_low {b : UInt8} (h : bUp b = true) : bLow b = false := by
  simp only [bUp, Bool.and_eq_true, decide_eq_true_eq] at h
  simp only [bLow, Bool.and_eq_false_iff, decide_eq_false_iff_not]
  left; omega
theorem take_takeWhile {p : UInt8 → Bool} (b : UInt8) (r : List UInt8) : (b :: r).take ((r.takeWhile p).length + 1) = b :: r.takeWhile p := by
  rw [List.take_succ_cons]
  congr 1
  induction r with
  | nil => simp
  | cons c r ih => by_cases h : p c = true <;> simp [h, ih]
theorem kw53 : callable Try.prog 53 = true := by kernel_rfl
theorem kw54 : callable Try.prog 54 = true := by kernel_rfl
theorem outScan {H J : Heap} {K : AV → Heap → Prop} {k p e : Int} {t : List UInt8} (hs : HSc H) (h : K (.tup [.agg [.int .i64 k, .str t, .int .i64 p], .int .i64 e]) H) :
    Out H.length K (.tup [.agg [.int .i64 k, .str t, .int .i64 p], .int .i64 e]) (H ++ J) := Out.tup hs h ⟨keepV rfl rfl, keepV rfl rfl, trivial⟩
def f42_d (t4 t6 : AV) (H : Heap) (K : AV → Heap → Prop) : Prop :=
  aFld 1 t6 fun t69 =>
  aLoad false 1 t69 H fun t70 =>
  ACalls Try.prog 55 [t70] H fun t71 H =>
  aUn .not t71 fun t72 =>
  aTest t72
  (aBuild [(.int .i64 0), (.str []), (.int .i64 0)] [(0, 1), (1, 1), (2, 1)] [] fun t73 =>
  aStore 3 t4 t73 H fun H =>
  aLoad true 3 t4 H fun r0 =>
  aRet [r0, (.int .i64 9)] (K · H))
  (f42_j2 t4 t6 H K)
theorem scan42 (s : List UInt8) (hl : s.length ≤ 1000000) (i : Nat) (hi : i < s.length) (H : Heap) (K : AV → Heap → Prop) (hK : K (scanR (kwF kwds) s[i] (s.drop (i + 1)) i) H) : ACalls Try.prog 42 [.str s, .int .i64 i] H K := by
  refine ACalls.out (f42_ok fun hs => ?_)
  have hdr := List.drop_eq_getElem_cons hi
  have hrl : (s.drop i).length ≤ 1000000 := by simp; omega
  generalize hb : s[i] = b at *
  generalize hr : s.drop (i + 1) = r at *
  have hb' : s[i]?.getD 0 = b := by simp [hi, hb]
  have post : ∀ (k : Int) (n : Nat), tok (kwF kwds) b r = .ok (k, n) → ∀ t, (b :: r).take n = t → f42_j2 (.ptr H.length 0) (.ptr (H.length + 1) 0) (H ++ [.cells [.int .i64 0, .str [], .int .i64 0], .cells [.int .i64 k, .str t, .int .i64 i]]) (Out H.length K) := by
    intro k n ht t hte
    subst hte
    simp [scanR, ht, Tk.cs] at hK
    simp [f42_j2, f42_j3, AV.known, AV.isV]
    exact outScan hs hK
  have bad : ∀ e : Int, tok (kwF kwds) b r = .error e → ∀ J, Out H.length K (.tup [.agg [.int .i64 0, .str [], .int .i64 0], .int .i64 e]) (H ++ J) := by
    intro e ht J
    simp [scanR, ht] at hK
    exact outScan hs hK
  have hi' := Nat.le_of_lt hi
  by_cases hLU : (bLow b || bUp b) = true
  · have hin : bIn b = true := by simp [bIn, hLU]
    simp [f42, hi, hb, hi', aBuild, fillA, AV.known]
    refine low50 b _ _ ?_
    have hc : bLow b = true ∨ (bLow b = false ∧ bUp b = true) := by cases hL : bLow b <;> simp [hL] at hLU ⊢; exact hLU
    have hpost := fun k => post k ((r.takeWhile bIn).length + 1)
    simp only [tok, hLU, if_true, take_takeWhile] at hpost
    rcases hc with hL | ⟨hL, hU⟩
    case' inl => simp [hL]
    case' inr => simp [hL]; refine up51 b _ _ ?_; simp [hU]
    all_goals
      rw [hdr]
      refine prefix52 bIn 53 kw53 within53 (b :: r) (by rw [← hdr]; exact hrl) _ _ ?_
      simp [hin, AV.known]
      by_cases hn : (r.takeWhile bIn).length + 1 > 24
      · have hn' : (24 : Int) < (r.takeWhile bIn).length + 1 := by omega
        have := bad 9 (by simp only [tok, hLU, if_true]; rw [if_pos hn])
        simp [hn', AV.known, AV.isV]
        exact this _
      · have hn' : ¬ (24 : Int) < (r.takeWhile bIn).length + 1 := by omega
        simp [hn']
        refine up51 b _ _ ?_
        rw [if_neg hn] at hpost
        cases hU : bUp b with
        | true =>
          simp [AV.known, f42_j1]
          exact hpost 2 (by simp [hU]) _ rfl
        | false =>
          simp [AV.known]
          refine kw11 _ _ _ ?_
          cases hkw : kwF kwds (b :: r.takeWhile bIn) with
          | true =>
            simp [AV.known, f42_j1]
            exact hpost 4 (by simp [hU, hkw]) _ rfl
          | false =>
            simp [AV.known, f42_j1]
            exact hpost 1 (by simp [hU, hkw]) _ rfl
  · have hL : bLow b = false := by simp at hLU; exact hLU.1
    have hU : bUp b = false := by simp at hLU; exact hLU.2
    simp [f42, hi, hb, aBuild, fillA, AV.known]
    refine low50 b _ _ ?_
    simp [hL]
    refine up51 b _ _ ?_
    simp [hU]
    refine dig54 b _ _ ?_
    cases hD : bDig b with
    | true =>
      simp [hi', AV.known]
      rw [hdr]
      refine prefix52 bDig 54 kw54 dig54 (b :: r) (by rw [← hdr]; exact hrl) _ _ ?_
      have e1 : ((b.toNat : Int) == 48) = (b == 48) := u8_eq b 48
      have htk : tok (kwF kwds) b r = if (b == 48 && decide ((r.takeWhile bDig).length + 1 > 1)) = true then .error 2 else if smallF (b :: r.takeWhile bDig) 0 = true then .ok (3, (r.takeWhile bDig).length + 1) else .error 9 := by
        simp only [tok, hLU, hD, if_true, take_takeWhile]
        rfl
      have hsm : ∀ J, ACalls Try.prog 55 [.str (b :: r.takeWhile bDig)] (H ++ J) fun t H' => t = .bool (smallF (b :: r.takeWhile bDig) 0) ∧ H' = H ++ J := by
        intro J
        refine small55 _ ?_ ?_ _ _ ⟨rfl, rfl⟩
        · intro c hc
          rcases List.mem_cons.1 hc with rfl | hc
          · exact hD
          · exact List.all_eq_true.1 (List.all_takeWhile) c hc
        · have h1 : (r.takeWhile bDig).length ≤ r.length := (List.takeWhile_sublist _).length_le
          rw [hdr] at hrl
          simp at hrl ⊢
          omega
      simp [hD, AV.known, e1]
      have hpost := post 3 ((r.takeWhile bDig).length + 1)
      rw [take_takeWhile] at hpost
      rw [htk] at hpost bad
      have last : ∀ J, (¬ (b == 48 && decide ((r.takeWhile bDig).length + 1 > 1)) = true) → J = [.cells [.int .i64 0, .str [], .int .i64 0], .cells [.int .i64 3, .str (b :: r.takeWhile bDig), .int .i64 i]] → f42_d (.ptr H.length 0) (.ptr (H.length + 1) 0) (H ++ J) (Out H.length K) := by
        rintro J hne rfl
        rw [if_neg hne] at hpost bad
        simp [f42_d]
        refine (hsm _).mono ?_
        rintro _ _ ⟨rfl, rfl⟩
        cases hv : smallF (b :: r.takeWhile bDig) 0 with
        | true =>
          simp
          exact hpost (by simp [hv]) _ rfl
        | false =>
          simp [AV.known, aBuild, fillA, AV.isV]
          exact bad 9 (by simp [hv]) _
      cases hz : (b == 48) with
      | true =>
        simp [hz]
        by_cases hn : 1 < (r.takeWhile bDig).length + 1
        · have hn' : (1 : Int) < (r.takeWhile bDig).length + 1 := by omega
          have hd : decide ((r.takeWhile bDig).length + 1 > 1) = true := decide_eq_true hn
          have := bad 2 (by rw [hz, hd]; rfl)
          simp [hn', AV.known, AV.isV]
          exact this _
        · have hn' : ¬ (1 : Int) < (r.takeWhile bDig).length + 1 := by omega
          have hd : decide ((r.takeWhile bDig).length + 1 > 1) = false := decide_eq_false hn
          have := last _ (by rw [hz, hd]; decide) rfl
          simp [f42_d, aBuild, fillA] at this
          simp [hn']
          exact this
      | false =>
        have := last _ (by simp [hz]) rfl
        simp [f42_d, aBuild, fillA] at this
        simp [hz]
        exact this
    | false => 
      simp [hi', AV.known]
      rw [hdr]
      refine sign56 b r _ _ ?_
      simp [AV.known]
      have htk : tok (kwF kwds) b r = if sgn (b :: r) = 0 then .error 2 else .ok (5, sgn (b :: r)) := by
        simp only [tok, hLU, hD]
        rfl
      by_cases hz : sgn (b :: r) = 0
      · have := bad 2 (by rw [htk, if_pos hz])
        simp [hz, AV.isV]
        exact this _
      · have := post 5 (sgn (b :: r)) (by rw [htk, if_neg hz]) _ rfl
        have he : (List.take (sgn (b :: r)) (b :: r)).isEmpty = false := by
          cases h : sgn (b :: r) with
          | zero => exact absurd h hz
          | succ n => simp
        simp [he]
        exact this
end Go.Proofs.Ytmbegappkkbfpaa
