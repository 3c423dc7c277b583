import Derived.Test.YtfpmdpldabopjaaGreatDoorKPDa
import Derived.Test.YtfpmdpldabopjaaGreatDoorKPCc
import Derived.Test.YtfpmdpldabopjaaGreatDoorAbsZ
import Derived.Test.YtfpmdpldabopjaaGreatDoorKSH
set_option linter.unusedSimpArgs false
set_option linter.unusedVariables false
namespace Go.Proofs.YtfpmdpldabopjaaGreatDoor
open Go Go.Abs
set_option maxRecDepth 8000
def r6B (data : List Dat) (s : List UInt8) (st : S10) : AB := .cells [.sl (data.map Dat.cs) .none, .str s, .int .i64 st.n, .bool st.b, .int .i64 st.l]
theorem r6B_sc (data : List Dat) (s : List UInt8) (st : S10) (m : Nat) : (r6B data s st).sc m = true := by simp [r6B, AB.sc, AV.scA, AV.scB]
theorem r6_take {data : List Dat} (p s : List UInt8) (st : S10) (hn : st.n ≤ s.length) (hs : s.length ≤ 1000000000) (hp : p.length ≤ 1000) {H : Heap} {id : Nat} (hid : H[id]? = some (r6B data s st)) (K : Kt)
  (h1 : ∀ st', tk s p st = some st' → K (.bool true) (H.set id (r6B data s st'))) (h2 : tk s p st = none → K (.bool false) H) :
  ACalls Tryz.prog n_zq133 [.ptr id 0, .str p] H K := by
 obtain ⟨n, l, b⟩ := st
 simp only at hn
 refine zq133_ok fun hsc => ?_
 have h0 : H[id]? = some (.cells [.sl (data.map Dat.cs) .none, .str s, .int .i64 n, .bool b, .int .i64 l]) := hid
 cases b with
 | true =>
  simp [zq133, h0]
  exact h2 (tk_bad rfl)
 | false =>
  by_cases hl : n + p.length ≤ s.length
  ·have w1 : IntKind.i64.wrap ((s.length : Int) - n) = s.length - n := wrap_in (by omega) (by omega)
   have g1 : (p.length : Int) ≤ s.length - n := by omega
   have hc := cut_take (p := p) (s := s) (n := n) hl
   obtain ⟨m, hm⟩ : ∃ m, m = n + p.length := ⟨_, rfl⟩
   have w2 : IntKind.i64.wrap ((n : Int) + p.length) = (m : Int) := by rw [wrap_in (by omega) (by omega)]; omega
   rw [← hm] at hl hc
   have hle : n ≤ m := by omega
   by_cases he : (s.take m).drop n = p
   ·rw [if_pos he] at hc
    have h := h1 ⟨m, l, false⟩ (by simp [tk, hc, hm])
    simp [zq133, h0, w1, w2, g1, aSlice, aBound, AV.known, hl, he, hle]
    simpa [r6B] using h
   ·rw [if_neg he] at hc
    have h := h2 (by simp [tk, hc])
    have he' : ((s.take m).drop n == p) = false := by simpa using he
    simp [zq133, h0, w1, w2, g1, aSlice, aBound, AV.known, hl, he, he', hle]
    exact h
  ·have w1 : IntKind.i64.wrap ((s.length : Int) - n) = s.length - n := wrap_in (by omega) (by omega)
   have g1 : ¬ (p.length : Int) ≤ s.length - n := by omega
   simp [zq133, h0, w1, g1]
   exact h2 (by simp [tk, cut_short hn hl])
theorem r6_need {data : List Dat} (p s : List UInt8) (st : S10) (hn : st.n ≤ s.length) (hs : s.length ≤ 1000000000) (hp : p.length ≤ 1000) {H : Heap} {id : Nat} (hid : H[id]? = some (r6B data s st)) (K : Kt)
  (hK : K (.tup []) (H.set id (r6B data s (nd s p st)))) : ACalls Tryz.prog n_zq132 [.ptr id 0, .str p] H K := by
 refine zq132_ok fun hsc => ?_
 have h0 : H[id]? = some (.cells [.sl (data.map Dat.cs) .none, .str s, .int .i64 st.n, .bool st.b, .int .i64 st.l]) := hid
 simp [zq132]
 refine r6_take p s st hn hs hp hid _ (fun st' ht => ?_) fun ht => ?_
 ·unfold nd at hK
  rw [ht] at hK
  simp
  exact hK
 ·unfold nd at hK
  rw [ht] at hK
  simp [h0, AV.known]
  exact hK
theorem r6_letter (b : UInt8) (H : Heap) (K : Kt) (hK : K (.bool (bIn b)) H) : ACalls Tryz.prog n_zq136 [.int .u8 b.toNat] H K := by
 refine ACalls.out (zq136_ok fun hs => ?_)
 have hO := outHere (K := K) (H := H) (r := .bool (bIn b)) hs rfl rfl hK
 have e1 : ((b.toNat : Int) == 95) = (b == 95) := u8_eq b 95
 unfold bIn bLow bUp bDig at hO
 cases h1 : decide (97 ≤ (b.toNat : Int)) <;> cases h2 : decide ((b.toNat : Int) ≤ 122) <;> cases h3 : decide (65 ≤ (b.toNat : Int)) <;> cases h4 : decide ((b.toNat : Int) ≤ 90) <;> cases h5 : (b == 95) <;> cases h6 : decide (48 ≤ (b.toNat : Int)) <;> cases h7 : decide ((b.toNat : Int) ≤ 57) <;>
  simp [zq136, e1, h1, h2, h3, h4, h5, h6, h7] <;> simp [h1, h2, h3, h4, h5, h6, h7] at hO <;> exact hO
theorem take_drop_while0 (g : UInt8 → Bool) (s : List UInt8) : ∀ b, (s.dropWhile g).head? = some b → g b = false := by
 induction s with
 | nil => simp
 | cons b s ih =>
  cases h : g b with
  | true => simpa [List.dropWhile_cons, h] using ih
  | false =>
   simp only [List.dropWhile_cons, h]
   intro x hx
   simp at hx
   subst hx
   exact h
theorem fold10_lt : ∀ (n : Nat) (l : List UInt8), l.length = n → (∀ b ∈ l, bDig b = true) → fold10 l < 10 ^ n
 | 0, l, hl, hd => by
  obtain rfl : l = [] := List.eq_nil_of_length_eq_zero hl
  simp [fold10]
 | n + 1, l, hl, hd => by
  have hne : l ≠ [] := by intro h; subst h; simp at hl
  have e := List.dropLast_concat_getLast hne
  rw [← e, fold10_snoc]
  have h1 := fold10_lt n l.dropLast (by simp; omega) (fun b hb => hd b ((List.dropLast_sublist l).subset hb))
  have h2 := dig_iff.1 (hd _ (List.getLast_mem hne))
  rw [Nat.pow_succ]
  omega
theorem ds10_at (s : List UInt8) (n : Nat) : (∀ b ∈ ds10 s n, bDig b = true) ∧ (ds10 s n).length ≤ 14 ∧ (∀ j (hj : j < (ds10 s n).length), ∃ h : n + j < s.length, s[n + j] = (ds10 s n)[j]) ∧
  ((ds10 s n).length < 14 → ∀ h : n + (ds10 s n).length < s.length, bDig s[n + (ds10 s n).length] = false) := by
 have hp : (ds10 s n) <+: s.drop n := (List.take_prefix _ _).trans (List.takeWhile_prefix _)
 refine ⟨fun b hb => List.all_eq_true.1 List.all_takeWhile b (List.mem_of_mem_take hb), by unfold ds10; rw [List.length_take]; omega, fun j hj => ?_, fun h14 h => ?_⟩
 ·obtain ⟨t, ht⟩ := hp
  have h1 : (s.drop n)[j]? = some (ds10 s n)[j] := by rw [← ht, List.getElem?_append_left hj, List.getElem?_eq_getElem hj]
  rw [List.getElem?_drop] at h1
  obtain ⟨h2, h3⟩ := List.getElem?_eq_some_iff.1 h1
  exact ⟨h2, h3⟩
 ·have e : ds10 s n = (s.drop n).takeWhile bDig := by
   unfold ds10 at h14 ⊢
   rw [List.length_take] at h14
   exact List.take_of_length_le (by omega)
  have key : ∀ w, w = (s.drop n).takeWhile bDig → ∀ h : n + w.length < s.length, bDig s[n + w.length] = false := by
   rintro w rfl h
   have h2 := (take_drop_while0 bDig (s.drop n)) s[n + ((s.drop n).takeWhile bDig).length]
   refine h2 ?_
   have h3 := List.takeWhile_append_dropWhile (p := bDig) (l := s.drop n)
   have h4 : (s.drop n).dropWhile bDig = s.drop (n + ((s.drop n).takeWhile bDig).length) := by
    have h10 : ((s.drop n).takeWhile bDig ++ (s.drop n).dropWhile bDig).drop ((s.drop n).takeWhile bDig).length = (s.drop n).dropWhile bDig := List.drop_left
    rw [← h10, ← List.drop_drop]
    exact (congrArg (List.drop ((s.drop n).takeWhile bDig).length) h3)
   rw [h4, List.head?_drop, List.getElem?_eq_getElem h]
  exact key _ e h
end Go.Proofs.YtfpmdpldabopjaaGreatDoor
namespace Go.Proofs.YtfpmdpldabopjaaGreatDoor
open Go Go.Abs
set_option maxRecDepth 8000
set_option maxHeartbeats 4000000 in
theorem r6_number {data : List Dat} (s : List UInt8) (st : S10) (hn : st.n ≤ s.length) (hs1 : s.length ≤ 1000000000) {H : Heap} {id : Nat} (hid : H[id]? = some (r6B data s st)) (K : Kt)
  (hK : K (.int .i64 (nmb s st).1) (H.set id (r6B data s (nmb s st).2))) : ACalls Tryz.prog n_zq134 [.ptr id 0] H K := by
 refine ACalls.out (zq134_ok fun hs => ?_)
 have hl1 := lt_get hid
 have hfin : ∀ X, X = H.set id (r6B data s (nmb s st).2) → Out H.length K (.int .i64 (nmb s st).1) X := fun X hX => by
  subst hX
  exact Out.at (J := []) (by simp) (by simp) (hs.set (r6B_sc _ _ _ _)) .rfl' rfl rfl hK
 simp [zq134]
 have hmain : ∀ (neg : Bool) (st1 : S10), neg = (tk s [45] st).isSome → st1 = (tk s [45] st).getD st → st1.n ≤ s.length → zq134_l4 (.ptr id 0) (.bool neg) (.int .i64 st1.n) (.int .i64 0) (H.set id (r6B data s st1)) (Out H.length K) := by
  intro neg st1 hneg hst hn1
  obtain ⟨d1, d2, d3, d4⟩ := ds10_at s st1.n
  have hnmb : nmb s st = (if neg then -(fold10 (ds10 s st1.n) : Int) else fold10 (ds10 s st1.n), ⟨st1.n + (ds10 s st1.n).length, st1.l, st1.b || decide (ds10 s st1.n = [] ∨ ((ds10 s st1.n).head? = some 48 ∧ (1 < (ds10 s st1.n).length ∨ neg = true)) ∨ 1099511627776 < fold10 (ds10 s st1.n))⟩) := by
   unfold nmb
   simp only [← hneg, ← hst]
  have hdl := ds10_le s st1.n hn1
  generalize ds10 s st1.n = ds at *
  obtain ⟨n, l, b⟩ := st1
  simp only at *
  have hf14 : fold10 ds < 100000000000000 := by
   have h1 := fold10_lt ds.length ds rfl d1
   have h2 : 10 ^ ds.length ≤ 10 ^ 14 := Nat.pow_le_pow_right (by omega) d2
   omega
  refine zq134_loop4 (Inv := fun q t5 H' => ∃ m : Nat, n ≤ m ∧ m ≤ n + ds.length ∧ q = n + ds.length - m ∧ t5 = .int .i64 (fold10 (ds.take (m - n)) : Nat) ∧ H' = H.set id (r6B data s ⟨m, l, b⟩)) ds.length ?_ ?_
  ·intro _; exact ⟨n, by omega, by omega, by omega, by simp [fold10], rfl⟩
  ·rintro q t5 H' ⟨m, hm1, hm2, rfl, rfl, rfl⟩ hsc hlen hsF Kb hKb
   have hX0 : (H.set id (r6B data s ⟨m, l, b⟩))[id]? = some (.cells [.sl (data.map Dat.cs) .none, .str s, .int .i64 m, .bool b, .int .i64 l]) := by simp [hl1, r6B]
   have wm : IntKind.i64.wrap ((m : Int) - n) = m - n := wrap_in (by omega) (by omega)
   by_cases hlt : m < n + ds.length
   ·obtain ⟨hms, hat⟩ := d3 (m - n) (by omega)
    have hmn : n + (m - n) = m := by omega
    simp only [hmn] at hms hat
    have hdg := dig_iff.1 (d1 _ (List.getElem_mem (show m - n < ds.length by omega)))
    rw [← hat] at hdg
    have c1 : (48 : Int) ≤ (s[m].toNat : Int) := by omega
    have c2 : (s[m].toNat : Int) ≤ 57 := by omega
    have c3 : (m : Int) - n < 14 := by omega
    have hftake : fold10 (ds.take (m - n + 1)) = fold10 (ds.take (m - n)) * 10 + (s[m].toNat - 48) := by
     rw [List.take_succ_eq_append_getElem (show m - n < ds.length by omega), fold10_snoc, ← hat]
    have hb1 : fold10 (ds.take (m - n + 1)) < 100000000000000 := by
     have h1 := fold10_lt (ds.take (m - n + 1)).length (ds.take (m - n + 1)) rfl (fun b hb => d1 b (List.mem_of_mem_take hb))
     have h2 : 10 ^ (ds.take (m - n + 1)).length ≤ 10 ^ 14 := Nat.pow_le_pow_right (by omega) (by rw [List.length_take]; omega)
     omega
    generalize hA : fold10 (ds.take (m - n)) = A at *
    have w2 : IntKind.u8.wrap ((s[m].toNat : Int) - 48) = (s[m].toNat : Int) - 48 := by
     have : ∀ k : Nat, k < 10 → IntKind.u8.wrap (k : Int) = k := by decide
     have h3 := this (s[m].toNat - 48) (by omega)
     rw [show ((s[m].toNat - 48 : Nat) : Int) = (s[m].toNat : Int) - 48 by omega] at h3
     exact h3
    have w3 : IntKind.i64.wrap ((s[m].toNat : Int) - 48) = (s[m].toNat : Int) - 48 := wrap_in (by omega) (by omega)
    have w4 : IntKind.i64.wrap ((A : Int) * 10) = (A : Int) * 10 := wrap_in (by omega) (by omega)
    have w5 : IntKind.i64.wrap ((A : Int) * 10 + ((s[m].toNat : Int) - 48)) = ((A * 10 + (s[m].toNat - 48) : Nat) : Int) := by rw [wrap_in (by omega) (by omega)]; omega
    have w6 : IntKind.i64.wrap ((m : Int) + 1) = ((m + 1 : Nat) : Int) := by rw [wrap_in (by omega) (by omega)]; omega
    have e5 : ((A : Int) * 10 + ((s[m].toNat - 48 : Nat) : Int)) = ((fold10 (ds.take (m + 1 - n)) : Nat) : Int) := by
     rw [show m + 1 - n = m - n + 1 by omega, hftake]
     omega
    simp [zq134_b4, hX0, hms, c1, c2, wm, c3, w2, w3, w4, w5, w6, aConv, aBin, binOf]
    rw [e5]
    refine hKb _ _ ⟨n + ds.length - (m + 1), by omega, Back.here (H := H.set id (r6B data s ⟨m + 1, l, b⟩)) (by simp) (hs.set (r6B_sc _ _ _ _)) ?_ ⟨_, rfl, m + 1, by omega, by omega, rfl, rfl, rfl⟩⟩
    simp [zq134_fr4, AV.sc, AV.scV, AV.scA, AV.scB]
    try omega
   ·have hme : m = n + ds.length := by omega
    have htk : ds.take (m - n) = ds := List.take_of_length_le (by omega)
    rw [htk]
    rw [← hme] at hnmb hdl d4
    have hj2 : ∀ bb, bb = (b || decide (ds = [] ∨ (ds.head? = some 48 ∧ (1 < ds.length ∨ neg = true)) ∨ 1099511627776 < fold10 ds)) → zq134_j2 (.bool neg) (.int .i64 (fold10 ds : Nat)) (H.set id (r6B data s ⟨m, l, bb⟩)) (Out H.length K) := by
     intro bb hbb
     rw [← hbb] at hnmb
     have hw : IntKind.i64.wrap (-(fold10 ds : Int)) = -(fold10 ds : Int) := wrap_in (by omega) (by omega)
     have hfin2 : Out H.length K (.int .i64 (if neg = true then -(fold10 ds : Int) else fold10 ds)) (H.set id (r6B data s ⟨m, l, bb⟩)) := by
      have := hfin (H.set id (r6B data s ⟨m, l, bb⟩)) (by rw [hnmb])
      rw [hnmb] at this
      exact this
     cases neg with
     | true => simpa [zq134_j2, aUn, hw] using hfin2
     | false => simpa [zq134_j2] using hfin2
    have wm1 : IntKind.i64.wrap ((n : Int) + 1) = ((n + 1 : Nat) : Int) := by rw [wrap_in (by omega) (by omega)]; omega
    have eB : ∀ bb, AB.cells [AV.sl (List.map Dat.cs data) Tok.none, AV.str s, AV.int IntKind.i64 ((m : Nat) : Int), AV.bool bb, AV.int IntKind.i64 l] = r6B data s ⟨m, l, bb⟩ := fun _ => rfl
    have hexit : (¬ m < s.length) ∨ (∃ h : m < s.length, decide (48 ≤ (s[m].toNat : Int)) = false) ∨ (∃ h : m < s.length, decide (48 ≤ (s[m].toNat : Int)) = true ∧ decide ((s[m].toNat : Int) ≤ 57) = false) ∨
      (∃ h : m < s.length, decide (48 ≤ (s[m].toNat : Int)) = true ∧ decide ((s[m].toNat : Int) ≤ 57) = true ∧ decide ((m : Int) - n < 14) = false) := by
     by_cases h : m < s.length
     ·refine .inr ?_
      cases c1 : decide (48 ≤ (s[m].toNat : Int)) with
      | false => exact .inl ⟨h, c1⟩
      | true =>
       refine .inr ?_
       cases c2 : decide ((s[m].toNat : Int) ≤ 57) with
       | false => exact .inl ⟨h, c1, c2⟩
       | true =>
        refine .inr ⟨h, c1, c2, ?_⟩
        by_cases h14 : ds.length < 14
        ·have h4 := d4 h14
         have e1 := of_decide_eq_true c1
         have e2 := of_decide_eq_true c2
         have h5 : bDig s[m] = true := dig_iff.2 ⟨by omega, by omega⟩
         have h6 : bDig s[m] = false := h4 h
         rw [h5] at h6
         cases h6
        ·exact decide_eq_false (by omega)
     ·exact .inl h
    have hnz : ds ≠ [] → ∃ h : n < s.length, ((m : Int) == n) = false ∧ decide (ds = [] ∨ (ds.head? = some 48 ∧ (1 < ds.length ∨ neg = true)) ∨ 1099511627776 < fold10 ds) = ((((s[n].toNat : Int) == 48) && (decide ((n : Int) + 1 < m) || neg)) || decide (1099511627776 < (fold10 ds : Int))) := by
     intro hz
     have hp : 0 < ds.length := List.length_pos_iff.2 hz
     obtain ⟨h1, h2⟩ := d3 0 hp
     simp only [Nat.add_zero] at h1 h2
     refine ⟨h1, by simp; omega, ?_⟩
     have e1 : (ds.head? = some 48) ↔ ((s[n].toNat : Int) == 48) = true := by
      rw [List.head?_eq_getElem?, List.getElem?_eq_getElem hp, h2]
      simp only [Option.some.injEq, beq_iff_eq]
      constructor
      ·intro h; rw [h]; rfl
      ·intro h
       refine UInt8.toNat_inj.1 ?_
       have : ds[0].toNat = 48 := by omega
       rw [this]
       rfl
     have e2 : (1 < ds.length) ↔ decide ((n : Int) + 1 < m) = true := by rw [decide_eq_true_iff]; omega
     have e3 : (1099511627776 < fold10 ds) ↔ decide (1099511627776 < (fold10 ds : Int)) = true := by rw [decide_eq_true_iff]; omega
     rw [Bool.eq_iff_iff]
     simp only [decide_eq_true_iff, Bool.or_eq_true, Bool.and_eq_true, ← e1, hz, false_or]
     have e2' : (1 < ds.length) ↔ ((n : Int) + 1 < m) := by omega
     have e3' : (1099511627776 < fold10 ds) ↔ (1099511627776 < (fold10 ds : Int)) := by omega
     rw [e2', e3']
    rcases hexit with hge | ⟨hlt2, c1⟩ | ⟨hlt2, c1, c2⟩ | ⟨hlt2, c1, c2, c3⟩
    case' inl => simp [zq134_b4, hX0, hge]
    case' inr.inl => simp [zq134_b4, hX0, hlt2, c1]
    case' inr.inr.inl => simp [zq134_b4, hX0, hlt2, c1, c2]
    case' inr.inr.inr => simp [zq134_b4, hX0, hlt2, c1, c2, wm, c3]
    all_goals
     by_cases hz : ds = []
     ·have hmn : ((m : Int) == n) = true := by simp [hz] at hme; simp [hme]
      simp [hmn, hX0, AV.known]
      exact hj2 true (by simp [hz])
     ·obtain ⟨hns, hmn, hc⟩ := hnz hz
      rw [hc] at hj2
      cases e48 : ((s[n].toNat : Int) == 48) with
      | false =>
       rw [e48] at hj2
       cases eD : decide (1099511627776 < (fold10 ds : Int)) with
       | false =>
        rw [eD] at hj2
        simp [hmn, hX0, hns, e48, eD, AV.known]
        exact hj2 b (by simp)
       | true =>
        rw [eD] at hj2
        simp [hmn, hX0, hns, e48, eD, AV.known]
        exact hj2 true (by simp)
      | true =>
       rw [e48] at hj2
       cases e1 : decide ((n : Int) + 1 < m) with
       | true =>
        rw [e1] at hj2
        simp [hmn, hX0, hns, e48, wm1, e1, AV.known]
        exact hj2 true (by simp)
       | false =>
        rw [e1] at hj2
        cases neg with
        | true =>
         simp [hmn, hX0, hns, e48, wm1, e1, AV.known]
         exact hj2 true (by simp)
        | false =>
         cases eD : decide (1099511627776 < (fold10 ds : Int)) with
         | false =>
          rw [eD] at hj2
          simp [hmn, hX0, hns, e48, wm1, e1, eD, AV.known]
          exact hj2 b (by simp)
         | true =>
          rw [eD] at hj2
          simp [hmn, hX0, hns, e48, wm1, e1, eD, AV.known]
          exact hj2 true (by simp)
 refine r6_take [45] s st hn hs1 (by simp) hid _ (fun st' ht => ?_) fun ht => ?_
 ·have h1 := (tk_mon ht).2.1 hn
  have hX0 : (H.set id (r6B data s st'))[id]? = some (.cells [.sl (data.map Dat.cs) .none, .str s, .int .i64 st'.n, .bool st'.b, .int .i64 st'.l]) := by simp [hl1, r6B]
  simp [hX0]
  refine zq134_j1_ok fun _ => ?_
  unfold zq134_j1b
  exact hmain true st' (by rw [ht]; rfl) (by rw [ht]; rfl) h1
 ·have hX0 : H[id]? = some (.cells [.sl (data.map Dat.cs) .none, .str s, .int .i64 st.n, .bool st.b, .int .i64 st.l]) := hid
  simp [hX0]
  refine zq134_j1_ok fun _ => ?_
  unfold zq134_j1b
  have h := hmain false st (by rw [ht]; rfl) (by rw [ht]; rfl) hn
  rwa [set_same hid] at h
end Go.Proofs.YtfpmdpldabopjaaGreatDoor
namespace Go.Proofs.YtfpmdpldabopjaaGreatDoor
open Go Go.Abs
set_option maxRecDepth 8000
def RdX (data : List Dat) (s : List UInt8) (f : Nat) : Prop := ∀ t : VT, tyValid data 0 t = true → ∀ (H : Heap) (id : Nat) (st : S10), st.n ≤ s.length → (st.b = false → s.length - st.n < f) → H[id]? = some (r6B data s st) →
 ∀ K : Kt, K (.agg (rf data s f t st).1.cs) (H.set id (r6B data s (rf data s f t st).2)) → ACalls Tryz.prog n_zq72 [.ptr id 0, .agg t.cs] H K
theorem vls_cons {s : List UInt8} {rd : VT → S10 → VT × S10} {t : VT} {ts : List VT} {first : Bool} {st : S10} (h : ¬ st.b = true) : vls s rd (t :: ts) first st =
  ((rd t (if first = true then st else nd s [44, 32] st)).1 :: (vls s rd ts false (rd t (if first = true then st else nd s [44, 32] st)).2).1, (vls s rd ts false (rd t (if first = true then st else nd s [44, 32] st)).2).2) := by
 rw [vls, if_neg h]
theorem vcss_snoc (vs : List VT) (v : VT) : VT.css (vs ++ [v]) = VT.css vs ++ [v.cs] := by
 rw [VT.css_map, VT.css_map]; simp
theorem r6_values {data : List Dat} {s : List UInt8} {f : Nat} (hel : RdX data s f) (hs1 : s.length ≤ 1000000000) (ts : List VT) (htl : ts.length ≤ 1000000) (htv : ∀ t ∈ ts, tyValid data 0 t = true) (H : Heap) (id : Nat) (st : S10) (hn : st.n ≤ s.length) (hf : st.b = false → s.length - st.n < f)
  (hid : H[id]? = some (r6B data s st)) (K : Kt) (hK : K (.sl (VT.css (vls s (rf data s f) ts true st).1) .none) (H.set id (r6B data s (vls s (rf data s f) ts true st).2))) :
  ACalls Tryz.prog n_zq135 [.ptr id 0, .sl (VT.css ts) .none] H K := by
 refine ACalls.out (zq135_ok fun hs => ?_)
 have hl1 := lt_get hid
 have hM := rf_mon data s f
 unfold zq135
 unfold zq135_l3
 refine ALoop.own 5 e_api_Value 3 rfl ?_
 show zq135_l3 (.ptr id 0) (.sl (VT.css ts) .none) (.sl [] (.own H.length)) (.int .i64 0) _ (Out H.length K)
 have hsc1 : ∀ st, HSc (H.set id (r6B data s st)) := fun st => hs.set (r6B_sc _ _ _ _)
 have hX0 : ∀ st (J : Heap), (H.set id (r6B data s st) ++ J)[id]? = some (r6B data s st) := fun st J => by simp [List.getElem?_append, hl1]
 have hX0' : ∀ st (J : Heap), (H.set id (r6B data s st) ++ J)[id]? = some (.cells [.sl (data.map Dat.cs) .none, .str s, .int .i64 st.n, .bool st.b, .int .i64 st.l]) := hX0
 have hO : ∀ (vs : List VT) st', vls s (rf data s f) ts true st = (vs, st') → ∀ J, Out H.length K (.sl (VT.css vs) (.own H.length)) (H.set id (r6B data s st') ++ J) := fun vs st' h J => by
  rw [h] at hK
  exact Out.at rfl (by simp) (hsc1 _) (slV (n := 0)).1 rfl rfl hK
 refine zq135_loop3 (Inv := fun q t5 t6 H' => ∃ (i : Nat) (vs : List VT) (st2 : S10), i ≤ ts.length ∧ vs.length = i ∧ q = ts.length - i ∧ t6 = .int .i64 i ∧ t5 = .sl (VT.css vs) (.own H.length) ∧ Mon s st st2 ∧
  vls s (rf data s f) ts true st = (vs ++ (vls s (rf data s f) (ts.drop i) (i == 0) st2).1, (vls s (rf data s f) (ts.drop i) (i == 0) st2).2) ∧ H' = H.set id (r6B data s st2) ++ [.perm e_api_Value 3 i]) ts.length ?_ ?_
 ·intro _
  exact ⟨0, [], st, by omega, rfl, by omega, rfl, rfl, Mon.rfl', by simp, by rw [set_same hid]⟩
 ·rintro q t5 t6 H' ⟨i, vs, st2, hi, hvl, rfl, rfl, rfl, hmon, hpr, rfl⟩ hsc' hlen' hsF Kb hKb
  have hcl : (VT.css vs).length = i := by rw [VT.css_map]; simpa using hvl
  have hn2 := hmon.2.1 hn
  cases hb : st2.b with
  | true =>
   have hend := hO vs st2 (by
    rw [hpr]
    cases hdr : ts.drop i with
    | nil => simp [vls]
    | cons t l => simp [vls, hb]) [.perm e_api_Value 3 i]
   by_cases hlt : i < ts.length
   ·simp [zq135_b3, hlt, hX0', hb]
    exact hend
   ·simp [zq135_b3, hlt, hX0', hb]
    exact hend
  | false =>
   by_cases hlt : i < ts.length
   ·have hti := htv _ (List.getElem_mem hlt)
    rw [List.drop_eq_getElem_cons hlt] at hpr
    have hbf : ¬ st2.b = true := by rw [hb]; simp
    rw [vls_cons hbf] at hpr
    simp only at hpr
    have hnext : ∀ st3, st3 = (if (i == 0) = true then st2 else nd s [44, 32] st2) →
      zq135_j1 (.ptr id 0) (.sl (VT.css ts) .none) (.sl (VT.css vs) (.own H.length)) (.int .i64 i) (H.set id (r6B data s st3) ++ [.perm e_api_Value 3 i]) (Out H.length K) Kb := by
     intro st3 h3
     have hm3 : Mon s st2 st3 := by
      subst h3
      split
      ·exact Mon.rfl'
      ·exact nd_mon _ _ _
     rw [← h3] at hpr
     have hm4 := hM ts[i] st3
     simp [zq135_j1, hlt]
     refine hel ts[i] hti _ id st3 (hm3.2.1 hn2) (fun h => by
      have h5 := bfalse (hmon.trans hm3) h
      have h6 := hf h5
      have h7 := (hmon.trans hm3).1
      omega) (hX0 _ _) _ ?_
     rw [buildS_vt, List.set_append_left _ _ (by simpa using hl1), List.set_set]
     have hc2 : ∀ v : VT, v.cs.length = 3 := fun v => by obtain ⟨k, n, ks⟩ := v; rfl
     simp [aAppend, aSrc, aAppTo, hcl, hc2, List.set_append_right, List.set_append]
     refine ⟨by omega, ?_⟩
     rw [wrap_in (by omega) (by omega)]
     refine hKb _ _ ⟨ts.length - (i + 1), by omega, Back.at (J := []) (H2 := H.set id (r6B data s (rf data s f ts[i] st3).2) ++ [.perm e_api_Value 3 (i + 1)]) (by simp) (by simp) ((hsc1 _).append (by simp [AB.sc, AV.scA, AV.scB])) ?_ ⟨_, _, rfl, i + 1, vs ++ [(rf data s f ts[i] st3).1], (rf data s f ts[i] st3).2, by omega, by simp [hvl], rfl, by simp, by rw [vcss_snoc], (hmon.trans hm3).trans hm4, ?_, rfl⟩⟩
     ·simp [zq135_fr3, AV.sc, AV.scV, AV.scA, AV.scB]
      try omega
     ·have e0 : (i + 1 == 0) = false := by simp
      rw [e0, hpr]
      simp
    by_cases h0 : i = 0
    ·have h1 : ¬ (0 : Int) < i := by omega
     simp [zq135_b3, hlt, hX0', h1, show ¬ 0 < i by omega, hb]
     exact hnext st2 (by simp [h0])
    ·have h1 : (0 : Int) < i := by omega
     have hz : (i == 0) = false := by simpa using h0
     simp [zq135_b3, hlt, hX0', h1, show 0 < i by omega, hb]
     refine r6_need [44, 32] s st2 hn2 hs1 (by simp) (hX0 _ _) _ ?_
     rw [List.set_append_left _ _ (by simpa using hl1), List.set_set]
     exact hnext _ (by simp [hz])
   ·obtain rfl : i = ts.length := by omega
    simp [zq135_b3]
    refine hO vs st2 ?_ _
    rw [hpr, List.drop_length, vls]
    simp
theorem drop_while_eq2 (g : UInt8 → Bool) (s : List UInt8) : s.dropWhile g = s.drop (s.takeWhile g).length := by
 have h : s.takeWhile g ++ s.dropWhile g = s := List.takeWhile_append_dropWhile
 have h2 : (s.takeWhile g ++ s.dropWhile g).drop (s.takeWhile g).length = s.dropWhile g := List.drop_left
 rw [← h2]
 exact congrArg (List.drop (s.takeWhile g).length) h
theorem fields_len1 {data : List Dat} (hk : KData data) {t : VT} {c : Int} {ps : List VT} (hf : fields data t c = some ps) : ps.length ≤ 1000000 := by
 obtain ⟨k, n, ks⟩ := t
 obtain ⟨_, n0, c0, hn, hc, _, hl, _⟩ := fields_some hf
 have h2 := ((kd_fields hk).2.1 _ (List.getElem_mem hn) _ (List.getElem_mem hc)).1
 rw [hl, List.length_map]
 omega
theorem r6_con {data : List Dat} (hk : KData data) (hD : dataOk data = true) {s : List UInt8} {f : Nat} (hel : RdX data s f) (hs1 : s.length ≤ 1000000000) (tn : Int) (tks : List VT) (htv : tyValid data 0 (.mk 5 tn tks) = true) (H : Heap) (hs : HSc H) (id : Nat) (hl1 : id < H.length) (n : Nat) (l : Int) (hn : n ≤ s.length)
  (hf : s.length - n < f + 1) (K : Kt) (hK : K (.agg (con10 data s (rf data s f) (.mk 5 tn tks) ⟨n, l, false⟩).1.cs) (H.set id (r6B data s (con10 data s (rf data s f) (.mk 5 tn tks) ⟨n, l, false⟩).2))) :
  zq72_l24 (.ptr id 0) (.ptr H.length 0) (.ptr (H.length + 1) 0) (.int .i64 n) (H.set id (r6B data s ⟨n, l, false⟩) ++ [.cells [.int .i64 5, .int .i64 tn, .sl (VT.css tks) .none], .cells [.int .i64 0, .int .i64 0, .snil]]) (Out H.length K) := by
 have hT' : (VT.mk 5 tn tks).cs = [.int .i64 5, .int .i64 tn, .sl (VT.css tks) .none] := rfl
 have htn : (VT.mk 5 tn tks).nodes ≤ 1000 := tyValid_nodes htv
 have hsc1 : ∀ st, HSc (H.set id (r6B data s st)) := fun st => hs.set (r6B_sc _ _ _ _)
 have hX0 : ∀ st (J : Heap), (H.set id (r6B data s st) ++ J)[id]? = some (r6B data s st) := fun st J => by simp [List.getElem?_append, hl1]
 have hX0' : ∀ st (J : Heap), (H.set id (r6B data s st) ++ J)[id]? = some (.cells [.sl (data.map Dat.cs) .none, .str s, .int .i64 st.n, .bool st.b, .int .i64 st.l]) := hX0
 have hsetX : ∀ st x (J : Heap), (H.set id (r6B data s st) ++ J).set id x = H.set id x ++ J := fun st x J => by rw [List.set_append_left _ _ (by simpa using hl1), List.set_set]
 have hO : ∀ (a b : Int) (vs : List VT) st' (t : Tok), K (.agg (VT.mk a b vs).cs) (H.set id (r6B data s st')) → ∀ J, Out H.length K (.agg [.int .i64 a, .int .i64 b, .sl (VT.css vs) t]) (H.set id (r6B data s st') ++ J) := fun a b vs st' t h J =>
  Out.at (H2 := H.set id (r6B data s st')) (b := .agg [.int .i64 a, .int .i64 b, .sl (VT.css vs) .none]) rfl (by simp) (hsc1 _) (.agg ⟨.refl _, .refl _, .sl _ _, trivial⟩) rfl (by simp [AV.scV, AV.scA, AV.scB]) (by simpa [VT.cs] using h)
 have hO0 : ∀ (a b : Int) st', K (.agg (VT.mk a b []).cs) (H.set id (r6B data s st')) → ∀ J, Out H.length K (.agg [.int .i64 a, .int .i64 b, .snil]) (H.set id (r6B data s st') ++ J) := fun a b st' h J =>
  Out.at (H2 := H.set id (r6B data s st')) (b := .agg [.int .i64 a, .int .i64 b, .sl (VT.css []) .none]) rfl (by simp) (hsc1 _) (.agg ⟨.refl _, .refl _, .snil, trivial⟩) rfl (by simp [AV.scV, AV.scA, AV.scB]) (by simpa [VT.cs] using h)
 unfold con10 at hK
 simp only [VT.num] at hK
 generalize hw : (s.drop n).takeWhile bIn = w at *
 obtain ⟨e, he⟩ : ∃ e, e = n + w.length := ⟨_, rfl⟩
 rw [← he] at hK
 have hdw : (s.drop n).dropWhile bIn = s.drop e := by rw [drop_while_eq2, hw, List.drop_drop, he]
 have hwd : s.drop n = w ++ s.drop e := by
  have := List.takeWhile_append_dropWhile (p := bIn) (l := s.drop n)
  rw [hw, hdw] at this
  exact this.symm
 have hwl : e ≤ s.length := by
  have := while_le bIn s n hn
  rw [hw] at this
  omega
 have hwin : ∀ b ∈ w, bIn b = true := fun b hb => by rw [← hw] at hb; exact List.all_eq_true.1 List.all_takeWhile b hb
 have hwat : ∀ m, n ≤ m → m < e → ∃ h : m < s.length, bIn s[m] = true := fun m h1 h2 => by
  have hj : m - n < w.length := by omega
  have h3 : (s.drop n)[m - n]? = some w[m - n] := by rw [hwd, List.getElem?_append_left hj, List.getElem?_eq_getElem hj]
  rw [List.getElem?_drop, show n + (m - n) = m by omega] at h3
  obtain ⟨h4, h5⟩ := List.getElem?_eq_some_iff.1 h3
  exact ⟨h4, by rw [h5]; exact hwin _ (List.getElem_mem hj)⟩
 have hstop : e = s.length ∨ ∃ h : e < s.length, bIn s[e] = false := by
  by_cases h : e < s.length
  ·refine .inr ⟨h, ?_⟩
   have h2 := (take_drop_while bIn (s.drop n)).2 s[e]
   rw [hdw] at h2
   exact h2 (by rw [List.head?_drop, List.getElem?_eq_getElem h])
  ·exact .inl (by omega)
 have hcutw : (s.take e).drop n = w := by
  rw [List.drop_take, hwd, he]
  simp
 have hne : n ≤ e := by omega
 refine zq72_loop24 (Inv := fun q H' => ∃ m : Nat, n ≤ m ∧ m ≤ e ∧ q = e - m ∧
  H' = H.set id (r6B data s ⟨m, l, false⟩) ++ [AB.cells [.int .i64 5, .int .i64 tn, .sl (VT.css tks) .none], .cells [.int .i64 0, .int .i64 0, .snil]]) w.length ?_ ?_
 ·intro _; exact ⟨n, by omega, by omega, by omega, rfl⟩
 ·rintro q H' ⟨m, hm1, hm2, rfl, rfl⟩ hsc2 hlen2 hsF2 Kb2 hKb2
  by_cases hjl : m < e
  ·obtain ⟨hlt, hin⟩ := hwat m hm1 hjl
   simp [zq72_b24, hX0', hlt]
   refine aPureX_call (.bool (bIn s[m])) (fun J => r6_letter _ _ _ ⟨rfl, rfl⟩) ?_
   rw [hin]
   simp [hX0']
   rw [hsetX, wrap_in (by omega) (by omega)]
   refine hKb2 _ _ ⟨e - (m + 1), by omega, Back.here (H := H.set id (r6B data s ⟨m + 1, l, false⟩) ++ [AB.cells [.int .i64 5, .int .i64 tn, .sl (VT.css tks) .none], .cells [.int .i64 0, .int .i64 0, .snil]]) (by simp) ((hsc1 _).append (by simp [AB.sc, AV.scA, AV.scB])) ?_ ⟨rfl, m + 1, by omega, by omega, rfl, rfl⟩⟩
   simp [zq72_fr24, AV.sc, AV.scV, AV.scA, AV.scB]
   try omega
  ·obtain rfl : m = e := by omega
   rcases hstop with hst | ⟨hlt, hst⟩
   case' inl =>
    have hge : ¬ m < s.length := by omega
    simp [zq72_b24, hX0', hge, aSlice, aBound, AV.known, hne, hwl, hcutw]
   case' inr =>
    simp [zq72_b24, hX0', hlt]
    refine aPureX_call (.bool (bIn s[m])) (fun J => r6_letter _ _ _ ⟨rfl, rfl⟩) ?_
    rw [hst]
    simp [hX0', aSlice, aBound, AV.known, hne, hwl, hcutw]
   all_goals
    refine aPureX_call (conR data w) (fun J => zq124_spec data (kd_fields hk).1 (kd_fields hk).2.2 w _ _ ⟨rfl, rfl⟩) ?_
    unfold conR
    cases hcon : conAt data 0 w with
    | none =>
     have hl : lookG data tn (fields data (.mk 5 tn tks)) w = none := by unfold lookG; rw [hcon]
     rw [hl] at hK
     simp [hX0', AV.known, aBuild, fillA, List.getElem?_append, List.set_append, hl1]
     exact hO0 0 0 ⟨m, l, true⟩ hK _
    | some dc =>
     obtain ⟨d, c⟩ := dc
     have hlk : lookG data tn (fields data (.mk 5 tn tks)) w = if (d : Int) = tn then (fields data (.mk 5 tn tks) (c : Int)).map fun ps => ((c : Int), ps) else none := by unfold lookG; rw [hcon]
     by_cases hd : (d : Int) = tn
     ·rw [if_pos hd] at hlk
      have hd' : ((d : Int) != tn) = false := by simpa using hd
      simp [hX0', AV.known, List.getElem?_append, hl1, hd, hd']
      rw [← hT']
      refine aPureX_call (fieldsR (fields data (.mk 5 tn tks) c)) (fun J => zq96_spec data (kd_fields hk).1 (kd_fields hk).2.1 (kd_fields hk).2.2 (.mk 5 tn tks) htn c _ _ ⟨rfl, rfl⟩) ?_
      cases hp : fields data (.mk 5 tn tks) (c : Int) with
      | none =>
       rw [hp] at hlk
       rw [hlk] at hK
       simp [fieldsR, hX0', AV.known, aBuild, fillA, List.getElem?_append, List.set_append, hl1, hT']
       exact hO0 0 0 ⟨m, l, true⟩ hK _
      | some ps =>
       rw [hp] at hlk
       rw [hlk] at hK
       simp only [Option.map_some] at hK
       simp [fieldsR, hX0', AV.known, List.getElem?_append, hl1, aBuild, fillA, hT']
       have hpv : ∀ x ∈ ps, tyValid data 0 x = true := fun x hx => fields_valid hD (tyValid_ok htv) hp x hx
       have hpl : ps.length ≤ 1000000 := fields_len1 hk hp
       by_cases hz : ps.length = 0
       ·have hz' : ¬ 0 < ps.length := by omega
        rw [if_pos hz] at hK
        simp [hz', zq72_j5, AV.known, List.getElem?_append, List.set_append, hl1]
        exact hO0 5 c ⟨m, l, false⟩ hK _
       ·have hz' : 0 < ps.length := by omega
        rw [if_neg hz] at hK
        unfold par at hK
        simp only at hK
        simp [hz']
        refine r6_need [40] s ⟨m, l, false⟩ hwl hs1 (by simp) (hX0 _ _) _ ?_
        rw [hsetX]
        have hm0 := nd_mon s [40] ⟨m, l, false⟩
        refine r6_values hel hs1 ps hpl hpv _ id (nd s [40] ⟨m, l, false⟩) (hm0.2.1 hwl) (fun h => by
         obtain ⟨_, g2, g3⟩ := nd_ok h
         have g4 := drop_le hwl g3
         rw [g2]
         simp only [List.length_cons, List.length_nil] at g4 ⊢
         omega) (hX0 _ _) _ ?_
        have hm1 := vls_mon (rf_mon data s f) ps true (nd s [40] ⟨m, l, false⟩)
        rw [hsetX]
        simp [List.getElem?_append, List.set_append, AV.known]
        refine r6_need [41] s (vls s (rf data s f) ps true (nd s [40] ⟨m, l, false⟩)).2 (hm1.2.1 (hm0.2.1 hwl)) hs1 (by simp) (hX0 _ _) _ ?_
        rw [hsetX]
        simp [zq72_j5, AV.known, List.getElem?_append, List.set_append, hl1]
        exact hO 5 c _ _ .none hK _
     ·rw [if_neg hd] at hlk
      rw [hlk] at hK
      have hd' : ((d : Int) != tn) = true := by simpa using hd
      simp [hX0', AV.known, aBuild, fillA, List.getElem?_append, List.set_append, hl1, hd, hd']
      exact hO0 0 0 ⟨m, l, true⟩ hK _
theorem tk_end {s : List UInt8} {p : List UInt8} {st : S10} (hp : 1 ≤ p.length) (hn : s.length - st.n ≤ 0) : tk s p st = none := by
 refine tk_not fun h => ?_
 have h1 : s.drop st.n = [] := by simp; omega
 have h2 := h.length_le
 rw [h1, List.length_nil] at h2
 omega
theorem r6_arr {data : List Dat} (hk : KData data) (hD : dataOk data = true) {s : List UInt8} {f : Nat} (hel : RdX data s f) (hs1 : s.length ≤ 1000000000) (tn : Int) (tks : List VT) (htv : tyValid data 0 (.mk 7 tn tks) = true) (t35 t54 t67 t163 t175 : AV) (H : Heap) (hs : HSc H) (id : Nat) (hl1 : id < H.length) (st1 : S10) (hn : st1.n ≤ s.length)
  (hf : ∀ stx, Mon s st1 stx → stx.b = false → s.length - stx.n < f) (K : Kt)
  (hK : K (.agg (VT.mk 6 0 ((rf data s f (tks.getD 0 (.mk 0 0 [])) st1).1 :: (arr s (rf data s f (tks.getD 0 (.mk 0 0 []))) s.length (rf data s f (tks.getD 0 (.mk 0 0 [])) st1).2).1)).cs) (H.set id (r6B data s (arr s (rf data s f (tks.getD 0 (.mk 0 0 []))) s.length (rf data s f (tks.getD 0 (.mk 0 0 [])) st1).2).2))) (t176 t178 t180 : AV) :
  Go.Abs.runT Tryz.prog zq72_o50 (fun F H' => ALoop Tryz.prog zq72_c51 (zq72_Q51 (Out H.length K)) (mask zq72_m51 F) H') 12 (tailL 0 12)
   (.ptr id 0 :: ux 2 (.ptr H.length 0 :: .ptr (H.length + 1) 0 :: ux 8 (.ptr (H.length + 2) 0 :: ux 21 (t35 :: ux 18 (t54 :: ux 11 (t67 :: t67 :: ux 94 (t163 :: t163 :: ux 10 (t175 :: t175 :: t176 :: .ptr id 0 :: t178 :: .ptr id 0 :: t180 :: ux 33 [])))))))) 
   (H.set id (r6B data s st1) ++ [.cells [.int .i64 7, .int .i64 tn, .sl (VT.css tks) .none], .cells [.int .i64 0, .int .i64 0, .snil], .cells [.int .i64 6, .int .i64 0, .snil]]) := by
 have hX0 : ∀ st (J : Heap), (H.set id (r6B data s st) ++ J)[id]? = some (r6B data s st) := fun st J => by simp [List.getElem?_append, hl1]
 have hX0' : ∀ st (J : Heap), (H.set id (r6B data s st) ++ J)[id]? = some (.cells [.sl (data.map Dat.cs) .none, .str s, .int .i64 st.n, .bool st.b, .int .i64 st.l]) := hX0
 have hsetX : ∀ st x (J : Heap), (H.set id (r6B data s st) ++ J).set id x = H.set id x ++ J := fun st x J => by rw [List.set_append_left _ _ (by simpa using hl1), List.set_set]
 have hsc1 : ∀ st, HSc (H.set id (r6B data s st)) := fun st => hs.set (r6B_sc _ _ _ _)
 have hM := rf_mon data s f
 have hlen1 : tks.length = 1 := by
  rcases ty_kinds (tyValid_ok htv) with h | h | h | h | h | h | h | h <;> first | omega | (obtain ⟨h, _⟩ := h; omega)
 obtain ⟨t0, rfl⟩ : ∃ t0, tks = [t0] := by
  match tks, hlen1 with
  | [t0], _ => exact ⟨t0, rfl⟩
 have ht0 : tyValid data 0 t0 = true := tyValid_kids htv t0 (by simp)
 have hc3 : ∀ v : VT, v.cs.length = 3 := fun v => by obtain ⟨k, n, ks⟩ := v; rfl
 have htk3 : ∀ v : VT, List.take 3 v.cs = v.cs := fun v => List.take_of_length_le (by rw [hc3]; omega)
 have hcss : VT.css [t0] = [t0.cs] := rfl
 have hg0 : [t0].getD 0 (VT.mk 0 0 []) = t0 := rfl
 rw [hg0] at hK
 generalize hR : rf data s f t0 = R at *
 have hMR : ∀ st, Mon s st (R st).2 := fun st => by rw [← hR]; exact hM t0 st
 have hcall : ∀ stx (J : Heap) (K' : Kt), Mon s st1 stx → K' (.agg (R stx).1.cs) (H.set id (r6B data s (R stx).2) ++ J) → ACalls Tryz.prog n_zq72 [.ptr id 0, .agg t0.cs] (H.set id (r6B data s stx) ++ J) K' := by
  intro stx J K' hm hK'
  refine hel t0 ht0 _ id stx (hm.2.1 hn) (fun h => hf stx hm h) (hX0 _ _) K' ?_
  rw [hsetX, hR]
  exact hK'
 have hloop : zq72_l51 (.ptr id 0) (.ptr H.length 0) (.ptr (H.length + 1) 0) (.ptr (H.length + 2) 0) (H.set id (r6B data s (R st1).2) ++ [.cells [.int .i64 7, .int .i64 tn, .sl (VT.css [t0]) .none], .cells [.int .i64 0, .int .i64 0, .snil], .cells [.int .i64 6, .int .i64 0, .sl [(R st1).1.cs] (.own (H.length + 3))], .perm e_api_Value 3 1]) (Out H.length K) := by
  refine zq72_loop51 (Inv := fun q H' => ∃ (k : Nat) (vs : List VT) (st2 : S10), q = k ∧ vs.length + k = s.length + 1 ∧ Mon s st1 st2 ∧ s.length - st2.n ≤ k ∧ ((R st1).1 :: (arr s R s.length (R st1).2).1) = vs ++ (arr s R k st2).1 ∧ (arr s R s.length (R st1).2).2 = (arr s R k st2).2 ∧
   H' = H.set id (r6B data s st2) ++ [.cells [.int .i64 7, .int .i64 tn, .sl (VT.css [t0]) .none], .cells [.int .i64 0, .int .i64 0, .snil], .cells [.int .i64 6, .int .i64 0, .sl (VT.css vs) (.own (H.length + 3))], .perm e_api_Value 3 vs.length]) s.length ?_ ?_
  ·intro _
   exact ⟨s.length, [(R st1).1], (R st1).2, rfl, by simp; omega, hMR _, by omega, by simp, rfl, rfl⟩
  ·rintro q H' ⟨k, vs, st2, rfl, hvk, hmon, hkl, he1, he2, rfl⟩ hsc' hlen' hsF Kb hKb
   have hcl : (VT.css vs).length = vs.length := by rw [VT.css_map]; simp
   have hn2 := hmon.2.1 hn
   simp [zq72_b51]
   refine r6_take [44, 32] s st2 hn2 hs1 (by simp) (hX0 _ _) _ (fun st3 ht => ?_) fun ht => ?_
   ·rw [hsetX]
    have hm3 := tk_mon ht
    match q, hkl, he1, he2, hvk, hKb with
    | 0, hkl, he1, he2, hvk, hKb => rw [tk_end (by simp) hkl] at ht; cases ht
    | k + 1, hkl, he1, he2, hvk, hKb =>
     have hst3 := (tk_some ht).2.1
     have ha : arr s R (k + 1) st2 = ((R st3).1 :: (arr s R k (R st3).2).1, (arr s R k (R st3).2).2) := by
      rw [arr]
      simp only [ht]
     rw [ha] at he1 he2
     simp only at he1 he2
     simp
     refine runS_any zq72_y52 ?_
     rw [zq72_s52]
     have hnext : Kb (zq72_fr51 (.ptr id 0) (.ptr H.length 0) (.ptr (H.length + 1) 0) (.ptr (H.length + 2) 0)) (H.set id (r6B data s (R st3).2) ++ [.cells [.int .i64 7, .int .i64 tn, .sl (VT.css [t0]) .none], .cells [.int .i64 0, .int .i64 0, .snil], .cells [.int .i64 6, .int .i64 0, .sl (VT.css vs ++ [(R st3).1.cs]) (.own (H.length + 3))], .perm e_api_Value 3 (vs.length + 1)]) := by
      have hmr := hMR st3
      have h3n : st3.n = st2.n + 2 := by rw [hst3]; rfl
      have h4n := hmr.1
      rw [← vcss_snoc]
      refine hKb _ _ ⟨k, by omega, Back.here (by simp) ((hsc1 _).append (by simp [AB.sc, AV.scA, AV.scB])) ?_ ⟨rfl, k, vs ++ [(R st3).1], (R st3).2, rfl, by simp; omega, (hmon.trans hm3).trans hmr, by omega, by rw [he1]; simp, he2, by simp⟩⟩
      simp [zq72_fr51, AV.sc, AV.scV, AV.scA, AV.scB]
      try omega
     simp [List.getElem?_append, hl1, hcss, hc3, htk3]
     refine ⟨hcall _ _ _ (hmon.trans hm3) ?_, hcall _ _ _ (hmon.trans hm3) ⟨?_, ?_⟩⟩
     ·rw [buildS_vt]
      simp [aAppend, aSrc, aAppTo, hcl, hc3, List.set_append, List.getElem?_append, show ¬ H.length + 3 < H.length by omega, show ¬ H.length + 2 < H.length by omega]
      exact ⟨⟨by omega, by omega⟩, hnext⟩
     ·simp [List.getElem?_append]
      rw [buildS_vt]
      simp [aAppend, aSrc, aAppTo, hcl, hc3, List.set_append, List.getElem?_append, show ¬ H.length + 3 < H.length by omega, show ¬ H.length + 2 < H.length by omega]
      exact ⟨⟨by omega, by omega⟩, hnext⟩
     ·rw [buildS_vt]
      simp [aAppend, aSrc, aAppTo, hcl, hc3, List.set_append, List.getElem?_append, show ¬ H.length + 3 < H.length by omega, show ¬ H.length + 2 < H.length by omega]
      exact ⟨⟨by omega, by omega⟩, hnext⟩
   ·have ha : arr s R q st2 = ([], nd s [93] st2) := by
     cases q with
     | zero => rfl
     | succ q => rw [arr]; simp only [ht]
    rw [ha] at he1 he2
    simp only [List.append_nil] at he1 he2
    simp
    refine r6_need [93] s st2 hn2 hs1 (by simp) (hX0 _ _) _ ?_
    rw [hsetX]
    rw [he1, he2] at hK
    simp [AV.known, List.getElem?_append, List.set_append, hl1]
    exact Out.at (H2 := H.set id (r6B data s (nd s [93] st2))) (b := .agg [.int .i64 6, .int .i64 0, .sl (VT.css vs) .none]) rfl (by simp) (hsc1 _) (.agg ⟨.refl _, .refl _, .sl _ _, trivial⟩) rfl (by simp [AV.scV, AV.scA, AV.scB]) (by simpa [VT.cs] using hK)
 refine runS_any zq72_y50 ?_
 rw [zq72_s50]
 simp [List.getElem?_append, hl1, hcss, hc3, htk3]
 refine ⟨hcall _ _ _ Mon.rfl' ?_, hcall _ _ _ Mon.rfl' ⟨?_, ?_⟩⟩
 ·rw [buildS_vt]
  simp [aAppend, aSrc, aAppTo, hc3, List.set_append, List.getElem?_append]
  exact hloop
 ·simp [List.getElem?_append]
  rw [buildS_vt]
  simp [aAppend, aSrc, aAppTo, hc3, List.set_append, List.getElem?_append]
  exact hloop
 ·rw [buildS_vt]
  simp [aAppend, aSrc, aAppTo, hc3, List.set_append, List.getElem?_append]
  exact hloop
theorem r6_head {data : List Dat} {s : List UInt8} (k tn : Int) (tks : List VT) (H : Heap) (id : Nat) (st : S10) (hid : H[id]? = some (r6B data s st)) (K : Kt)
  (h1 : (dec10 st).b = true → K (.agg (VT.mk 0 0 []).cs) (H.set id (r6B data s (dec10 st))))
  (h2 : HSc H → (dec10 st).b = false → zq72_j3 (.ptr id 0) (.ptr H.length 0) (.ptr (H.length + 1) 0) (H.set id (r6B data s (dec10 st)) ++ [.cells [.int .i64 k, .int .i64 tn, .sl (VT.css tks) .none], .cells [.int .i64 0, .int .i64 0, .snil]]) (Out H.length K)) :
  ACalls Tryz.prog n_zq72 [.ptr id 0, .agg (VT.mk k tn tks).cs] H K := by
 refine ACalls.out (zq72_ok fun hs => ?_)
 have hl1 := lt_get hid
 obtain ⟨n, l, b⟩ := st
 obtain ⟨w, hw⟩ : ∃ w, w = IntKind.i64.wrap (l - 1) := ⟨_, rfl⟩
 have hde : dec10 ⟨n, l, b⟩ = ⟨n, w, b || decide (w < 0)⟩ := by rw [hw]; rfl
 rw [hde] at h1 h2
 simp only at h1 h2
 have hc : (VT.mk k tn tks).cs = [.int .i64 k, .int .i64 tn, .sl (VT.css tks) .none] := rfl
 have h0 : ∀ J : Heap, (H ++ J)[id]? = some (.cells [.sl (data.map Dat.cs) .none, .str s, .int .i64 n, .bool b, .int .i64 l]) := fun J => by rw [List.getElem?_append_left hl1]; exact hid
 have hidE : H[id]'hl1 = .cells [.sl (data.map Dat.cs) .none, .str s, .int .i64 n, .bool b, .int .i64 l] := (List.getElem?_eq_some_iff.1 hid).2
 have hX0 : ∀ st (J : Heap), (H.set id (r6B data s st) ++ J)[id]? = some (r6B data s st) := fun st J => by simp [List.getElem?_append, hl1]
 have hX0' : ∀ n b l (J : Heap), (H.set id (.cells [.sl (data.map Dat.cs) .none, .str s, .int .i64 n, .bool b, .int .i64 l]) ++ J)[id]? = some (.cells [.sl (data.map Dat.cs) .none, .str s, .int .i64 n, .bool b, .int .i64 l]) := fun n b l J => by simp [List.getElem?_append, hl1]
 have hset0 : ∀ b' J, (H ++ J).set id b' = H.set id b' ++ J := fun b' J => List.set_append_left _ _ hl1
 have hset : ∀ b b' J, (H.set id b ++ J).set id b' = H.set id b' ++ J := fun b b' J => by rw [List.set_append_left _ _ (by simpa using hl1), List.set_set]
 have hO0 : K (.agg (VT.mk 0 0 []).cs) (H.set id (r6B data s ⟨n, w, true⟩)) → ∀ J, Out H.length K (.agg [.int .i64 0, .int .i64 0, .snil]) (H.set id (r6B data s ⟨n, w, true⟩) ++ J) := fun h J =>
  Out.at (H2 := H.set id (r6B data s ⟨n, w, true⟩)) (b := .agg [.int .i64 0, .int .i64 0, .sl (VT.css []) .none]) rfl (by simp) (hs.set (r6B_sc _ _ _ _)) (.agg ⟨.refl _, .refl _, .snil, trivial⟩) rfl (by simp [AV.scV, AV.scA, AV.scB]) (by simpa [VT.cs] using h)
 simp [zq72, hc, h0, hidE, List.set_append, hset0, hX0', AV.known, Nat.add_assoc, List.getElem?_append, hl1, show id < H.length + 1 by omega, ← hw]
 refine zq72_j1_ok fun hs2 => ?_
 simp [zq72_j1b, hX0', hset]
 by_cases hneg : w < 0
 ·simp [hneg]
  refine zq72_j2_ok fun hs3 => ?_
  simp [zq72_j2b, hX0', hset, aBuild, fillA, AV.known, List.getElem?_append, List.set_append, hl1]
  simp [hneg] at h1
  exact hO0 h1 _
 ·simp [hneg]
  refine zq72_j2_ok fun hs3 => ?_
  cases b with
  | true =>
   simp [zq72_j2b, hX0', hset, aBuild, fillA, AV.known, List.getElem?_append, List.set_append, hl1]
   simp [hneg] at h1
   exact hO0 h1 _
  | false =>
   simp [zq72_j2b, hX0', hset]
   simp [hneg] at h2
   exact h2 hs
theorem dec10_n (st : S10) : (dec10 st).n = st.n := rfl
theorem dec10_b {st : S10} (h : (dec10 st).b = false) : st.b = false := by
 unfold dec10 at h
 simp at h
 exact h.1
theorem dec10_bad {st : S10} (h : st.b = true) : dec10 st = ⟨st.n, IntKind.i64.wrap (st.l - 1), true⟩ := by
 unfold dec10; rw [h]; rfl
theorem r6_value {data : List Dat} (hk : KData data) (hD : dataOk data = true) {s : List UInt8} (hs1 : s.length ≤ 1000000000) : ∀ f, RdX data s f := by
 intro f
 induction f with
 | zero =>
  intro t ht H id st hn hf hid K hK
  obtain ⟨k, tn, tks⟩ := t
  have hb : st.b = true := by
   cases h : st.b with
   | true => rfl
   | false => exact absurd (hf h) (by omega)
  refine r6_head k tn tks H id st hid K (fun _ => ?_) fun _ h => ?_
  ·rw [dec10_bad hb]; exact hK
  ·rw [dec10_bad hb] at h; cases h
 | succ f ih =>
  intro t ht H id st hn hf hid K hK
  obtain ⟨k, tn, tks⟩ := t
  have hl1 := lt_get hid
  have htk := tyValid_kids ht
  have htl : tks.length ≤ 1000000 := by
   have h1 : (VT.mk k tn tks).nodes ≤ 1000 := tyValid_nodes ht
   have h2 := VT.len_le tks
   simp [VT.nodes] at h1
   omega
  rw [rf] at hK
  refine r6_head k tn tks H id st hid K (fun h => by rw [if_pos h] at hK; exact hK) fun hs hb => ?_
  rw [if_neg (by rw [hb]; simp)] at hK
  have hfn : s.length - st.n < f + 1 := hf (dec10_b hb)
  obtain ⟨n, w, hde⟩ : ∃ n w, dec10 st = ⟨n, w, false⟩ := ⟨(dec10 st).n, (dec10 st).l, by rw [← hb]⟩
  have hnn : n = st.n := by rw [← dec10_n st, hde]
  rw [hde] at hK ⊢
  rw [← hnn] at hn hfn
  clear hde hb hf hnn hid
  have hsc1 : ∀ st, HSc (H.set id (r6B data s st)) := fun st => hs.set (r6B_sc _ _ _ _)
  have hX0 : ∀ st (J : Heap), (H.set id (r6B data s st) ++ J)[id]? = some (r6B data s st) := fun st J => by simp [List.getElem?_append, hl1]
  have hX0' : ∀ st (J : Heap), (H.set id (r6B data s st) ++ J)[id]? = some (.cells [.sl (data.map Dat.cs) .none, .str s, .int .i64 st.n, .bool st.b, .int .i64 st.l]) := hX0
  have hsetX : ∀ st x (J : Heap), (H.set id (r6B data s st) ++ J).set id x = H.set id x ++ J := fun st x J => by rw [List.set_append_left _ _ (by simpa using hl1), List.set_set]
  have hO : ∀ (a b : Int) (vs : List VT) st' (t : Tok), K (.agg (VT.mk a b vs).cs) (H.set id (r6B data s st')) → ∀ J, Out H.length K (.agg [.int .i64 a, .int .i64 b, .sl (VT.css vs) t]) (H.set id (r6B data s st') ++ J) := fun a b vs st' t h J =>
   Out.at (H2 := H.set id (r6B data s st')) (b := .agg [.int .i64 a, .int .i64 b, .sl (VT.css vs) .none]) rfl (by simp) (hsc1 _) (.agg ⟨.refl _, .refl _, .sl _ _, trivial⟩) rfl (by simp [AV.scV, AV.scA, AV.scB]) (by simpa [VT.cs] using h)
  have hO0 : ∀ (a b : Int) st', K (.agg (VT.mk a b []).cs) (H.set id (r6B data s st')) → ∀ J, Out H.length K (.agg [.int .i64 a, .int .i64 b, .snil]) (H.set id (r6B data s st') ++ J) := fun a b st' h J =>
   Out.at (H2 := H.set id (r6B data s st')) (b := .agg [.int .i64 a, .int .i64 b, .sl (VT.css []) .none]) rfl (by simp) (hsc1 _) (.agg ⟨.refl _, .refl _, .snil, trivial⟩) rfl (by simp [AV.scV, AV.scA, AV.scB]) (by simpa [VT.cs] using h)
  have hM := rf_mon data s f
  refine zq72_j3_ok fun hs3 => ?_
  unfold zq72_j3b
  by_cases h3 : k = 3
  ·subst h3
   rw [if_pos rfl] at hK
   simp [AV.known]
   refine r6_need [40, 41] s ⟨n, w, false⟩ hn hs1 (by simp) (hX0 _ _) _ ?_
   rw [hsetX]
   simp [aBuild, fillA, AV.known, List.getElem?_append, List.set_append, hl1]
   exact hO0 1 0 _ hK _
  rw [if_neg h3] at hK
  by_cases h2 : k = 2
  ·subst h2
   rw [if_pos rfl] at hK
   simp [AV.known]
   refine r6_take [116, 114, 117, 101] s ⟨n, w, false⟩ hn hs1 (by simp) (hX0 _ _) _ (fun st' ht => ?_) fun ht => ?_
   ·rw [ht] at hK
    rw [hsetX]
    simp [aBuild, fillA, AV.known, List.getElem?_append, List.set_append, hl1]
    exact hO0 2 1 _ hK _
   ·rw [ht] at hK
    simp
    refine r6_need [102, 97, 108, 115, 101] s ⟨n, w, false⟩ hn hs1 (by simp) (hX0 _ _) _ ?_
    rw [hsetX]
    simp [aBuild, fillA, AV.known, List.getElem?_append, List.set_append, hl1]
    exact hO0 2 0 _ hK _
  rw [if_neg h2] at hK
  by_cases h1 : k = 1
  ·subst h1
   rw [if_pos rfl] at hK
   simp [AV.known]
   refine r6_number s ⟨n, w, false⟩ hn hs1 (hX0 _ _) _ ?_
   rw [hsetX]
   simp [aBuild, fillA, AV.known, List.getElem?_append, List.set_append, hl1]
   exact hO0 3 _ _ hK _
  rw [if_neg h1] at hK
  have e3 : (k == 3) = false := by simpa using h3
  have e2 : (k == 2) = false := by simpa using h2
  have e1 : (k == 1) = false := by simpa using h1
  simp [e3, e2, e1]
  refine zq72_j4_ok fun hs4 => ?_
  unfold zq72_j4b
  have hvals : ∀ p : List UInt8, 1 ≤ p.length → ∀ (J : Heap) (K' : Kt),
    (∀ vs st2 st3, par s (rf data s f) p tks ⟨n, w, false⟩ = (vs, st3) → st2.n ≤ s.length → st3 = nd s [41] st2 → K' (.sl (VT.css vs) .none) (H.set id (r6B data s st2) ++ J)) →
    ACalls Tryz.prog n_zq135 [.ptr id 0, .sl (VT.css tks) .none] (H.set id (r6B data s (nd s p ⟨n, w, false⟩)) ++ J) K' := by
   intro p hp1 J K' h
   have hm0 := nd_mon s p ⟨n, w, false⟩
   refine r6_values ih hs1 tks htl htk _ id (nd s p ⟨n, w, false⟩) (hm0.2.1 hn) (fun h => by
    obtain ⟨_, g2, g3⟩ := nd_ok h
    have g4 := drop_le hn g3
    rw [g2]
    simp only at g4 ⊢
    omega) (hX0 _ _) _ ?_
   have hm1 := vls_mon (rf_mon data s f) tks true (nd s p ⟨n, w, false⟩)
   rw [hsetX]
   exact h _ (vls s (rf data s f) tks true (nd s p ⟨n, w, false⟩)).2 _ rfl (hm1.2.1 (hm0.2.1 hn)) rfl
  by_cases h6 : k = 6
  ·subst h6
   rw [if_pos rfl] at hK
   generalize hpr : par s (rf data s f) [40] tks ⟨n, w, false⟩ = pr at *
   obtain ⟨vs, st3⟩ := pr
   simp only at hK
   simp [AV.known]
   refine r6_need [40] s ⟨n, w, false⟩ hn hs1 (by simp) (hX0 _ _) _ ?_
   rw [hsetX]
   simp [AV.known, List.getElem?_append, hl1]
   refine hvals [40] (by simp) _ _ fun vs2 st2 st4 he hn2 h3 => ?_
   rw [hpr] at he
   obtain ⟨rfl, rfl⟩ := Prod.mk.inj he
   subst h3
   simp [aBuild, fillA, AV.known, List.getElem?_append, List.set_append, hl1]
   refine r6_need [41] s st2 hn2 hs1 (by simp) (hX0 _ _) _ ?_
   rw [hsetX]
   simp [aBuild, fillA, AV.known, List.getElem?_append, List.set_append, hl1]
   exact hO 4 0 vs _ .none hK _
  rw [if_neg h6] at hK
  by_cases h5 : k = 5
  ·subst h5
   rw [if_pos rfl] at hK
   simp [AV.known, hX0']
   exact r6_con hk hD ih hs1 tn tks ht H hs id hl1 n w hn hfn K hK
  rw [if_neg h5] at hK
  by_cases h8 : k = 8
  ·subst h8
   rw [if_pos rfl] at hK
   generalize hpr : par s (rf data s f) [114, 101, 102, 40] tks ⟨n, w, false⟩ = pr at *
   obtain ⟨vs, st3⟩ := pr
   simp only at hK
   simp [AV.known]
   refine r6_need [114, 101, 102, 40] s ⟨n, w, false⟩ hn hs1 (by simp) (hX0 _ _) _ ?_
   rw [hsetX]
   simp [AV.known, List.getElem?_append, hl1]
   refine hvals [114, 101, 102, 40] (by simp) _ _ fun vs2 st2 st4 he hn2 h3 => ?_
   rw [hpr] at he
   obtain ⟨rfl, rfl⟩ := Prod.mk.inj he
   subst h3
   simp [aBuild, fillA, AV.known, List.getElem?_append, List.set_append, hl1]
   refine r6_need [41] s st2 hn2 hs1 (by simp) (hX0 _ _) _ ?_
   rw [hsetX]
   simp [aBuild, fillA, AV.known, List.getElem?_append, List.set_append, hl1]
   exact hO 7 0 vs _ .none hK _
  rw [if_neg h8] at hK
  by_cases h7 : k = 7
  ·subst h7
   rw [if_pos rfl] at hK
   simp [AV.known, aBuild, fillA]
   refine r6_need [91] s ⟨n, w, false⟩ hn hs1 (by simp) (hX0 _ _) _ ?_
   rw [hsetX]
   have hm0 := nd_mon s [91] ⟨n, w, false⟩
   unfold arr10 at hK
   simp only at hK
   refine r6_take [93] s (nd s [91] ⟨n, w, false⟩) (hm0.2.1 hn) hs1 (by simp) (hX0 _ _) _ (fun st' ht' => ?_) fun ht' => ?_
   ·rw [ht'] at hK
    rw [hsetX]
    simp [aBuild, fillA, AV.known, List.getElem?_append, List.set_append, hl1]
    exact hO0 6 0 _ hK _
   ·rw [ht'] at hK
    simp only at hK
    simp
    refine r6_arr hk hD ih hs1 tn tks ht _ _ _ _ _ H hs id hl1 (nd s [91] ⟨n, w, false⟩) (hm0.2.1 hn) (fun stx hm hbx => ?_) K hK _ _ _
    have g1 := bfalse hm hbx
    obtain ⟨_, g2, g3⟩ := nd_ok g1
    have g4 := drop_le hn g3
    have g5 := hm.1
    rw [g2] at g5
    simp only [List.length_cons, List.length_nil] at g4 g5
    omega
  rw [if_neg h7] at hK
  have e6 : (k == 6) = false := by simpa using h6
  have e5 : (k == 5) = false := by simpa using h5
  have e8 : (k == 8) = false := by simpa using h8
  have e7 : (k == 7) = false := by simpa using h7
  simp [e6, e5, e8, e7]
  refine r6_need [102, 110, 35] s ⟨n, w, false⟩ hn hs1 (by simp) (hX0 _ _) _ ?_
  rw [hsetX]
  have hm0 := nd_mon s [102, 110, 35] ⟨n, w, false⟩
  refine r6_number s _ (hm0.2.1 hn) hs1 (hX0 _ _) _ ?_
  rw [hsetX]
  simp [aBuild, fillA, AV.known, List.getElem?_append, List.set_append, hl1]
  exact hO0 8 _ _ hK _
def GoodV (data : List Dat) (t : VT) (s : List UInt8) (v : VT) : Prop := v.nodes ≤ 5000 ∧ hasT data v t = true ∧ s = wrV data v t
theorem goodV_read {data : List Dat} (hk : KData data) {t : VT} {s : List UInt8} (hb : s.length ≤ 2000) {w : VT} (h : GoodV data t s w) : (rf data s (s.length + 1) t ⟨0, 5000, false⟩).1 = w ∧ (rf data s (s.length + 1) t ⟨0, 5000, false⟩).2.b = false ∧ (rf data s (s.length + 1) t ⟨0, 5000, false⟩).2.n = s.length := by
 obtain ⟨hn, hd, he⟩ := h
 obtain ⟨hDk, hty, hhv⟩ := hasT_ok hk hd
 have hiv : Iv s ⟨0, 5000, false⟩ := ⟨rfl, by simp, by simp; omega, by simp⟩
 have := rf_comp (s := s) hDk.ok (s.length + 1) t ⟨0, 5000, false⟩ w [] hiv (by simp) (tyValid_ok hty) hhv (by simpa using he) (fun b hb => by cases hb)
 rw [this]
 refine ⟨rfl, rfl, ?_⟩
 simp
 rw [← he]
theorem zq37_spec (data : List Dat) (hk : KData data) (t : VT) (ht : t.nodes ≤ 1000000) (s : List UInt8) (hb : s.length ≤ 2000) (H : Heap) (K : Kt)
  (h1 : ∀ v, GoodV data t s v → K (.tup [.agg v.cs, .bool true]) H) (h2 : (¬ ∃ v, GoodV data t s v) → K (.tup [.agg (VT.mk 0 0 []).cs, .bool false]) H) :
  ACalls Tryz.prog n_zq37 [.sl (data.map Dat.cs) .none, .agg t.cs, .str s] H K := by
 refine ACalls.out (zq37_ok fun hs => ?_)
 obtain ⟨x, y, z, hvx, hx, hy, hz⟩ := vt3' t
 have hkl := hk.1
 have hO : ((¬ ∃ v, GoodV data t s v)) → ∀ J, Out H.length K (.tup [.agg [.int .i64 0, .int .i64 0, .snil], .bool false]) (H ++ J) := fun h J => Out.tup (bs := [.agg [.int .i64 0, .int .i64 0, .sl (VT.css []) .none], .bool false]) hs (by simpa [VT.cs] using h2 h) ⟨⟨.agg ⟨.refl _, .refl _, .snil, trivial⟩, rfl, by simp [AV.scV, AV.scA, AV.scB]⟩, keepV rfl rfl, trivial⟩
 simp [zq37, hvx, Nat.add_assoc]
 refine zq51_spec data hk _ _ fun b hb2 => ?_
 have hbd : b = dataOk data := by
  rw [Bool.eq_iff_iff, hb2, data_iff]
 subst hbd
 cases hd : dataOk data with
 | false =>
  simp [aBuild, fillA, AV.known, List.getElem?_append, Nat.add_assoc]
  refine ⟨⟨rfl, rfl⟩, hO ?_ _⟩
  rintro ⟨v, _, h, _⟩
  rw [(hasT_ok hk h).1.ok] at hd
  cases hd
 | true =>
  simp [Nat.add_assoc]
  rw [← hvx]
  refine zq52_spec data (by omega) 0 t (by omega) _ _ ?_
  cases hf : tyValid data 0 t with
  | false =>
   simp [aBuild, fillA, AV.known, List.getElem?_append, Nat.add_assoc]
   refine ⟨⟨rfl, rfl⟩, hO ?_ _⟩
   rintro ⟨v, _, h, _⟩
   rw [(hasT_ok hk h).2.1] at hf
   cases hf
  | true =>
   simp [aBuild, fillA, AV.known, hvx, hx, hy, hz, List.getElem?_append, Nat.add_assoc]
   rw [← hvx]
   refine r6_value (s := s) hk hd (by omega) (s.length + 1) t hf _ (H.length + 2) ⟨0, 5000, false⟩ (by simp) (fun _ => by simp) (by simp [r6B]) _ ?_
   have hiv : Iv s ⟨0, 5000, false⟩ := ⟨rfl, by simp, by simp; omega, by simp⟩
   have hsound := rf_sound (s := s) hd (s.length + 1) t ⟨0, 5000, false⟩ hiv
   have hread := fun w hw => goodV_read hk (t := t) (w := w) hb hw
   have hmon := (rf_mon data s (s.length + 1) t ⟨0, 5000, false⟩).2.1 (by simp)
   generalize hrr : rf data s (s.length + 1) t ⟨0, 5000, false⟩ = rr at *
   obtain ⟨v, n', l', b⟩ := rr
   simp only at hsound hread hmon
   obtain ⟨x2, y2, z2, hvx2, hx2, hy2, hz2⟩ := vt3' v
   cases b with
   | true =>
    have hno : ¬ ∃ v, GoodV data t s v := by
     rintro ⟨w, hw⟩
     have := (hread w hw).2.1
     cases this
    simp [r6B, hvx2, hx2, hy2, hz2, hx, hy, hz, List.getElem?_append, List.set_append, Nat.add_assoc, aBuild, fillA]
    exact ⟨⟨rfl, rfl⟩, hO hno _⟩
   | false =>
    obtain ⟨e1, g1, g2, g3⟩ := hsound rfl
    by_cases hz' : n' = s.length
    ·subst hz'
     have e2 : s = wrV data v t := by
      rw [List.drop_length] at e1
      simpa using e1
     simp [r6B, hvx2, hx2, hy2, hz2, hx, hy, hz, List.getElem?_append, List.set_append, Nat.add_assoc]
     rw [← hvx2]
     refine zq17_spec data hk v t (by omega) ht _ _ ?_
     cases hd' : hasT data v t with
     | true =>
      have hg : GoodV data t s v := ⟨by omega, hd', e2⟩
      have hvc : (AV.agg v.cs).scV H.length = true := by obtain ⟨n, m, ks⟩ := v; simp [VT.cs, AV.scV, AV.scA, AV.scB]
      simp [hvx2, hx2, hy2, hz2, List.getElem?_append, List.set_append, Nat.add_assoc]
      rw [← hvx2]
      refine ⟨⟨rfl, rfl⟩, ?_⟩
      exact Out.tup (bs := [.agg v.cs, .bool true]) hs (h1 v hg) ⟨keepV rfl hvc, keepV rfl rfl, trivial⟩
     | false =>
      have hno : ¬ ∃ v, GoodV data t s v := by
       rintro ⟨w, hw⟩
       obtain rfl := (hread w hw).1
       rw [hw.2.1] at hd'
       cases hd'
      simp [hvx2, hx2, hy2, hz2, List.getElem?_append, List.set_append, Nat.add_assoc, aBuild, fillA]
      exact ⟨⟨rfl, rfl⟩, hO hno _⟩
    ·have hno : ¬ ∃ v, GoodV data t s v := by
      rintro ⟨w, hw⟩
      exact hz' (hread w hw).2.2
     have hne : ((n' : Int) != s.length) = true := by simp; omega
     simp [r6B, hvx2, hx2, hy2, hz2, hx, hy, hz, hz', hne, List.getElem?_append, List.set_append, Nat.add_assoc, aBuild, fillA]
     exact ⟨⟨rfl, rfl⟩, hO hno _⟩
def vrF (data : List Dat) (s : List UInt8) (left : Int) (fl : Bool) : AB := .cells [.sl (data.map Dat.cs) .none, .str s, .int .i64 left, .bool fl]
theorem vrF_sc (data : List Dat) (s : List UInt8) (l : Int) (b : Bool) (n : Nat) : (vrF data s l b).sc n = true := by simp [vrF, AB.sc, AV.scA, AV.scB]
theorem vaccept_any {data : List Dat} {l : Int} {fl : Bool} (p s : List UInt8) (hs : s.length ≤ 1000000000) (hp : p.length ≤ 1000000000) {H : Heap} {id : Nat} (hid : H[id]? = some (vrF data s l fl)) (K : Kt)
  (h1 : ∀ t, s = p ++ t → K (.bool true) (H.set id (vrF data t l fl))) (h2 : ¬ p <+: s → K (.bool false) H) : ACalls Tryz.prog n_zq127 [.ptr id 0, .str p] H K := by
 refine zq127_ok fun hsc => ?_
 have h0 : H[id]? = some (.cells [.sl (data.map Dat.cs) .none, .str s, .int .i64 l, .bool fl]) := hid
 by_cases hps : p <+: s
 ·obtain ⟨t, rfl⟩ := hps
  simp [zq127, h0]
  refine CutPrefix_yes p t hs _ _ ?_
  simp [h0, AV.known, zq127_j1]
  exact h1 t rfl
 ·simp [zq127, h0]
  refine CutPrefix_no p s hs hp hps _ _ ?_
  simp [zq127_j1]
  exact h2 hps
theorem vfail_any {data : List Dat} {l : Int} {fl : Bool} {s : List UInt8} {H : Heap} {id : Nat} (hid : H[id]? = some (vrF data s l fl)) (K : Kt) (hK : K (.tup []) (H.set id (vrF data [] l true))) : ACalls Tryz.prog n_zq125 [.ptr id 0] H K := by
 refine zq125_ok fun hsc => ?_
 have h0 : H[id]? = some (.cells [.sl (data.map Dat.cs) .none, .str s, .int .i64 l, .bool fl]) := hid
 have hl1 := lt_get hid
 have h1 : ∀ b : AB, (H.set id b)[id]? = some b := fun b => by simp [hl1]
 simp [zq125, h0, AV.known, h1]
 simpa [vrF] using hK
theorem vexpect_any {data : List Dat} {l : Int} {fl : Bool} (p s : List UInt8) (hs : s.length ≤ 1000000000) (hp : p.length ≤ 1000000000) {H : Heap} {id : Nat} (hid : H[id]? = some (vrF data s l fl)) (K : Kt)
  (hK : ∀ t b, t.length ≤ s.length → (b = false → fl = false ∧ t.length + p.length = s.length) → K (.tup []) (H.set id (vrF data t l b))) : ACalls Tryz.prog n_zq128 [.ptr id 0, .str p] H K := by
 refine zq128_ok fun hsc => ?_
 simp [zq128]
 refine vaccept_any p s hs hp hid _ (fun t ht => ?_) fun hn => ?_
 ·simp
  exact hK t fl (by rw [ht]; simp) fun h => ⟨h, by rw [ht]; simp; omega⟩
 ·simp
  refine vfail_any hid _ ?_
  exact hK [] true (by simp) fun h => by cases h
theorem vnumber_any {data : List Dat} {l : Int} {fl : Bool} (s : List UInt8) (hl : s.length ≤ 1000000000) {H : Heap} {id : Nat} (hid : H[id]? = some (vrF data s l fl)) (hF : Fa H id) (K : Kt)
  (hK : ∀ n s' b, s'.length ≤ s.length → (b = false → fl = false ∧ 1 + s'.length ≤ s.length) → K (.int .i64 n) (H.set id (vrF data s' l b))) :
  ACalls Tryz.prog n_zq126 [.ptr id 0] H K := by
 refine ACalls.out (zq126_ok fun hs => ?_)
 have h0 : H[id]? = some (.cells [.sl (data.map Dat.cs) .none, .str s, .int .i64 l, .bool fl]) := hid
 have hlt0 := lt_get hid
 have hfin : ∀ n s' b X, s'.length ≤ s.length → (b = false → fl = false ∧ 1 + s'.length ≤ s.length) → X = H.set id (vrF data s' l b) → Out H.length K (.int .i64 n) X := fun n s' b X h1 h2 hX => by
  subst hX
  exact Out.at (J := []) (by simp) (by simp) (hs.set (vrF_sc _ _ _ _ _)) .rfl' rfl rfl (hK n s' b h1 h2)
 have e := List.takeWhile_append_dropWhile (p := numB) (l := s)
 obtain ⟨hw, ht⟩ := take_drop_while numB s
 generalize s.takeWhile numB = w at *
 generalize s.dropWhile numB = t at *
 subst e
 simp only [List.length_append] at hl
 have hset : ∀ b b' : AB, (H.set id b).set id b' = H.set id b' := fun b b' => by simp
 obtain ⟨fi, hfi, hfE⟩ := hF
 have hPI : ∀ K' : AV → Heap → Prop, (w ≠ [] → ∀ n, K' (.tup [.int .i64 n, .nili]) H) → (∀ n, K' (.tup [.int .i64 n, .ifc]) H) → ACalls Tryz.prog n_zq170 [.str w, .int .i64 10, .int .i64 64] H K' := fun K' h1 h2 => ParseInt_any w (by omega) H fi hfE K' h1 h2
 simp [zq126]
 refine zq126_loop2 (Inv := fun q t5 H' => ∃ i : Nat, i ≤ w.length ∧ q = w.length - i ∧ t5 = .int .i64 i ∧ H' = H) w.length ?_ ?_
 ·intro _; exact ⟨0, by omega, by omega, rfl, rfl⟩
 ·rintro q t5 H' ⟨i, hi, rfl, rfl, rfl⟩ hsc hlen hsF Kb hKb
  by_cases hlt : i < w.length
  ·have hgi := hw _ (List.getElem_mem hlt)
   have h1 : (i : Int) < (w.length : Int) + t.length := by omega
   have e1 : ((w[i].toNat : Int) == 45) = (w[i] == 45) := u8_eq w[i] 45
   have hgo : Kb (zq126_fr2 (.ptr id 0) (.int .i64 (IntKind.i64.wrap ((i : Int) + 1)))) H' := by
    rw [wrap_in (by omega) (by omega)]
    refine hKb _ _ ⟨w.length - (i + 1), by omega, Back.here (by simp) hsc ?_ ⟨_, rfl, i + 1, by omega, rfl, by simp, rfl⟩⟩
    simp [zq126_fr2, AV.sc, AV.scV, AV.scA, AV.scB]
    try omega
   unfold numB bDig at hgi
   have hget : (w ++ t)[i]?.getD 0 = w[i] := by simp [List.getElem?_append_left hlt, hlt]
   simp [zq126_b2, hget, h0, h1, show i < w.length + t.length by omega, List.getElem?_append_left hlt, hlt, e1]
   cases h2 : (w[i] == 45) <;> cases h3 : decide (48 ≤ (w[i].toNat : Int)) <;> cases h4 : decide ((w[i].toNat : Int) ≤ 57) <;> simp [h2, h3, h4] at hgi ⊢ <;> first | exact hgo | (simp [h1, h0, hlt, hget, e1, h2, h3, h4, show i < w.length + t.length by omega] ; exact hgo)
  ·obtain rfl : i = w.length := by omega
   have fin : w ≠ [] → ∀ n X, X = H'.set id (vrF data t l fl) → Out H'.length K (.int .i64 n) X := fun hne n X hX =>
    hfin n t fl X (by simp) (fun h => ⟨h, by have := List.length_pos_iff.2 hne; simp; omega⟩) hX
   have fin2 : ∀ X, X = H'.set id (vrF data [] l true) → Out H'.length K (.int .i64 0) X := fun X hX => hfin 0 [] true X (by simp) (fun h => by cases h) hX
   have hidX : H'[id]? = some (vrF data (w ++ t) l fl) := hid
   cases t with
   | nil =>
    simp [zq126_b2, h0, aSlice, aBound, AV.known]
    refine hPI _ (fun hne n => ?_) fun n => ?_
    ·simp [h0, aSlice, aBound, AV.known]
     exact fin hne n _ (by simp [vrF])
    ·simp
     refine vfail_any hidX _ ?_
     exact fin2 _ rfl
   | cons b t =>
    have h1 : (w.length : Int) < (w.length : Int) + ((t.length : Int) + 1) := by omega
    have hb := ht b rfl
    unfold numB bDig at hb
    have e0 : ((b.toNat : Int) == 45) = (b == 45) := u8_eq b 45
    cases h2 : (b == 45) <;> cases h3 : decide (48 ≤ (b.toNat : Int)) <;> cases h4 : decide ((b.toNat : Int) ≤ 57) <;> simp [h2, h3, h4] at hb <;>
     (simp [zq126_b2, h0, h1, aSlice, aBound, AV.known, e0, h2, h3, h4]
      try refine ⟨by omega, ?_⟩
      refine hPI _ (fun hne n => ?_) fun n => ?_
      ·simp [h0, aSlice, aBound, AV.known]
       exact fin hne n _ (by simp [vrF])
      ·simp
       refine vfail_any hidX _ ?_
       exact fin2 _ rfl)
def RdAnyV (data : List Dat) (f : Nat) : Prop := ∀ t : VT, tyValid data 0 t = true → ∀ (H : Heap) (id : Nat) (s : List UInt8) (l : Int) (fl : Bool), (fl = false → s.length < f) → s.length ≤ 1000000000 → H[id]? = some (vrF data s l fl) → Fa H id →
 ∀ K : Kt, (∀ (v : VT) s' l' b, s'.length ≤ s.length → (b = false → fl = false ∧ v.nodes + s'.length ≤ s.length) → K (.agg v.cs) (H.set id (vrF data s' l' b))) → ACalls Tryz.prog n_zq71 [.ptr id 0, .agg t.cs] H K
theorem vnodesL_snoc : ∀ (vs : List VT) (v : VT), VT.nodesL (vs ++ [v]) = VT.nodesL vs + v.nodes
 | [], v => by simp [VT.nodesL]
 | w :: vs, v => by simp only [List.cons_append, VT.nodesL, vnodesL_snoc vs v]; omega
theorem vcss_snoc' (vs : List VT) (v : VT) : VT.css (vs ++ [v]) = VT.css vs ++ [v.cs] := by
 rw [VT.css_map, VT.css_map]; simp
theorem value_list_any {data : List Dat} {f : Nat} (hel : RdAnyV data f) (ts : List VT) (htl : ts.length ≤ 1000000) (htv : ∀ t ∈ ts, tyValid data 0 t = true) (fl : Bool)
  (H : Heap) (id : Nat) (s : List UInt8) (l : Int) (hsf : fl = false → s.length ≤ f) (hb : s.length ≤ 1000000000) (hid : H[id]? = some (vrF data s l fl)) (hF : Fa H id) (K : Kt)
  (hK : ∀ (vs : List VT) s' l' b, s'.length ≤ s.length → (b = false → fl = false ∧ VT.nodesL vs + s'.length + 1 ≤ s.length) → K (.sl (VT.css vs) .none) (H.set id (vrF data s' l' b))) :
  ACalls Tryz.prog n_zq129 [.ptr id 0, .sl (VT.css ts) .none] H K := by
 refine ACalls.out (zq129_ok fun hs => ?_)
 have hl1 := lt_get hid
 simp [zq129]
 refine vexpect_any [40] s hb (by simp) hid _ fun s1 b1 hs1 hb1 => ?_
 unfold zq129_l4
 refine ALoop.own 5 e_api_Value 3 rfl ?_
 have hl2 : (H.set id (vrF data s1 l b1)).length = H.length := by simp
 rw [hl2]
 show zq129_l4 (.ptr id 0) (.sl [] (.own H.length)) (.sl (VT.css ts) .none) (.int .i64 ts.length) (.int .i64 0) _ (Out H.length K)
 have hO : ∀ (vs : List VT) s' l' b, s'.length ≤ s.length → (b = false → fl = false ∧ VT.nodesL vs + s'.length + 1 ≤ s.length) → ∀ X J, X = H.set id (vrF data s' l' b) ++ J → Out H.length K (.sl (VT.css vs) (.own H.length)) X := fun vs s' l' b h1 h2 X J h => by
  subst h
  exact Out.at rfl (by simp) (hs.set (vrF_sc _ _ _ _ _)) (slV (n := 0)).1 rfl rfl (hK vs s' l' b h1 h2)
 refine zq129_loop4 (Inv := fun q t5 t12 H' => ∃ (i : Nat) (vs : List VT) (s2 : List UInt8) (l2 : Int) (b2 : Bool), i ≤ ts.length ∧ vs.length = i ∧ q = ts.length - i ∧ t12 = .int .i64 i ∧ t5 = .sl (VT.css vs) (.own H.length) ∧ s2.length ≤ s.length ∧
  (b2 = false → fl = false ∧ VT.nodesL vs + s2.length + 1 ≤ s.length) ∧ H' = H.set id (vrF data s2 l2 b2) ++ [.perm e_api_Value 3 i]) ts.length ?_ ?_
 ·intro _
  exact ⟨0, [], s1, l, b1, by omega, rfl, by omega, rfl, rfl, hs1, fun h => by
   obtain ⟨h1, h2⟩ := hb1 h
   simp at h2
   simp [VT.nodesL]
   exact ⟨h1, by omega⟩, by simp⟩
 ·rintro q t5 t12 H' ⟨i, vs, s2, l2, b2, hi, hvl, rfl, rfl, rfl, hs2, hb2, rfl⟩ hsc' hlen' hsF Kb hKb
  have hcl : (VT.css vs).length = i := by rw [VT.css_map]; simpa using hvl
  have hX0 : ∀ s l b (J : Heap), (H.set id (vrF data s l b) ++ J)[id]? = some (vrF data s l b) := fun s l b J => by simp [List.getElem?_append, hl1]
  have hX0' : ∀ s l b (J : Heap), (H.set id (vrF data s l b) ++ J)[id]? = some (.cells [.sl (data.map Dat.cs) .none, .str s, .int .i64 l, .bool b]) := hX0
  by_cases hlt : i < ts.length
  ·have hti := htv _ (List.getElem_mem hlt)
   obtain ⟨x, y, z, hvx, hx, hy, hz⟩ := vt3' ts[i]
   have hnext : ∀ s3 b3, s3.length ≤ s.length → (b3 = false → fl = false ∧ VT.nodesL vs + s3.length + 1 ≤ s.length) →
     zq129_j1 (.ptr id 0) (.sl (VT.css vs) (.own H.length)) (.ptr (H.length + 1) 0) (.sl (VT.css ts) .none) (.int .i64 ts.length) (.int .i64 i) (H.set id (vrF data s3 l2 b3) ++ [.perm e_api_Value 3 i, .cells [x, y, z]]) (Out H.length K) Kb := by
    intro s3 b3 hs3 hb3
    have hX1 : ∀ s l b, (H.set id (vrF data s l b) ++ [AB.perm e_api_Value 3 i, .cells [x, y, z]])[H.length + 1]? = some (.cells [x, y, z]) := fun s l b => by simp [List.getElem?_append]
    simp [zq129_j1, hX0', hX1]
    rw [← hvx]
    refine hel ts[i] hti _ id s3 l2 b3 (fun h => by obtain ⟨h1, h2⟩ := hb3 h; have := hsf h1; omega) (by omega) (hX0 _ _ _ _) (hF.next _) _ fun v s4 l4 b4 hs4 hb4 => ?_
    rw [buildS_vt, List.set_append_left _ _ (by simpa using hl1), List.set_set]
    have hc2 : v.cs.length = 3 := by obtain ⟨k, n, ks⟩ := v; rfl
    simp [aAppend, aSrc, aAppTo, hcl, hc2, List.set_append_right, List.set_append]
    refine ⟨⟨by omega, by omega⟩, ?_⟩
    rw [wrap_in (by omega) (by omega)]
    refine hKb _ _ ⟨ts.length - (i + 1), by omega, Back.at (J := [.cells [x, y, z]]) (H2 := H.set id (vrF data s4 l4 b4) ++ [.perm e_api_Value 3 (i + 1)]) (by simp [hvx]) (by simp) ((hs.set (vrF_sc _ _ _ _ _)).append (by simp [AB.sc, AV.scA, AV.scB])) ?_ ⟨_, _, rfl, i + 1, vs ++ [v], s4, l4, b4, by omega, by simp [hvl], rfl, by simp, by rw [vcss_snoc'], by omega, fun h => ?_, rfl⟩⟩
    ·simp [zq129_fr4, AV.sc, AV.scV, AV.scA, AV.scB]
     try omega
    ·obtain ⟨h1, h2⟩ := hb4 h
     obtain ⟨h3, h4⟩ := hb3 h1
     rw [vnodesL_snoc]
     exact ⟨h3, by omega⟩
   by_cases h0 : i = 0
   ·subst h0
    simp [zq129_b4, hlt, hvx, hx, hy, hz]
    exact hnext _ _ hs2 hb2
   ·have hp : (0 : Int) < i := by omega
    simp [zq129_b4, hlt, hvx, hx, hy, hz, hp, show 0 < i by omega]
    refine vexpect_any (data := data) (l := l2) (fl := b2) [44, 32] s2 (by omega) (by simp) (hX0 _ _ _ _) _ fun s3 b3 hs3 hb3 => ?_
    rw [List.set_append_left _ _ (by simpa using hl1), List.set_set]
    refine hnext s3 b3 (by omega) fun h => ?_
    obtain ⟨h1, h2⟩ := hb3 h
    obtain ⟨h4, h5⟩ := hb2 h1
    simp at h2
    exact ⟨h4, by omega⟩
  ·obtain rfl : i = ts.length := by omega
   simp [zq129_b4]
   refine vexpect_any (data := data) (l := l2) (fl := b2) [41] s2 (by omega) (by simp) (hX0 _ _ _ _) _ fun s3 b3 hs3 hb3 => ?_
   rw [List.set_append_left _ _ (by simpa using hl1), List.set_set]
   refine hO vs s3 l2 b3 (by omega) (fun h => ?_) _ _ rfl
   obtain ⟨h1, h2⟩ := hb3 h
   obtain ⟨h4, h5⟩ := hb2 h1
   simp at h2
   exact ⟨h4, by omega⟩
def nstop (b : UInt8) : Bool := !decide (0 ≤ Lib.indexByte stopL b)
theorem value_cons_any {data : List Dat} (hk : KData data) (hD : dataOk data = true) {f : Nat} (hel : RdAnyV data f) (n : Int) (ks : List VT) (ht : tyValid data 0 (.mk 5 n ks) = true) (fl : Bool)
  (H : Heap) (id : Nat) (s : List UInt8) (l : Int) (hsf : fl = false → s.length ≤ f) (hb : s.length ≤ 1000000000) (hid : H[id]? = some (vrF data s l fl)) (hF : Fa H id) (K : Kt)
  (hK : ∀ (v : VT) s' l' b, s'.length ≤ s.length → (b = false → fl = false ∧ v.nodes + s'.length ≤ s.length) → K (.agg v.cs) (H.set id (vrF data s' l' b))) :
  ACalls Tryz.prog n_zq130 [.ptr id 0, .agg (VT.mk 5 n ks).cs] H K := by
 refine ACalls.out (zq130_ok fun hs => ?_)
 have hl1 := lt_get hid
 have hto : tyOk data 0 (.mk 5 n ks) = true := tyValid_ok ht
 have htn : (VT.mk 5 n ks).nodes ≤ 1000 := tyValid_nodes ht
 obtain ⟨hd0, hd1⟩ := tyValid_data ht
 obtain ⟨n, rfl⟩ : ∃ x : Nat, n = x := ⟨n.toNat, by omega⟩
 simp only [Int.toNat_natCast] at hd1
 obtain ⟨f1, f2, f3⟩ := kd_fields hk
 have hT' : (VT.mk 5 (n : Int) ks).cs = [.int .i64 5, .int .i64 n, .sl (VT.css ks) .none] := rfl
 have e1 : (data.map Dat.cs)[n]? = some (data[n]).cs := by simp [hd1]
 have hcl := f3 _ (List.getElem_mem hd1)
 have e := List.takeWhile_append_dropWhile (p := nstop) (l := s)
 obtain ⟨hw, htl⟩ := take_drop_while nstop s
 generalize s.takeWhile nstop = w at *
 generalize s.dropWhile nstop = s1 at *
 subst e
 simp only [List.length_append] at hb hsf
 have hX0 : ∀ s l b J, (H.set id (vrF data s l b) ++ J)[id]? = some (.cells [.sl (data.map Dat.cs) .none, .str s, .int .i64 l, .bool b]) := fun s l b J => by simp [List.getElem?_append, hl1, vrF]
 have hXF : ∀ s l b J, (H.set id (vrF data s l b) ++ J)[id]? = some (vrF data s l b) := fun s l b J => by simp [List.getElem?_append, hl1]
 have h0 : ∀ J : Heap, (H ++ J)[id]? = some (.cells [.sl (data.map Dat.cs) .none, .str (w ++ s1), .int .i64 l, .bool fl]) := fun J => by rw [List.getElem?_append_left hl1]; exact hid
 have hset : ∀ b J, (H ++ J).set id b = H.set id b ++ J := fun b J => List.set_append_left _ _ hl1
 have hsetX : ∀ x y (J : Heap), (H.set id x ++ J).set id y = H.set id y ++ J := fun x y J => by rw [List.set_append_left _ _ (by simpa using hl1), List.set_set]
 have hsc1 : ∀ s l b, HSc (H.set id (vrF data s l b)) := fun s l b => hs.set (vrF_sc _ _ _ _ _)
 have hscA : ∀ s l b, HSc (H.set id (vrF data s l b) ++ [.cells [.int .i64 5, .int .i64 n, .sl (VT.css ks) .none], .cells [.int .i64 0, .int .i64 0, .snil]]) := fun s l b => (hsc1 _ _ _).append (by simp [AB.sc, AV.scA, AV.scB])
 have hfail : ∀ J, zq130_j1 (.ptr id 0) (.ptr (H.length + 1) 0) (H.set id (vrF data s1 l fl) ++ ([.cells [.int .i64 5, .int .i64 n, .sl (VT.css ks) .none], .cells [.int .i64 0, .int .i64 0, .snil]] ++ J)) (Out H.length K) := by
  intro J
  simp [zq130_j1, zq130_j2]
  refine vfail_any (data := data) (s := s1) (l := l) (fl := fl) (hXF _ _ _ _) _ ?_
  rw [hsetX]
  simp [aBuild, fillA, AV.known, List.set_append, hl1, List.getElem?_append, Nat.add_assoc]
  exact Out.at (H2 := H.set id (vrF data [] l true)) (b := .agg [.int .i64 0, .int .i64 0, .sl (VT.css []) .none]) rfl (by simp) (hsc1 _ _ _) (.agg ⟨.refl _, .refl _, .snil, trivial⟩) rfl (by simp [AV.scV, AV.scA, AV.scB]) (by simpa [VT.cs] using hK (.mk 0 0 []) [] l true (by simp) fun h => by cases h)
 -- behind the name
 have hafter : zq130_l7 (.ptr id 0) (.ptr H.length 0) (.ptr (H.length + 1) 0) (.str w) (.sl ((data[n]).cons.map Con.cs) .none) (.int .i64 (data[n]).cons.length) (.int .i64 0)
   (H.set id (vrF data s1 l fl) ++ [.cells [.int .i64 5, .int .i64 n, .sl (VT.css ks) .none], .cells [.int .i64 0, .int .i64 0, .snil]]) (Out H.length K) := by
  refine zq130_loop7 (Inv := fun q t23 H' => ∃ (i : Nat), i ≤ (data[n]).cons.length ∧ q = (data[n]).cons.length - i ∧ t23 = .int .i64 i ∧
   H' = H.set id (vrF data s1 l fl) ++ [.cells [.int .i64 5, .int .i64 n, .sl (VT.css ks) .none], .cells [.int .i64 0, .int .i64 0, .snil]]) (data[n]).cons.length ?_ ?_
  ·intro _; exact ⟨0, by omega, by omega, rfl, rfl⟩
  ·rintro q t23 H' ⟨i, hi, rfl, rfl, rfl⟩ hsc' hlen' hsF Kb hKb
   by_cases hlt : i < (data[n]).cons.length
   ·by_cases hnm : ((data[n]).cons[i]).name = w
    ·have hne := (con_name hD hd1 hlt).1
     have hw1 : 1 ≤ w.length := by
      rw [← hnm]
      exact List.length_pos_iff.2 hne
     simp [zq130_b7, hlt, Con.cs, hX0, hnm]
     rw [← hT']
     refine aPureX_call (fieldsR (fields data (.mk 5 n ks) i)) (fun J => zq89_spec data f1 f2 f3 (.mk 5 n ks) (by omega) i _ _ ⟨rfl, rfl⟩) ?_
     cases hp : fields data (.mk 5 n ks) (i : Int) with
     | none =>
      simp [fieldsR, hT']
      have := hfail [.cells [.str w, .sl (VT.css ((data[n]).cons[i]).args) .none]]
      simpa using this
     | some ps =>
      have hpv : ∀ x ∈ ps, tyValid data 0 x = true := fun x hx => fields_valid hD hto hp x hx
      have hpl : ps.length ≤ 1000000 := fields_len1 hk hp
      simp [fieldsR, hT']
      by_cases hz : ps.length = 0
      ·have : ¬ 0 < ps.length := by omega
       simp [this, aBuild, fillA, zq130_j3, AV.known, List.set_append, List.getElem?_append]
       exact Out.at (H2 := H.set id (vrF data s1 l fl)) (b := .agg [.int .i64 5, .int .i64 i, .sl (VT.css []) .none]) rfl (by simp) (hsc1 _ _ _) (.agg ⟨.refl _, .refl _, .snil, trivial⟩) rfl (by simp [AV.scV, AV.scA, AV.scB])
        (by simpa [VT.cs] using hK (.mk 5 i []) s1 l fl (by simp) fun h => ⟨h, by simp [VT.nodes, VT.nodesL]; omega⟩)
      ·have : 0 < ps.length := by omega
       simp [this, aBuild, fillA, AV.known, List.set_append, List.getElem?_append]
       refine value_list_any hel ps hpl hpv fl _ id s1 l (fun h => by have := hsf h; omega) (by omega) ?_ (hF.next _) _ fun vs s' l' b hs' hb' => ?_
       ·simp [List.getElem?_append, hl1]
       ·simp [zq130_j3, AV.known, List.set_append, hl1, List.getElem?_append, Nat.add_assoc]
        have hK2 := hK (.mk 5 i vs) s' l' b (by simp; omega) fun h => ⟨(hb' h).1, by have := (hb' h).2; simp only [VT.nodes, List.length_append]; omega⟩
        exact Out.at (H2 := H.set id (vrF data s' l' b)) (b := .agg [.int .i64 5, .int .i64 i, .sl (VT.css vs) .none]) rfl (by simp) (hsc1 _ _ _) .rfl' rfl (by simp [AV.scV, AV.scA, AV.scB]) (by simpa [VT.cs] using hK2)
    ·have hdf' : (((data[n]).cons[i]).name == w) = false := by simpa using hnm
     simp [zq130_b7, hlt, Con.cs, hdf', hnm]
     rw [wrap_in (by omega) (by omega)]
     refine hKb _ _ ⟨(data[n]).cons.length - (i + 1), by omega, Back.at (J := [.cells [.str ((data[n]).cons[i]).name, .sl (VT.css ((data[n]).cons[i]).args) .none]]) (H2 := H.set id (vrF data s1 l fl) ++ [.cells [.int .i64 5, .int .i64 n, .sl (VT.css ks) .none], .cells [.int .i64 0, .int .i64 0, .snil]]) (by simp) (by simp) (hscA _ _ _) ?_ ⟨_, rfl, i + 1, by omega, rfl, by simp, rfl⟩⟩
     simp [zq130_fr7, AV.sc, AV.scV, AV.scA, AV.scB]
     try omega
   ·obtain rfl : i = (data[n]).cons.length := by omega
    simp [zq130_b7, hlt]
    have := hfail []
    simpa using this
 simp [zq130, VT.cs, Nat.add_assoc]
 refine zq130_loop2 (Inv := fun q t5 H' => ∃ i : Nat, i ≤ w.length ∧ q = w.length - i ∧ t5 = .int .i64 i ∧ H' = H ++ [.cells [.int .i64 5, .int .i64 n, .sl (VT.css ks) .none], .cells [.int .i64 0, .int .i64 0, .snil]]) w.length ?_ ?_
 ·intro _; exact ⟨0, by omega, by omega, rfl, rfl⟩
 ·rintro q t5 H' ⟨i, hi, rfl, rfl, rfl⟩ hsc hlen hsF Kb hKb
  by_cases hlt : i < w.length
  ·have hgi := hw _ (List.getElem_mem hlt)
   have h1 : (i : Int) < (w.length : Int) + (s1.length : Int) := by omega
   have hget : (w ++ s1)[i]?.getD 0 = w[i] := by simp [List.getElem?_append_left hlt, hlt]
   simp [zq130_b2, h0, h1, show i < w.length + s1.length by omega, hget, wrap_rune]
   rw [List.getElem_append_left hlt]
   refine ContainsRune_any w[i] _ _ ?_
   unfold nstop at hgi
   have hgi' : decide (0 ≤ Lib.indexByte stopL w[i]) = false := by
    cases h : decide (0 ≤ Lib.indexByte stopL w[i]) with
    | false => rfl
    | true => rw [h] at hgi; cases hgi
   rw [hgi']
   simp
   rw [wrap_in (by omega) (by omega)]
   refine hKb _ _ ⟨w.length - (i + 1), by omega, Back.here (by simp) hsc ?_ ⟨_, rfl, i + 1, by omega, rfl, by simp, rfl⟩⟩
   simp [zq130_fr2, AV.sc, AV.scV, AV.scA, AV.scB]
   try omega
  ·obtain rfl : i = w.length := by omega
   have hafter2 := hafter
   unfold vrF at hafter2
   cases hmt : s1 with
   | nil =>
    rw [hmt] at hafter2
    have h0' := fun J => h0 J
    rw [hmt] at h0'
    simp [zq130_b2, h0', aSlice, aBound, AV.known, hset]
    simp [e1, hd1, Dat.cs, Nat.add_assoc, List.getElem?_append, hl1]
    simpa using hafter2
   | cons b t =>
    rw [hmt] at hafter2
    have h0' := fun J => h0 J
    rw [hmt] at h0'
    have hbs := htl b (by rw [hmt]; rfl)
    have h1 : (w.length : Int) < (w.length : Int) + ((t.length : Int) + 1) := by omega
    have hidx : decide (0 ≤ Lib.indexByte stopL b) = true := by
     unfold nstop at hbs
     cases h : decide (0 ≤ Lib.indexByte stopL b) with
     | true => rfl
     | false => rw [h] at hbs; cases hbs
    simp [zq130_b2, h0', h1, aSlice, aBound, AV.known, hset, wrap_rune]
    refine ContainsRune_any b _ _ ?_
    rw [hidx]
    simp [h0', aSlice, aBound, AV.known, hset]
    simp [e1, hd1, Dat.cs, Nat.add_assoc, List.getElem?_append, hl1]
    simpa using hafter2
theorem value_array_any {data : List Dat} {f : Nat} (hel : RdAnyV data f) (t : VT) (ht : tyValid data 0 t = true) (fl : Bool)
  (H : Heap) (id : Nat) (s : List UInt8) (l : Int) (hsf : fl = false → s.length ≤ f) (hb : s.length ≤ 1000000000) (hid : H[id]? = some (vrF data s l fl)) (hF : Fa H id) (K : Kt)
  (hK : ∀ (v : VT) s' l' b, s'.length ≤ s.length → (b = false → fl = false ∧ v.nodes + s'.length ≤ s.length) → K (.agg v.cs) (H.set id (vrF data s' l' b))) :
  ACalls Tryz.prog n_zq131 [.ptr id 0, .agg t.cs] H K := by
 refine ACalls.out (zq131_ok fun hs => ?_)
 have hl1 := lt_get hid
 obtain ⟨x, y, z, hvx, hx, hy, hz⟩ := vt3' t
 have hX : ∀ s l b (J : Heap), (H.set id (vrF data s l b) ++ J)[id]? = some (vrF data s l b) := fun s l b J => by simp [List.getElem?_append, hl1]
 have hset : ∀ b b' J, (H.set id b ++ J).set id b' = H.set id b' ++ J := fun b b' J => by rw [List.set_append_left _ _ (by simpa using hl1), List.set_set]
 have hset0 : ∀ b' J, (H ++ J).set id b' = H.set id b' ++ J := fun b' J => List.set_append_left _ _ hl1
 have hc3 : ∀ v : VT, v.cs.length = 3 := fun v => by cases v; rfl
 have hsc1 : ∀ s l b, HSc (H.set id (vrF data s l b)) := fun s l b => hs.set (vrF_sc _ _ _ _ _)
 have hscA : ∀ s l b vs i, HSc (H.set id (vrF data s l b) ++ [.cells [x, y, z], .cells [.int .i64 0, .int .i64 0, .snil], .cells [.int .i64 6, .int .i64 0, .sl (VT.css vs) (.own (H.length + 3))], .perm e_api_Value 3 i]) := fun s l b vs i => (hsc1 _ _ _).append (by
  have := vt3' t
  obtain ⟨k, n, ks⟩ := t
  simp [VT.cs] at hvx
  obtain ⟨rfl, rfl, rfl⟩ := hvx
  simp [AB.sc, AV.scA, AV.scB])
 have hO : ∀ (vs : List VT) s' l' b (tk : Tok), s'.length ≤ s.length → (b = false → fl = false ∧ VT.nodesL vs + 1 + s'.length ≤ s.length) → ∀ J, Out H.length K (.agg [.int .i64 6, .int .i64 0, .sl (VT.css vs) tk]) (H.set id (vrF data s' l' b) ++ J) := fun vs s' l' b tk h1 h2 J =>
  Out.at (H2 := H.set id (vrF data s' l' b)) (b := .agg [.int .i64 6, .int .i64 0, .sl (VT.css vs) .none]) rfl (by simp) (hsc1 _ _ _) (.agg ⟨.refl _, .refl _, .sl _ _, trivial⟩) rfl (by simp [AV.scV, AV.scA, AV.scB])
   (by simpa [VT.cs] using hK (.mk 6 0 vs) s' l' b h1 fun h => by simp only [VT.nodes]; have := h2 h; exact ⟨this.1, by omega⟩)
 simp [zq131, hvx, aBuild, fillA, AV.known, Nat.add_assoc]
 refine ACalls.ownC (id := H.length + 2) (j := 2) (cs := [.int .i64 6, .int .i64 0, .snil]) e_api_Value 3 (by simp [List.set_append, List.getElem?_append]) rfl ?_
 simp [List.set_append]
 refine vexpect_any (data := data) (l := l) (fl := fl) [91] s hb (by simp) (by simp [List.getElem?_append, hl1]; have := (List.getElem?_eq_some_iff.1 hid).2; simpa using this) _ fun s1 b1 hs1 hb1 => ?_
 simp only [hset0]
 have hn1 : b1 = false → fl = false ∧ 1 + s1.length ≤ s.length := fun h => by
  obtain ⟨h1, h2⟩ := hb1 h
  simp at h2
  exact ⟨h1, by omega⟩
 refine vaccept_any (data := data) (l := l) (fl := b1) [93] s1 (by omega) (by simp) (hX _ _ _ _) _ (fun s2 hs2 => ?_) fun _ => ?_
 ·have h2 : s2.length ≤ s1.length := by rw [hs2]; simp
  simp [hset, AV.known, List.getElem?_append, List.set_append]
  exact hO [] s2 l b1 _ (by omega) (fun h => by obtain ⟨h3, h4⟩ := hn1 h; exact ⟨h3, by simp [VT.nodesL]; omega⟩) _
 ·have hV : ∀ s2 l2 b2 (J : Heap) (K' : Kt), (b2 = false → fl = false ∧ 1 + s2.length ≤ s.length) → s2.length ≤ s.length → (∀ (v : VT) s' l' b, s'.length ≤ s2.length → (b = false → b2 = false ∧ v.nodes + s'.length ≤ s2.length) → K' (.agg v.cs) (H.set id (vrF data s' l' b) ++ J)) →
    ACalls Tryz.prog n_zq71 [.ptr id 0, .agg t.cs] (H.set id (vrF data s2 l2 b2) ++ J) K' := by
   intro s2 l2 b2 J K' h1 h2 h3
   refine hel t ht _ id s2 l2 b2 (fun h => by obtain ⟨g1, g2⟩ := h1 h; have := hsf g1; omega) (by omega) (hX _ _ _ _) (hF.next _) _ fun v s' l' b g1 g2 => ?_
   rw [hset]
   exact h3 v s' l' b g1 g2
  have hst : ∀ (vs : List VT) s2 l2 b2 (C : Heap → Prop), vs.length ≤ 1000000001 → (b2 = false → fl = false ∧ 1 + s2.length ≤ s.length) → s2.length ≤ s.length →
    (∀ (v : VT) s' l' b, s'.length ≤ s2.length → (b = false → b2 = false ∧ v.nodes + s'.length ≤ s2.length) → C (H.set id (vrF data s' l' b) ++ [.cells [x, y, z], .cells [.int .i64 0, .int .i64 0, .snil], .cells [.int .i64 6, .int .i64 0, .sl (VT.css (vs ++ [v])) (.own (H.length + 3))], .perm e_api_Value 3 (vs.length + 1)])) →
    (ACalls Tryz.prog n_zq71 [.ptr id 0, .agg [x, y, z]] (H.set id (vrF data s2 l2 b2) ++ [.cells [x, y, z], .cells [.int .i64 0, .int .i64 0, .snil], .cells [.int .i64 6, .int .i64 0, .sl (VT.css vs) (.own (H.length + 3))], .perm e_api_Value 3 vs.length]) fun t16 H_1 =>
     aBuildS 3 [.int .i64 0, .int .i64 0, .snil] 1 [(0, t16)] fun t17 => aAppend e_api_Value 3 40 (.sl (VT.css vs) (.own (H.length + 3))) t17 H_1 fun t18 H_2 => aStoreB 1 2 (H.length + 2) t18.cs? H_2[H.length + 2]? H_2 C) ∧
    (ACalls Tryz.prog n_zq71 [.ptr id 0, .agg [x, y, z]] (H.set id (vrF data s2 l2 b2) ++ [.cells [x, y, z], .cells [.int .i64 0, .int .i64 0, .snil], .cells [.int .i64 6, .int .i64 0, .sl (VT.css vs) (.own (H.length + 3))], .perm e_api_Value 3 vs.length]) fun t16 H_1 =>
     (aLoadB false 1 2 H_1[H.length + 2]? fun t13 => aBuildS 3 [.int .i64 0, .int .i64 0, .snil] 1 [(0, t16)] fun t17 => aAppend e_api_Value 3 40 t13 t17 H_1 fun t18 H_2 => aStoreB 1 2 (H.length + 2) t18.cs? H_2[H.length + 2]? H_2 C) ∧
     aBuildS 3 [.int .i64 0, .int .i64 0, .snil] 1 [(0, t16)] fun t17 => aLoadB false 1 2 H_1[H.length + 2]? fun t13 => aAppend e_api_Value 3 40 t13 t17 H_1 fun t18 H_2 => aStoreB 1 2 (H.length + 2) t18.cs? H_2[H.length + 2]? H_2 C) := by
   intro vs s2 l2 b2 C hvl h1 h2 hC
   have hci : (VT.css vs).length = vs.length := by rw [VT.css_map]; simp
   rw [← hvx] at hC ⊢
   have hgo : ((vs.length + 1) * 40 ≤ 140737488355328 ∧ vs.length ≤ 9223372036854775806) := ⟨by omega, by omega⟩
   refine ⟨hV s2 l2 b2 _ _ h1 h2 fun v s' l' b g1 g2 => ?_, hV s2 l2 b2 _ _ h1 h2 fun v s' l' b g1 g2 => ⟨?_, ?_⟩⟩
   ·have hC' := hC v s' l' b g1 g2
    rw [vcss_snoc'] at hC'
    rw [buildS_vt]
    simp [aAppend, aSrc, aAppTo, hci, hc3, List.set_append, List.getElem?_append, show ¬ H.length + 3 < H.length by omega, show ¬ H.length + 2 < H.length by omega]
    exact ⟨hgo, by simpa using hC'⟩
   ·have hC' := hC v s' l' b g1 g2
    rw [vcss_snoc'] at hC'
    simp [List.getElem?_append]
    rw [buildS_vt]
    simp [aAppend, aSrc, aAppTo, hci, hc3, List.set_append, List.getElem?_append, show ¬ H.length + 3 < H.length by omega, show ¬ H.length + 2 < H.length by omega]
    exact ⟨hgo, by simpa using hC'⟩
   ·have hC' := hC v s' l' b g1 g2
    rw [vcss_snoc'] at hC'
    rw [buildS_vt]
    simp [aAppend, aSrc, aAppTo, hci, hc3, List.set_append, List.getElem?_append, show ¬ H.length + 3 < H.length by omega, show ¬ H.length + 2 < H.length by omega]
    exact ⟨hgo, by simpa using hC'⟩
  have hloop : ∀ (v1 : VT) s2 l2 b2, s2.length ≤ s1.length → (b2 = false → b1 = false ∧ v1.nodes + s2.length ≤ s1.length) → zq131_l6 (.ptr id 0) (.ptr H.length 0) (.ptr (H.length + 1) 0) (.ptr (H.length + 2) 0) (H.set id (vrF data s2 l2 b2) ++ [.cells [x, y, z], .cells [.int .i64 0, .int .i64 0, .snil], .cells [.int .i64 6, .int .i64 0, .sl (VT.css ([] ++ [v1])) (.own (H.length + 3))], .perm e_api_Value 3 1]) (Out H.length K) := by
   intro v1 s2 l2 b2 hs2 hb2
   refine zq131_loop6 (Inv := fun q H' => ∃ (vs : List VT) (s3 : List UInt8) (l3 : Int) (b3 : Bool), q = s3.length ∧ s3.length ≤ s.length ∧ vs.length + s3.length ≤ s.length + 1 ∧ (b3 = false → fl = false ∧ VT.nodesL vs + 1 + s3.length ≤ s.length) ∧
    H' = H.set id (vrF data s3 l3 b3) ++ [.cells [x, y, z], .cells [.int .i64 0, .int .i64 0, .snil], .cells [.int .i64 6, .int .i64 0, .sl (VT.css vs) (.own (H.length + 3))], .perm e_api_Value 3 vs.length]) s2.length ?_ ?_
   ·intro _
    exact ⟨[v1], s2, l2, b2, rfl, by omega, by simp; omega, fun h => by
     obtain ⟨h1, h2⟩ := hb2 h
     obtain ⟨h3, h4⟩ := hn1 h1
     exact ⟨h3, by simp [VT.nodesL]; omega⟩, rfl⟩
   ·rintro q H' ⟨vs, s3, l3, b3, rfl, hs3, hvl, hb3, rfl⟩ hsc' hlen hsF Kb hKb
    simp only [zq131_b6]
    refine vaccept_any (data := data) (l := l3) (fl := b3) [44, 32] s3 (by omega) (by simp) (hX _ _ _ _) _ (fun s4 hs4 => ?_) fun _ => ?_
    ·rw [hset]
     have h44 : s4.length + 2 = s3.length := by rw [hs4]; simp
     have h1 := hst vs s4 l3 b3 (fun X => zq131_j2 (.ptr id 0) (.ptr H.length 0) (.ptr (H.length + 1) 0) (.ptr (H.length + 2) 0) X (Out H.length K) Kb) (by omega) (fun h => by obtain ⟨g1, g2⟩ := hb3 h; exact ⟨g1, by omega⟩) (by omega) (fun v s' l' b g1 g2 => by
      simp only [zq131_j2]
      refine hKb _ _ ⟨s'.length, by omega, Back.here (by simp) (hscA _ _ _ _ _) ?_ ⟨rfl, vs ++ [v], s', l', b, rfl, by omega, by simp; omega, fun h => ?_, by simp⟩⟩
      ·simp [zq131_fr6, AV.sc, AV.scV, AV.scA, AV.scB]
       try omega
      ·obtain ⟨g3, g4⟩ := g2 h
       obtain ⟨g5, g6⟩ := hb3 g3
       rw [vnodesL_snoc]
       exact ⟨g5, by omega⟩)
     simp [hX, List.getElem?_append, List.set_append]
     simpa using h1
    ·simp
     refine vexpect_any (data := data) (l := l3) (fl := b3) [93] s3 (by omega) (by simp) (hX _ _ _ _) _ fun s4 b4 hs4 hb4 => ?_
     rw [hset]
     simp [AV.known, List.getElem?_append, List.set_append]
     exact hO vs s4 l3 b4 _ (by omega) (fun h => by
      obtain ⟨g1, g2⟩ := hb4 h
      obtain ⟨g3, g4⟩ := hb3 g1
      simp at g2
      exact ⟨g3, by omega⟩) _
  have h1 := hst [] s1 l b1 (fun X => zq131_j1 (.ptr id 0) (.ptr H.length 0) (.ptr (H.length + 1) 0) (.ptr (H.length + 2) 0) X (Out H.length K)) (by simp) hn1 hs1 (fun v s' l' b g1 g2 => hloop v s' l' b g1 g2)
  simp [hX, List.getElem?_append, List.set_append]
  simpa [VT.css] using h1
theorem value_value_any {data : List Dat} (hk : KData data) (hD : dataOk data = true) : ∀ f, RdAnyV data f := by
 have hhead : ∀ (k n : Int) (ks : List VT) (H : Heap) (id : Nat) (s : List UInt8) (l : Int) (fl : Bool), H[id]? = some (vrF data s l fl) → ∀ K : Kt, (∀ (v : VT) s' l' b, s'.length ≤ s.length → (b = false → fl = false ∧ v.nodes + s'.length ≤ s.length) → K (.agg v.cs) (H.set id (vrF data s' l' b))) → 
   (fl = true ∨ IntKind.i64.wrap (l - 1) < 0) → ACalls Tryz.prog n_zq71 [.ptr id 0, .agg (VT.mk k n ks).cs] H K := by
  intro k n ks H id s l fl hid K hK hbad
  refine ACalls.out (zq71_ok fun hs => ?_)
  have hl1 := lt_get hid
  generalize hw : IntKind.i64.wrap (l - 1) = w at *
  have hX : ∀ s l b (J : Heap), (H.set id (vrF data s l b) ++ J)[id]? = some (vrF data s l b) := fun s l b J => by simp [List.getElem?_append, hl1]
  have hset : ∀ b b' J, (H.set id b ++ J).set id b' = H.set id b' ++ J := fun b b' J => by rw [List.set_append_left _ _ (by simpa using hl1), List.set_set]
  have hset0 : ∀ b' J, (H ++ J).set id b' = H.set id b' ++ J := fun b' J => List.set_append_left _ _ hl1
  have h0 : ∀ J : Heap, (H ++ J)[id]? = some (.cells [.sl (data.map Dat.cs) .none, .str s, .int .i64 l, .bool fl]) := fun J => by rw [List.getElem?_append_left hl1]; exact hid
  have hidE : H[id]'hl1 = .cells [.sl (data.map Dat.cs) .none, .str s, .int .i64 l, .bool fl] := (List.getElem?_eq_some_iff.1 hid).2
  have hX' : ∀ s l b (J : Heap), (H.set id (.cells [.sl (data.map Dat.cs) .none, .str s, .int .i64 l, .bool b]) ++ J)[id]? = some (.cells [.sl (data.map Dat.cs) .none, .str s, .int .i64 l, .bool b]) := hX
  have hO : ∀ J, Out H.length K (.agg [.int .i64 0, .int .i64 0, .snil]) (H.set id (vrF data [] w true) ++ J) := fun J =>
   Out.at (H2 := H.set id (vrF data [] w true)) (b := .agg [.int .i64 0, .int .i64 0, .sl (VT.css []) .none]) rfl (by simp) (hs.set (vrF_sc _ _ _ _ _)) (.agg ⟨.refl _, .refl _, .snil, trivial⟩) rfl (by simp [AV.scV, AV.scA, AV.scB]) (by simpa [VT.cs] using hK (.mk 0 0 []) [] w true (by simp) fun h => by cases h)
  cases fl with
  | true =>
   simp [zq71, VT.cs, h0, hidE, List.set_append, hset0, hX', hw, AV.known, Nat.add_assoc, List.getElem?_append, hl1, show id < H.length + 1 by omega]
   refine vfail_any (data := data) (s := s) (l := w) (fl := true) (hX _ _ _ _) _ ?_
   rw [hset]
   simp [aBuild, fillA, AV.known, hset, List.getElem?_append, List.set_append, hl1]
   exact hO _
  | false =>
   have hneg : w < 0 := by rcases hbad with h | h <;> first | cases h | exact h
   simp [zq71, VT.cs, h0, hidE, List.set_append, hset0, hX', hw, hneg, AV.known, Nat.add_assoc, List.getElem?_append, hl1, show id < H.length + 1 by omega]
   refine vfail_any (data := data) (s := s) (l := w) (fl := false) (hX _ _ _ _) _ ?_
   rw [hset]
   simp [aBuild, fillA, AV.known, hset, List.getElem?_append, List.set_append, hl1]
   exact hO _
 intro f
 induction f with
 | zero =>
  intro t ht H id s l fl hsf hb hid hF K hK
  obtain ⟨k, n, ks⟩ := t
  refine hhead k n ks H id s l fl hid K hK ?_
  cases fl with
  | true => exact .inl rfl
  | false => exact absurd (hsf rfl) (by omega)
 | succ f ih =>
  intro t ht H id s l fl hsf hb hid hF K hK
  obtain ⟨k, n, ks⟩ := t
  by_cases hbad : fl = true ∨ IntKind.i64.wrap (l - 1) < 0
  ·exact hhead k n ks H id s l fl hid K hK hbad
  obtain ⟨hfl, hneg⟩ := not_or.1 hbad
  obtain rfl : fl = false := by simpa using hfl
  refine ACalls.out (zq71_ok fun hs => ?_)
  have hl1 := lt_get hid
  have htk := tyValid_kids ht
  have hto := tyValid_ok ht
  have htl : ks.length ≤ 1000000 := by
   have h1 : (VT.mk k n ks).nodes ≤ 1000 := tyValid_nodes ht
   have h2 := VT.len_le ks
   simp [VT.nodes] at h1
   omega
  generalize hw : IntKind.i64.wrap (l - 1) = w at *
  have hs1 : s.length ≤ f := by have := hsf rfl; omega
  have hX : ∀ s l b (J : Heap), (H.set id (vrF data s l b) ++ J)[id]? = some (vrF data s l b) := fun s l b J => by simp [List.getElem?_append, hl1]
  have hset : ∀ b b' J, (H.set id b ++ J).set id b' = H.set id b' ++ J := fun b b' J => by rw [List.set_append_left _ _ (by simpa using hl1), List.set_set]
  have hset0 : ∀ b' J, (H ++ J).set id b' = H.set id b' ++ J := fun b' J => List.set_append_left _ _ hl1
  have h0 : ∀ J : Heap, (H ++ J)[id]? = some (.cells [.sl (data.map Dat.cs) .none, .str s, .int .i64 l, .bool false]) := fun J => by rw [List.getElem?_append_left hl1]; exact hid
  have hidE : H[id]'hl1 = .cells [.sl (data.map Dat.cs) .none, .str s, .int .i64 l, .bool false] := (List.getElem?_eq_some_iff.1 hid).2
  have hX' : ∀ s l b (J : Heap), (H.set id (.cells [.sl (data.map Dat.cs) .none, .str s, .int .i64 l, .bool b]) ++ J)[id]? = some (.cells [.sl (data.map Dat.cs) .none, .str s, .int .i64 l, .bool b]) := hX
  have hsc1 : ∀ s l b, HSc (H.set id (vrF data s l b)) := fun s l b => hs.set (vrF_sc _ _ _ _ _)
  have hO : ∀ (a b : Int) (vs : List VT) s' l' fl' (tk : Tok), s'.length ≤ s.length → (fl' = false → VT.nodesL vs + 1 + s'.length ≤ s.length) → ∀ J, Out H.length K (.agg [.int .i64 a, .int .i64 b, .sl (VT.css vs) tk]) (H.set id (vrF data s' l' fl') ++ J) := fun a b vs s' l' fl' tk h1 h2 J =>
   Out.at (H2 := H.set id (vrF data s' l' fl')) (b := .agg [.int .i64 a, .int .i64 b, .sl (VT.css vs) .none]) rfl (by simp) (hsc1 _ _ _) (.agg ⟨.refl _, .refl _, .sl _ _, trivial⟩) rfl (by simp [AV.scV, AV.scA, AV.scB])
    (by simpa [VT.cs] using hK (.mk a b vs) s' l' fl' h1 fun h => ⟨rfl, by simp only [VT.nodes]; have := h2 h; omega⟩)
  have hO0 : ∀ (a b : Int) s' l' fl', s'.length ≤ s.length → (fl' = false → 1 + s'.length ≤ s.length) → ∀ J, Out H.length K (.agg [.int .i64 a, .int .i64 b, .snil]) (H.set id (vrF data s' l' fl') ++ J) := fun a b s' l' fl' h1 h2 J =>
   Out.at (H2 := H.set id (vrF data s' l' fl')) (b := .agg [.int .i64 a, .int .i64 b, .sl (VT.css []) .none]) rfl (by simp) (hsc1 _ _ _) (.agg ⟨.refl _, .refl _, .snil, trivial⟩) rfl (by simp [AV.scV, AV.scA, AV.scB])
    (by simpa [VT.cs] using hK (.mk a b []) s' l' fl' h1 fun h => ⟨rfl, by simp only [VT.nodes, VT.nodesL]; have := h2 h; omega⟩)
  have hvr : (AB.cells [.sl (data.map Dat.cs) .none, .str s, .int .i64 w, .bool false]) = vrF data s w false := rfl
  simp [zq71, VT.cs, h0, hidE, List.set_append, hset0, hX', hw, hneg, AV.known, Nat.add_assoc, List.getElem?_append, hl1, show id < H.length + 1 by omega]
  rw [hvr]
  rcases ty_kinds hto with ⟨rfl, rfl⟩ | ⟨rfl, rfl⟩ | ⟨rfl, rfl⟩ | rfl | ⟨rfl, hk1⟩ | ⟨rfl, hk1⟩ | ⟨rfl, hk1⟩ | ⟨rfl, hk1⟩
  ·simp
   refine vnumber_any (data := data) (l := w) (fl := false) s hb (hX _ _ _ _) (hF.next _) _ fun m s' b h1 h2 => ?_
   rw [hset]
   simp [aBuild, fillA, AV.known, hset, List.getElem?_append, List.set_append, hl1]
   exact hO0 3 m s' w b h1 (fun h => (h2 h).2) _
  ·simp
   refine vaccept_any (data := data) (l := w) (fl := false) [116, 114, 117, 101] s hb (by simp) (hX _ _ _ _) _ (fun s' he => ?_) fun _ => ?_
   ·have h4 : s'.length + 4 = s.length := by rw [he]; simp
    rw [hset]
    simp [aBuild, fillA, AV.known, hset, List.getElem?_append, List.set_append, hl1]
    exact hO0 2 1 s' w false (by omega) (fun _ => by omega) _
   ·simp
    refine vexpect_any (data := data) (l := w) (fl := false) [102, 97, 108, 115, 101] s hb (by simp) (hX _ _ _ _) _ fun s' b h1 h2 => ?_
    rw [hset]
    simp [aBuild, fillA, AV.known, hset, List.getElem?_append, List.set_append, hl1]
    exact hO0 2 0 s' w b h1 (fun h => by have := (h2 h).2; simp at this; omega) _
  ·simp
   refine vexpect_any (data := data) (l := w) (fl := false) [40, 41] s hb (by simp) (hX _ _ _ _) _ fun s' b h1 h2 => ?_
   rw [hset]
   simp [aBuild, fillA, AV.known, hset, List.getElem?_append, List.set_append, hl1]
   exact hO0 1 0 s' w b h1 (fun h => by have := (h2 h).2; simp at this; omega) _
  ·simp
   have hT' : (VT.mk 5 n ks).cs = [.int .i64 5, .int .i64 n, .sl (VT.css ks) .none] := rfl
   rw [← hT']
   refine value_cons_any hk hD ih n ks ht false _ id s w (fun _ => hs1) hb (hX _ _ _ _) (hF.next _) _ fun v s' l' b h1 h2 => ?_
   obtain ⟨va, vb, vc⟩ := v
   rw [hset]
   simp [VT.cs, AV.known, List.getElem?_append, List.set_append]
   exact hO va vb vc s' l' b .none h1 (fun h => by have := (h2 h).2; simp only [VT.nodes] at this; omega) _
  ·simp
   refine value_list_any ih ks htl htk false _ id s w (fun _ => hs1) hb (hX _ _ _ _) (hF.next _) _ fun vs s' l' b h1 h2 => ?_
   rw [hset]
   simp [aBuild, fillA, AV.known, hset, List.getElem?_append, List.set_append, hl1]
   exact hO 4 0 vs s' l' b .none h1 (fun h => by have := (h2 h).2; omega) _
  ·obtain ⟨t1, rfl⟩ : ∃ t1, ks = [t1] := by match ks, hk1 with | [t1], _ => exact ⟨t1, rfl⟩
   obtain ⟨x, y, z, hvx, hx, hy, hz⟩ := vt3' t1
   have ht1 := htk t1 (by simp)
   simp [VT.css, hvx, hx, hy, hz]
   rw [← hvx]
   refine value_array_any ih t1 ht1 false _ id s w (fun _ => hs1) hb (hX _ _ _ _) (hF.next _) _ fun v s' l' b h1 h2 => ?_
   obtain ⟨va, vb, vc⟩ := v
   rw [hset]
   simp [VT.cs, AV.known, List.getElem?_append, List.set_append]
   exact hO va vb vc s' l' b .none h1 (fun h => by have := (h2 h).2; simp only [VT.nodes] at this; omega) _
  ·simp
   refine vexpect_any (data := data) (l := w) (fl := false) [114, 101, 102] s hb (by simp) (hX _ _ _ _) _ fun s1 b1 h1 h2 => ?_
   rw [hset]
   simp only [List.getElem?_append, List.length_set]
   simp
   refine value_list_any ih ks htl htk b1 _ id s1 w (fun _ => by omega) (by omega) (hX _ _ _ _) (hF.next _) _ fun vs s' l' b h3 h4 => ?_
   rw [hset]
   simp [aBuild, fillA, AV.known, hset, List.getElem?_append, List.set_append, hl1]
   exact hO 7 0 vs s' l' b .none (by omega) (fun h => by have := (h4 h).2; omega) _
  ·simp
   refine vexpect_any (data := data) (l := w) (fl := false) [102, 110, 35] s hb (by simp) (hX _ _ _ _) _ fun s1 b1 h1 h2 => ?_
   rw [hset]
   refine vnumber_any (data := data) (l := w) (fl := b1) s1 (by omega) (hX _ _ _ _) (hF.next _) _ fun m s' b h3 h4 => ?_
   rw [hset]
   simp [aBuild, fillA, AV.known, hset, List.getElem?_append, List.set_append, hl1]
   exact hO0 8 m s' w b (by omega) (fun h => by have := (h4 h).2; omega) _
theorem zq36_none (data : List Dat) (hk : KData data) (t : VT) (ht : t.nodes ≤ 1000000) (s : List UInt8) (hb : s.length ≤ 2000) (hno : ¬ ∃ v, GoodV data t s v) (H : Heap) {i k : Nat} (hf : H[i]? = some (.fact EF)) (hlf : H[k]? = some (.fact LF)) (K : Kt) (hK : K (.tup [.agg (VT.mk 0 0 []).cs, .bool false]) H) :
  ACalls Tryz.prog n_zq36 [.sl (data.map Dat.cs) .none, .agg t.cs, .str s] H K := by
 refine ACalls.out (zq36_ok fun hs => ?_)
 obtain ⟨x, y, z, hvx, hx, hy, hz⟩ := vt3' t
 have hil := lt_get hf
 have hO : ∀ J, Out H.length K (.tup [.agg [.int .i64 0, .int .i64 0, .snil], .bool false]) (H ++ J) := fun J => Out.tup (bs := [.agg [.int .i64 0, .int .i64 0, .sl (VT.css []) .none], .bool false]) hs (by simpa [VT.cs] using hK) ⟨⟨.agg ⟨.refl _, .refl _, .snil, trivial⟩, rfl, by simp [AV.scV, AV.scA, AV.scB]⟩, keepV rfl rfl, trivial⟩
 simp [zq36, hvx, Nat.add_assoc]
 rw [← hvx]
 refine zq48_spec data (kdata_small hk) (by have := hk.1; omega) t ht ?_
 cases hfv : fineV data t with
 | false =>
  simp [aBuild, fillA, AV.known, List.getElem?_append, Nat.add_assoc]
  exact ⟨⟨rfl, rfl⟩, hO _⟩
 | true =>
  have hfv' := hfv
  unfold fineV at hfv'
  simp only [Bool.and_eq_true] at hfv'
  obtain ⟨hD, htv⟩ := hfv'
  simp [aBuild, fillA, AV.known, hvx, hx, hy, hz, List.getElem?_append, Nat.add_assoc]
  rw [← hvx]
  refine value_value_any hk hD (s.length + 1) t htv _ (H.length + 2) s 5000 false (by simp) (by omega) (by simp [vrF]) ⟨i, by omega, by rw [List.getElem?_append_left hil]; exact hf⟩ _ fun v s' l' b hs' hb' => ?_
  obtain ⟨x2, y2, z2, hvx2, hx2, hy2, hz2⟩ := vt3' v
  cases b with
  | true =>
   simp [vrF, hvx2, hx2, hy2, hz2, hx, hy, hz, List.getElem?_append, List.set_append, Nat.add_assoc, aBuild, fillA]
   exact ⟨⟨rfl, rfl⟩, hO _⟩
  | false =>
   have hn := (hb' rfl).2
   by_cases hz' : s' = []
   ·subst hz'
    simp at hn
    simp [vrF, hvx2, hx2, hy2, hz2, hx, hy, hz, List.getElem?_append, List.set_append, Nat.add_assoc]
    rw [← hvx2]
    refine zq19_spec data hk v t (by omega) ht _ (k := k) (app_get hlf) _ ?_
    have hne : fmtT data v t ≠ s := by
     intro he
     unfold fmtT at he
     split at he
     ·rename_i hd
      exact hno ⟨v, by omega, hd, he.symm⟩
     ·subst he
      have := v.nodes_pos
      simp at hn
      omega
    have hne' : (fmtT data v t == s) = false := by simpa using hne
    simp [hne, hne', hvx2, hx2, hy2, hz2, List.getElem?_append, List.set_append, Nat.add_assoc, aBuild, fillA]
    exact ⟨⟨rfl, rfl⟩, hO _⟩
   ·have hie : s'.isEmpty = false := by cases s' with
     | nil => exact absurd rfl hz'
     | cons a l => rfl
    simp [vrF, hvx2, hx2, hy2, hz2, hx, hy, hz, hz', hie, List.getElem?_append, List.set_append, Nat.add_assoc, aBuild, fillA]
    exact ⟨⟨rfl, rfl⟩, hO _⟩
theorem ValueParses_spec (data : List Dat) (hlen : data.length ≤ 9223372036854775807) (t : VT) (s : List UInt8) (hsl : s.length ≤ 9223372036854775807) (H : Heap) (K : Kt) (hlf : H[0]? = some (.fact LF)) (hf : H[1]? = some (.fact EF)) (hK : K (.bool true) H) :
  ACalls Tryz.prog n_zq8 [.sl (data.map Dat.cs) .none, .agg t.cs, .str s] H K := by
 refine ACalls.out (zq8_ok fun hs => ?_)
 have hO : ∀ J, Out H.length K (.bool true) (H ++ J) := fun J => Out.bool rfl (Nat.le_refl _) hs hK
 obtain ⟨x, y, z, hvx, hx, hy, hz⟩ := vt3' t
 simp [zq8, hvx, Nat.add_assoc]
 refine zq13_spec data _ _ hlen fun b1 hb1 => ?_
 cases b1 with
 | false =>
  simp
  exact hO _
 | true =>
  simp [Nat.add_assoc]
  rw [← hvx]
  refine zq15_spec t _ _ fun b3 hb3 => ?_
  cases b3 with
  | false =>
   simp
   exact hO _
  | true =>
   have hk := hb1 rfl
   have ht := hb3 rfl
   by_cases hl : 2000 < s.length
   ·have hl' : (2000 : Int) < s.length := by omega
    simp [hl, hl']
    exact hO _
   ·have hl' : ¬ (2000 : Int) < s.length := by omega
    simp [hl, hl', hvx, hx, hy, hz, Nat.add_assoc]
    rw [← hvx]
    by_cases hg : ∃ v, GoodV data t s v
    ·obtain ⟨v, hv⟩ := hg
     have hvn := hv.1
     have he := hv.2.2
     obtain ⟨x2, y2, z2, hvx2, hx2, hy2, hz2⟩ := vt3' v
     have hp := zq36_back data hk v t hv.1 (by omega) hv.2.1
     rw [← he] at hp
     refine hp _ (k := 0) (app_get hlf) _ ?_
     simp [hvx, hvx2, hx2, hy2, hz2, hx, hy, hz, List.getElem?_append, List.set_append, Nat.add_assoc]
     rw [← hvx]
     refine zq37_spec data hk t (by omega) s (by omega) _ _ (fun w hw => ?_) fun h => absurd ⟨v, hv⟩ h
     obtain rfl : w = v := by
      rw [← (goodV_read hk (by omega) hw).1]
      exact (goodV_read hk (by omega) hv).1
     simp [hvx2, hx2, hy2, hz2, List.getElem?_append, List.set_append, Nat.add_assoc]
     rw [← hvx2]
     refine keep_Same_spec _ w (Nat.le_refl _) (by omega) _ _ ?_
     try simp
     refine awake_spec _ _ ?_
     try simp
     exact hO _
    ·refine zq36_none data hk t (by omega) s (by omega) hg _ (i := 1) (k := 0) (app_get hf) (app_get hlf) _ ?_
     simp [VT.cs, hvx, hx, hy, hz, List.getElem?_append, List.set_append, Nat.add_assoc]
     rw [← hvx]
     refine zq37_spec data hk t (by omega) s (by omega) _ _ (fun w hw => absurd ⟨w, hw⟩ hg) fun _ => ?_
     simp [VT.cs, List.getElem?_append, List.set_append, Nat.add_assoc]
     have hsame := keep_Same_spec _ (.mk 0 0 []) (Nat.le_refl _) (by simp [VT.nodes, VT.nodesL])
     simp only [VT.cs] at hsame
     refine hsame _ _ ?_
     try simp
     refine awake_spec _ _ ?_
     try simp
     exact hO _
end Go.Proofs.YtfpmdpldabopjaaGreatDoor
