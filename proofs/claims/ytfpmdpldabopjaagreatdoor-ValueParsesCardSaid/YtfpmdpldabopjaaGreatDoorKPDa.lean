import Derived.Test.YtfpmdpldabopjaaGreatDoorKPCc
import Derived.Test.YtfpmdpldabopjaaGreatDoorAbsZ
set_option linter.unusedSimpArgs false
set_option linter.unusedVariables false
namespace Go.Proofs.YtfpmdpldabopjaaGreatDoor
open Go Go.Abs
def fold10 (l : List UInt8) : Nat := l.foldl (fun a b => a * 10 + (b.toNat - 48)) 0
theorem fold10_snoc (l : List UInt8) (c : UInt8) : fold10 (l ++ [c]) = fold10 l * 10 + (c.toNat - 48) := by simp [fold10]
theorem dig_iff {b : UInt8} : bDig b = true ↔ 48 ≤ b.toNat ∧ b.toNat ≤ 57 := by
 unfold bDig
 simp only [Bool.and_eq_true, decide_eq_true_eq]
 omega
theorem byte_back {c : UInt8} (h : 48 ≤ c.toNat) : UInt8.ofNat (48 + (c.toNat - 48)) = c := by
 rw [show 48 + (c.toNat - 48) = c.toNat by omega]
 simp
theorem head_snoc {l : List UInt8} {c : UInt8} (h : l ≠ []) : (l ++ [c]).head? = l.head? := by
 cases l with
 | nil => exact absurd rfl h
 | cons a l => rfl
theorem fold10_pos : ∀ (n : Nat) (l : List UInt8), l.length = n + 1 → (∀ b ∈ l, bDig b = true) → l.head? ≠ some 48 → 1 ≤ fold10 l
 | 0, l, hl, hd, hh => by
  match l, hl with
  | [c], _ =>
   have h1 := dig_iff.1 (hd c (by simp))
   simp [fold10]
   have : c.toNat ≠ 48 := fun h => hh (by simp; exact UInt8.toNat_inj.1 (by simpa using h))
   omega
 | n + 1, l, hl, hd, hh => by
  have hne : l ≠ [] := by intro h; subst h; simp at hl
  have e := List.dropLast_concat_getLast hne
  rw [← e, fold10_snoc]
  have hne2 : l.dropLast ≠ [] := by intro h; have := congrArg List.length h; simp at this; omega
  have := fold10_pos n l.dropLast (by simp; omega) (fun b hb => hd b ((List.dropLast_sublist l).subset hb)) (by rw [← head_snoc (c := l.getLast hne) hne2, e]; exact hh)
  omega
theorem dec_fold : ∀ (n : Nat) (l : List UInt8), l.length = n + 1 → (∀ b ∈ l, bDig b = true) → (l.head? = some 48 → n = 0) → Lib.decDigits (fold10 l) = l
 | 0, l, hl, hd, hh => by
  match l, hl with
  | [c], _ =>
   have h1 := dig_iff.1 (hd c (by simp))
   have e : fold10 [c] = c.toNat - 48 := by simp [fold10]
   rw [e, Lib.decDigits_one (by omega), byte_back h1.1]
 | n + 1, l, hl, hd, hh => by
  have hne : l ≠ [] := by intro h; subst h; simp at hl
  have e := List.dropLast_concat_getLast hne
  have hne2 : l.dropLast ≠ [] := by intro h; have := congrArg List.length h; simp at this; omega
  have hh2 : l.head? ≠ some 48 := fun h => by have := hh h; omega
  have hh3 : l.dropLast.head? ≠ some 48 := by rw [← head_snoc (c := l.getLast hne) hne2, e]; exact hh2
  have hd2 : ∀ b ∈ l.dropLast, bDig b = true := fun b hb => hd b ((List.dropLast_sublist l).subset hb)
  have hp := fold10_pos n l.dropLast (by simp; omega) hd2 hh3
  have ih := dec_fold n l.dropLast (by simp; omega) hd2 (fun h => absurd h hh3)
  have h1 := dig_iff.1 (hd (l.getLast hne) (List.getLast_mem hne))
  rw [← e, fold10_snoc, Lib.decDigits, dif_neg (by omega)]
  have e1 : (fold10 l.dropLast * 10 + ((l.getLast hne).toNat - 48)) / 10 = fold10 l.dropLast := by omega
  have e2 : (fold10 l.dropLast * 10 + ((l.getLast hne).toNat - 48)) % 10 = (l.getLast hne).toNat - 48 := by omega
  rw [e1, e2, ih, byte_back h1.1]
theorem fold_dec : ∀ (m u : Nat), u ≤ m → fold10 (Lib.decDigits u) = u ∧ (u ≠ 0 → (Lib.decDigits u).head? ≠ some 48) := by
 intro m
 induction m with
 | zero =>
  intro u hu
  obtain rfl : u = 0 := by omega
  rw [Lib.decDigits_one (by omega)]
  exact ⟨by decide, fun h => absurd rfl h⟩
 | succ m ih =>
  intro u hu
  by_cases h : u < 10
  ·rw [Lib.decDigits_one h]
   have : ∀ k : Nat, k < 10 → fold10 [UInt8.ofNat (48 + k)] = k ∧ (k ≠ 0 → [UInt8.ofNat (48 + k)].head? ≠ some 48) := by decide
   exact this u h
  ·obtain ⟨h1, h2⟩ := ih (u / 10) (by omega)
   have hne : Lib.decDigits (u / 10) ≠ [] := by
    intro hn
    have := Lib.decDigits_length (u / 10)
    rw [hn] at this
    have h3 : fold10 (Lib.decDigits (u / 10)) = 0 := by rw [hn]; rfl
    omega
   rw [Lib.decDigits, dif_neg h, fold10_snoc, h1, head_snoc hne]
   have e : (UInt8.ofNat (48 + u % 10)).toNat = 48 + u % 10 := dig_byte _ (by omega)
   exact ⟨by rw [e]; omega, fun _ => h2 (by omega)⟩
def prNum (s : List UInt8) : Option (Int × List UInt8) :=
 let neg := s.head? == some 45
 let s1 := if neg then s.drop 1 else s
 let ds := (s1.takeWhile bDig).take 14
 if ds = [] ∨ (ds.head? = some 48 ∧ (1 < ds.length ∨ neg = true)) ∨ 1099511627776 < fold10 ds then none
 else some (if neg then -(fold10 ds : Int) else fold10 ds, s1.drop ds.length)
theorem prNum_sound {s r : List UInt8} {n : Int} (h : prNum s = some (n, r)) : s = Lib.itoa n ++ r ∧ 1 + r.length ≤ s.length := by
 unfold prNum at h
 simp only at h
 generalize hneg : (s.head? == some 45) = neg at h
 generalize hs1 : (if neg then s.drop 1 else s) = s1 at h
 generalize hds : (s1.takeWhile bDig).take 14 = ds at h
 split at h
 ·cases h
 ·rename_i hc
  simp only [Option.some.injEq, Prod.mk.injEq] at h
  obtain ⟨hn, hr⟩ := h
  simp only [not_or, not_and] at hc
  obtain ⟨hc1, hc2, hc3⟩ := hc
  have hpre : ds ++ s1.drop ds.length = s1 := by
   have h1 : ds <+: s1 := by
    rw [← hds]
    exact (List.take_prefix _ _).trans (List.takeWhile_prefix _)
   obtain ⟨t, ht⟩ := h1
   rw [← ht]
   simp
  rw [hr] at hpre
  have hdig : ∀ b ∈ ds, bDig b = true := fun b hb => by
   rw [← hds] at hb
   exact List.all_eq_true.1 List.all_takeWhile b (List.mem_of_mem_take hb)
  have hlen : 1 ≤ ds.length := List.length_pos_iff.2 hc1
  have hdec : Lib.decDigits (fold10 ds) = ds := dec_fold (ds.length - 1) ds (by omega) hdig fun h => by
   have := (hc2 h).1
   omega
  have hl := congrArg List.length hpre
  simp only [List.length_append] at hl
  cases neg with
  | true =>
   simp only [if_true] at hn hs1
   have hh : s.head? = some 45 := by simpa using hneg
   cases s with
   | nil => cases hh
   | cons a s =>
    simp only [List.head?_cons, Option.some.injEq] at hh
    subst hh
    simp only [List.drop_succ_cons, List.drop_zero] at hs1
    subst hs1
    have hpos : 1 ≤ fold10 ds := fold10_pos (ds.length - 1) ds (by omega) hdig fun h => absurd rfl (hc2 h).2
    refine ⟨?_, by simp; omega⟩
    rw [← hn]
    have e1 : Lib.itoa (-(fold10 ds : Int)) = 45 :: ds := by
     unfold Lib.itoa
     rw [if_pos (by omega), Int.natAbs_neg, Int.natAbs_natCast, hdec]
    rw [e1]
    simp [hpre]
  | false =>
   simp only [Bool.false_eq_true, if_false] at hn hs1
   subst hs1
   refine ⟨?_, by omega⟩
   rw [← hn]
   have e1 : Lib.itoa (fold10 ds : Int) = ds := by
    unfold Lib.itoa
    rw [if_neg (by omega), Int.toNat_natCast, hdec]
   rw [e1, hpre]
theorem dig_while {w r : List UInt8} (hw : ∀ b ∈ w, bDig b = true) (hr : ∀ b, r.head? = some b → bDig b = false) : (w ++ r).takeWhile bDig = w := by
 induction w with
 | nil =>
  cases r with
  | nil => simp
  | cons b r => have := hr b rfl; simp [this]
 | cons b w ih =>
  have h1 := hw b (by simp)
  have h2 := ih fun b hb => hw b (by simp [hb])
  simp [h1, h2]
theorem prNum_comp {n : Int} {r : List UInt8} (h1 : -1099511627776 ≤ n) (h2 : n ≤ 1099511627776) (hr : ∀ b, r.head? = some b → bDig b = false) : prNum (Lib.itoa n ++ r) = some (n, r) := by
 have key : ∀ m : Nat, m ≤ 1099511627776 → (Lib.decDigits m ≠ [] ∧ (∀ b ∈ Lib.decDigits m, bDig b = true) ∧ fold10 (Lib.decDigits m) = m ∧ (m ≠ 0 → (Lib.decDigits m).head? ≠ some 48) ∧ ((Lib.decDigits m ++ r).takeWhile bDig).take 14 = Lib.decDigits m) := fun m hm => by
  obtain ⟨a, b, _⟩ := decDigits_spec m m (Nat.le_refl _) (by omega)
  have b' : ∀ x ∈ Lib.decDigits m, bDig x = true := fun x hx => dig_iff.2 (b x hx)
  obtain ⟨c, d⟩ := fold_dec m m (Nat.le_refl _)
  refine ⟨a, b', c, d, ?_⟩
  rw [dig_while b' hr, List.take_of_length_le]
  rw [Lib.decDigits_length]
  have := nDigits_le 12 m (by omega)
  omega
 by_cases hn : n < 0
 ·obtain ⟨a, b, c, d, e⟩ := key n.natAbs (by omega)
  have hi : Lib.itoa n = 45 :: Lib.decDigits n.natAbs := by unfold Lib.itoa; rw [if_pos hn]
  rw [hi]
  unfold prNum
  simp only [List.cons_append, List.head?_cons, beq_self_eq_true, if_true, List.drop_succ_cons, List.drop_zero, e, c]
  rw [if_neg]
  ·simp
   omega
  ·rintro (h | ⟨h, _⟩ | h)
   ·exact a h
   ·exact d (by omega) h
   ·omega
 ·obtain ⟨a, b, c, d, e⟩ := key n.toNat (by omega)
  have hi : Lib.itoa n = Lib.decDigits n.toNat := by unfold Lib.itoa; rw [if_neg hn]
  rw [hi]
  have hneg : ((Lib.decDigits n.toNat ++ r).head? == some 45) = false := by
   cases hd : Lib.decDigits n.toNat with
   | nil => exact absurd hd a
   | cons x l =>
    have hx := dig_iff.1 (b x (by rw [hd]; simp))
    have : x ≠ 45 := by
     rintro rfl
     simp at hx
    simpa using this
  unfold prNum
  simp only [hneg, Bool.false_eq_true, if_false, e, c]
  rw [if_neg]
  ·simp
   omega
  ·rintro (h | ⟨h, h3⟩ | h)
   ·exact a h
   ·by_cases h0 : n.toNat = 0
    ·rw [h0, Lib.decDigits_one (by omega)] at h3
     simp at h3
    ·exact d h0 h
   ·omega
structure S10 where
 n : Nat
 l : Int
 b : Bool
def tk (s p : List UInt8) (st : S10) : Option S10 := if st.b then none else match cut p (s.drop st.n) with
 | some _ => some ⟨st.n + p.length, st.l, false⟩
 | none => none
def nd (s p : List UInt8) (st : S10) : S10 := match tk s p st with
 | some st' => st'
 | none => ⟨st.n, st.l, true⟩
def ds10 (s : List UInt8) (n : Nat) : List UInt8 := ((s.drop n).takeWhile bDig).take 14
def nmb (s : List UInt8) (st : S10) : Int × S10 :=
 let neg := (tk s [45] st).isSome
 let st1 := (tk s [45] st).getD st
 let ds := ds10 s st1.n
 (if neg then -(fold10 ds : Int) else fold10 ds, ⟨st1.n + ds.length, st1.l, st1.b || decide (ds = [] ∨ (ds.head? = some 48 ∧ (1 < ds.length ∨ neg = true)) ∨ 1099511627776 < fold10 ds)⟩)
def vls (s : List UInt8) (rd : VT → S10 → VT × S10) : List VT → Bool → S10 → List VT × S10
 | [], _, st => ([], st)
 | t :: ts, first, st => if st.b then ([], st) else
  let x := rd t (if first then st else nd s [44, 32] st)
  let y := vls s rd ts false x.2
  (x.1 :: y.1, y.2)
def arr (s : List UInt8) (rd : S10 → VT × S10) : Nat → S10 → List VT × S10
 | 0, st => ([], nd s [93] st)
 | k + 1, st => match tk s [44, 32] st with
  | some st1 => let x := rd st1; let y := arr s rd k x.2; (x.1 :: y.1, y.2)
  | none => ([], nd s [93] st)
def dec10 (st : S10) : S10 := ⟨st.n, IntKind.i64.wrap (st.l - 1), st.b || decide (IntKind.i64.wrap (st.l - 1) < 0)⟩
def par (s : List UInt8) (rd : VT → S10 → VT × S10) (p : List UInt8) (ts : List VT) (st : S10) : List VT × S10 :=
 let y := vls s rd ts true (nd s p st)
 (y.1, nd s [41] y.2)
def con10 (data : List Dat) (s : List UInt8) (rd : VT → S10 → VT × S10) (t : VT) (st : S10) : VT × S10 :=
 let w := (s.drop st.n).takeWhile bIn
 match lookG data t.num (fields data t) w with
 | none => (.mk 0 0 [], ⟨st.n + w.length, st.l, true⟩)
 | some (c, ts) => if ts.length = 0 then (.mk 5 c [], ⟨st.n + w.length, st.l, st.b⟩) else
  let y := par s rd [40] ts ⟨st.n + w.length, st.l, st.b⟩
  (.mk 5 c y.1, y.2)
def arr10 (s : List UInt8) (rd : S10 → VT × S10) (st : S10) : VT × S10 :=
 let st1 := nd s [91] st
 match tk s [93] st1 with
 | some st2 => (.mk 6 0 [], st2)
 | none => let x := rd st1; let y := arr s rd s.length x.2; (.mk 6 0 (x.1 :: y.1), y.2)
def rf (data : List Dat) (s : List UInt8) : Nat → VT → S10 → VT × S10
 | 0, _, st => (.mk 0 0 [], ⟨st.n, IntKind.i64.wrap (st.l - 1), true⟩)
 | f + 1, .mk tk' tn tks, st0 =>
  let st := dec10 st0
  if st.b then (.mk 0 0 [], st)
  else if tk' = 3 then (.mk 1 0 [], nd s [40, 41] st)
  else if tk' = 2 then (match tk s [116, 114, 117, 101] st with
   | some st' => (.mk 2 1 [], st')
   | none => (.mk 2 0 [], nd s [102, 97, 108, 115, 101] st))
  else if tk' = 1 then (.mk 3 (nmb s st).1 [], (nmb s st).2)
  else if tk' = 6 then (.mk 4 0 (par s (rf data s f) [40] tks st).1, (par s (rf data s f) [40] tks st).2)
  else if tk' = 5 then con10 data s (rf data s f) (.mk tk' tn tks) st
  else if tk' = 8 then (.mk 7 0 (par s (rf data s f) [114, 101, 102, 40] tks st).1, (par s (rf data s f) [114, 101, 102, 40] tks st).2)
  else if tk' = 7 then arr10 s (rf data s f (tks.getD 0 (.mk 0 0 []))) st
  else (.mk 8 (nmb s (nd s [102, 110, 35] st)).1 [], (nmb s (nd s [102, 110, 35] st)).2)
theorem tk_some {s p : List UInt8} {st st' : S10} (h : tk s p st = some st') : st.b = false ∧ st' = ⟨st.n + p.length, st.l, false⟩ ∧ s.drop st.n = p ++ s.drop (st.n + p.length) := by
 unfold tk at h
 split at h
 ·cases h
 ·rename_i hb
  split at h
  ·rename_i r hr
   simp only [Option.some.injEq] at h
   have e := cut_some hr
   refine ⟨by simpa using hb, h.symm, ?_⟩
   have e2 : s.drop (st.n + p.length) = r := by rw [← List.drop_drop, e]; simp
   rw [e2]
   exact e
  ·cases h
theorem tk_bad {s p : List UInt8} {st : S10} (h : st.b = true) : tk s p st = none := by simp [tk, h]
theorem tk_app {s p r : List UInt8} {st : S10} (hb : st.b = false) (h : s.drop st.n = p ++ r) : tk s p st = some ⟨st.n + p.length, st.l, false⟩ := by
 unfold tk
 rw [if_neg (by simp [hb]), h, cut_app]
theorem nd_app {s p r : List UInt8} {st : S10} (hb : st.b = false) (h : s.drop st.n = p ++ r) : nd s p st = ⟨st.n + p.length, st.l, false⟩ := by
 unfold nd
 rw [tk_app hb h]
theorem nd_ok {s p : List UInt8} {st : S10} (h : (nd s p st).b = false) : st.b = false ∧ nd s p st = ⟨st.n + p.length, st.l, false⟩ ∧ s.drop st.n = p ++ s.drop (st.n + p.length) := by
 unfold nd at h ⊢
 cases ht : tk s p st with
 | none => rw [ht] at h; cases h
 | some st' =>
  obtain ⟨h1, h2, h3⟩ := tk_some ht
  exact ⟨h1, h2, h3⟩
theorem drop_le {s p : List UInt8} {n : Nat} (hn : n ≤ s.length) (h : s.drop n = p ++ s.drop (n + p.length)) : n + p.length ≤ s.length := by
 have := congrArg List.length h
 simp at this
 omega
def Mon (s : List UInt8) (st st' : S10) : Prop := st.n ≤ st'.n ∧ (st.n ≤ s.length → st'.n ≤ s.length) ∧ (st.b = true → st'.b = true)
theorem Mon.rfl' {s : List UInt8} {st : S10} : Mon s st st := ⟨Nat.le_refl _, id, id⟩
theorem Mon.trans {s : List UInt8} {a b c : S10} (h : Mon s a b) (k : Mon s b c) : Mon s a c := ⟨Nat.le_trans h.1 k.1, fun x => k.2.1 (h.2.1 x), fun x => k.2.2 (h.2.2 x)⟩
theorem tk_mon {s p : List UInt8} {st st' : S10} (h : tk s p st = some st') : Mon s st st' := by
 obtain ⟨h1, h2, h3⟩ := tk_some h
 subst h2
 exact ⟨by simp, fun h => drop_le h h3, fun h => by rw [h1] at h; cases h⟩
theorem nd_mon (s p : List UInt8) (st : S10) : Mon s st (nd s p st) := by
 unfold nd
 cases h : tk s p st with
 | none => exact ⟨Nat.le_refl _, id, fun _ => rfl⟩
 | some st' => exact tk_mon h
theorem ds10_le (s : List UInt8) (n : Nat) (h : n ≤ s.length) : n + (ds10 s n).length ≤ s.length := by
 have h0 : (ds10 s n).length ≤ ((s.drop n).takeWhile bDig).length := by unfold ds10; rw [List.length_take]; exact Nat.min_le_right _ _
 have h1 : (ds10 s n).length ≤ (s.drop n).length := Nat.le_trans h0 (List.takeWhile_prefix _).length_le
 simp at h1
 omega
theorem nmb_mon (s : List UInt8) (st : S10) : Mon s st (nmb s st).2 := by
 unfold nmb
 simp only
 have h : Mon s st ((tk s [45] st).getD st) := by
  cases h : tk s [45] st with
  | none => exact Mon.rfl'
  | some st' => exact tk_mon h
 refine h.trans ⟨by simp, fun h => ds10_le s _ h, fun h => by simp [h]⟩
def MonR (s : List UInt8) (rd : VT → S10 → VT × S10) : Prop := ∀ t st, Mon s st (rd t st).2
theorem vls_mon {s : List UInt8} {rd : VT → S10 → VT × S10} (h : MonR s rd) : ∀ (ts : List VT) (first : Bool) (st : S10), Mon s st (vls s rd ts first st).2
 | [], first, st => Mon.rfl'
 | t :: ts, first, st => by
  unfold vls
  split
  ·exact Mon.rfl'
  ·have h1 : Mon s st (if first then st else nd s [44, 32] st) := by
    cases first with
    | true => exact Mon.rfl'
    | false => exact nd_mon _ _ _
   exact (h1.trans (h _ _)).trans (vls_mon h ts false _)
theorem arr_mon {s : List UInt8} {rd : S10 → VT × S10} (h : ∀ st, Mon s st (rd st).2) : ∀ (k : Nat) (st : S10), Mon s st (arr s rd k st).2
 | 0, st => nd_mon _ _ _
 | k + 1, st => by
  unfold arr
  cases ht : tk s [44, 32] st with
  | none => exact nd_mon _ _ _
  | some st1 => exact ((tk_mon ht).trans (h _)).trans (arr_mon h k _)
theorem par_mon {s : List UInt8} {rd : VT → S10 → VT × S10} (h : MonR s rd) (p : List UInt8) (ts : List VT) (st : S10) : Mon s st (par s rd p ts st).2 :=
 ((nd_mon _ _ _).trans (vls_mon h ts true _)).trans (nd_mon _ _ _)
theorem while_le (g : UInt8 → Bool) (s : List UInt8) (n : Nat) (h : n ≤ s.length) : n + ((s.drop n).takeWhile g).length ≤ s.length := by
 have h1 : ((s.drop n).takeWhile g).length ≤ (s.drop n).length := (List.takeWhile_prefix _).length_le
 simp at h1
 omega
theorem con10_mon {data : List Dat} {s : List UInt8} {rd : VT → S10 → VT × S10} (h : MonR s rd) (t : VT) (st : S10) : Mon s st (con10 data s rd t st).2 := by
 unfold con10
 simp only
 have h0 : ∀ b, (st.b = true → b = true) → Mon s st ⟨st.n + ((s.drop st.n).takeWhile bIn).length, st.l, b⟩ := fun b hb => ⟨by simp, fun h => while_le _ _ _ h, hb⟩
 split
 ·exact h0 true fun _ => rfl
 ·split
  ·exact h0 st.b id
  ·exact (h0 st.b id).trans (par_mon h _ _ _)
theorem arr10_mon {s : List UInt8} {rd : S10 → VT × S10} (h : ∀ st, Mon s st (rd st).2) (st : S10) : Mon s st (arr10 s rd st).2 := by
 unfold arr10
 simp only
 cases ht : tk s [93] (nd s [91] st) with
 | some st2 => exact (nd_mon _ _ _).trans (tk_mon ht)
 | none => exact ((nd_mon _ _ _).trans (h _)).trans (arr_mon h _ _)
theorem dec_mon (s : List UInt8) (st : S10) : Mon s st (dec10 st) := ⟨Nat.le_refl _, id, fun h => by simp [dec10, h]⟩
theorem rf_mon (data : List Dat) (s : List UInt8) : ∀ f, MonR s (rf data s f)
 | 0, t, st => ⟨Nat.le_refl _, id, fun _ => rfl⟩
 | f + 1, .mk k n ks, st => by
  have ih := rf_mon data s f
  have hd := dec_mon s st
  unfold rf
  simp only
  split
  ·exact hd
  ·split
   ·exact hd.trans (nd_mon _ _ _)
   ·split
    ·cases ht : tk s [116, 114, 117, 101] (dec10 st) with
     | some st' => exact hd.trans (tk_mon ht)
     | none => exact hd.trans (nd_mon _ _ _)
    ·split
     ·exact hd.trans (nmb_mon _ _)
     ·split
      ·exact hd.trans (par_mon ih _ _ _)
      ·split
       ·exact hd.trans (con10_mon ih _ _)
       ·split
        ·exact hd.trans (par_mon ih _ _ _)
        ·split
         ·exact hd.trans (arr10_mon (fun st => ih _ _) _)
         ·exact (hd.trans (nd_mon _ _ _)).trans (nmb_mon _ _)
structure Iv (s : List UInt8) (st : S10) : Prop where
 b : st.b = false
 n : st.n ≤ s.length
 l : ((s.length - st.n : Nat) : Int) < st.l
 u : st.l ≤ 5000
theorem dec_iv {s : List UInt8} {st : S10} (h : Iv s st) : dec10 st = ⟨st.n, st.l - 1, false⟩ := by
 have h1 := h.l
 have h2 := h.u
 have hw : IntKind.i64.wrap (st.l - 1) = st.l - 1 := wrap_in (by omega) (by omega)
 unfold dec10
 rw [hw, h.b]
 have : decide (st.l - 1 < 0) = false := decide_eq_false (by omega)
 rw [this]
 rfl
theorem nd_iv {s p : List UInt8} {n : Nat} {l : Int} (hp : 1 ≤ p.length) (hn : n ≤ s.length) (hl : ((s.length - n : Nat) : Int) ≤ l) (hu : l ≤ 5000) (hb : (nd s p ⟨n, l, false⟩).b = false) :
  nd s p ⟨n, l, false⟩ = ⟨n + p.length, l, false⟩ ∧ s.drop n = p ++ s.drop (n + p.length) ∧ Iv s ⟨n + p.length, l, false⟩ ∧ n + p.length ≤ s.length := by
 obtain ⟨_, h2, h3⟩ := nd_ok hb
 have h4 := drop_le hn h3
 exact ⟨h2, h3, ⟨rfl, h4, (by show ((s.length - (n + p.length) : Nat) : Int) < l; omega), hu⟩, h4⟩
def RSn (data : List Dat) (s : List UInt8) (rd : VT → S10 → VT × S10) : Prop := ∀ t st, Iv s st → (rd t st).2.b = false →
 s.drop st.n = wrV data (rd t st).1 t ++ s.drop (rd t st).2.n ∧ (rd t st).2.n ≤ s.length ∧ (rd t st).1.nodes + st.n ≤ (rd t st).2.n ∧ (rd t st).2.l = st.l - (rd t st).1.nodes
theorem RSn.iv {data : List Dat} {s : List UInt8} {rd : VT → S10 → VT × S10} (h : RSn data s rd) {t : VT} {st : S10} (hi : Iv s st) (hb : (rd t st).2.b = false) : Iv s (rd t st).2 := by
 obtain ⟨_, h2, h3, h4⟩ := h t st hi hb
 have h5 := hi.l
 have h6 := hi.u
 refine ⟨hb, h2, ?_, by rw [h4]; omega⟩
 rw [h4]
 omega
theorem bfalse {s : List UInt8} {a b : S10} (h : Mon s a b) (hb : b.b = false) : a.b = false := by
 cases ha : a.b with
 | false => rfl
 | true => rw [h.2.2 ha] at hb; cases hb
theorem vls_sound {data : List Dat} {s : List UInt8} {rd : VT → S10 → VT × S10} (hM : MonR s rd) (hR : RSn data s rd) : ∀ (ts : List VT) (first : Bool) (st : S10), Iv s st → (vls s rd ts first st).2.b = false →
  s.drop st.n = wrL data (vls s rd ts first st).1 ts first ++ s.drop (vls s rd ts first st).2.n ∧ (vls s rd ts first st).1.length = ts.length ∧ VT.nodesL (vls s rd ts first st).1 + st.n ≤ (vls s rd ts first st).2.n ∧
   (vls s rd ts first st).2.l = st.l - VT.nodesL (vls s rd ts first st).1 ∧ Iv s (vls s rd ts first st).2
 | [], first, st, hi, hb => by
  simp only [vls]
  refine ⟨by simp [wrL], by simp, by simp [VT.nodesL], by simp [VT.nodesL], hi⟩
 | t :: ts, first, st, hi, hb => by
  have hbf : ¬ st.b = true := by rw [hi.b]; simp
  unfold vls at hb ⊢
  rw [if_neg hbf] at hb ⊢
  simp only at hb ⊢
  generalize hst1 : (if first = true then st else nd s [44, 32] st) = st1 at *
  have hb2 : (rd t st1).2.b = false := bfalse (vls_mon hM ts false _) hb
  have hb1 : st1.b = false := bfalse (hM t st1) hb2
  have h1 : s.drop st.n = (if first then [] else [44, 32]) ++ s.drop st1.n ∧ Iv s st1 ∧ st.n ≤ st1.n ∧ st1.l = st.l := by
   cases first with
   | true => simp at hst1; subst hst1; exact ⟨by simp, hi, Nat.le_refl _, rfl⟩
   | false =>
    simp at hst1
    obtain ⟨n, l, b⟩ := st
    obtain rfl : b = false := hi.b
    rw [← hst1] at hb1
    obtain ⟨k1, k2, k3, k4⟩ := nd_iv (by simp) hi.n (Int.le_of_lt hi.l) hi.u hb1
    rw [← hst1, k1]
    exact ⟨by simpa using k2, k3, by simp, rfl⟩
  obtain ⟨e1, i1, n1, l1⟩ := h1
  obtain ⟨e2, n2, m2, l2⟩ := hR t st1 i1 hb2
  obtain ⟨e3, g3, n3, l3, i3⟩ := vls_sound hM hR ts false _ (hR.iv i1 hb2) hb
  refine ⟨?_, by simp [g3], ?_, ?_, i3⟩
  ·rw [e1, e2, e3]
   simp [wrL]
  ·simp only [VT.nodesL]
   omega
  ·rw [l3, l2, l1]
   simp only [VT.nodesL]
   omega
theorem arr_sound {data : List Dat} {s : List UInt8} {rd : VT → S10 → VT × S10} (hM : MonR s rd) (hR : RSn data s rd) (t : VT) : ∀ (k : Nat) (st : S10), Iv s st → (arr s (rd t) k st).2.b = false →
  s.drop st.n = wrL data (arr s (rd t) k st).1 (List.replicate (arr s (rd t) k st).1.length t) false ++ [93] ++ s.drop (arr s (rd t) k st).2.n ∧ VT.nodesL (arr s (rd t) k st).1 + st.n ≤ (arr s (rd t) k st).2.n ∧
   (arr s (rd t) k st).2.l = st.l - VT.nodesL (arr s (rd t) k st).1 ∧ (arr s (rd t) k st).2.n ≤ s.length := by
 have hend : ∀ st : S10, Iv s st → (nd s [93] st).b = false → s.drop st.n = wrL data [] (List.replicate 0 t) false ++ [93] ++ s.drop (nd s [93] st).n ∧ VT.nodesL [] + st.n ≤ (nd s [93] st).n ∧ (nd s [93] st).l = st.l - VT.nodesL [] ∧ (nd s [93] st).n ≤ s.length := by
  intro st hi hb
  obtain ⟨n, l, b⟩ := st
  obtain rfl : b = false := hi.b
  obtain ⟨k1, k2, k3, k4⟩ := nd_iv (by simp) hi.n (Int.le_of_lt hi.l) hi.u hb
  rw [k1]
  exact ⟨by simpa [wrL] using k2, by simp [VT.nodesL], by simp [VT.nodesL], k4⟩
 intro k
 induction k with
 | zero => intro st hi hb; exact hend st hi hb
 | succ k ih =>
  intro st hi hb
  unfold arr at hb ⊢
  cases ht : tk s [44, 32] st with
  | none => rw [ht] at hb; exact hend st hi hb
  | some st1 =>
   rw [ht] at hb
   simp only at hb ⊢
   obtain ⟨_, h2, h3⟩ := tk_some ht
   have h4 := drop_le hi.n h3
   have i1 : Iv s st1 := by
    rw [h2]
    have := hi.l
    exact ⟨rfl, h4, (by show ((s.length - (st.n + ([44, 32] : List UInt8).length) : Nat) : Int) < st.l; omega), hi.u⟩
   have hb2 : (rd t st1).2.b = false := bfalse (arr_mon (fun st => hM t st) k _) hb
   obtain ⟨e2, n2, m2, l2⟩ := hR t st1 i1 hb2
   obtain ⟨e3, n3, l3, g3⟩ := ih _ (hR.iv i1 hb2) hb
   have hn1 : st1.n = st.n + 2 := by rw [h2]; rfl
   have hl1 : st1.l = st.l := by rw [h2]
   refine ⟨?_, ?_, ?_, g3⟩
   ·rw [h3]
    have : st.n + ([44, 32] : List UInt8).length = st1.n := hn1.symm
    rw [this, e2, e3]
    simp [wrL, List.replicate_succ]
   ·simp only [VT.nodesL]
    omega
   ·rw [l3, l2, hl1]
    simp only [VT.nodesL]
    omega
theorem par_sound {data : List Dat} {s : List UInt8} {rd : VT → S10 → VT × S10} (hM : MonR s rd) (hR : RSn data s rd) (p : List UInt8) (hp : 1 ≤ p.length) (ts : List VT) {n : Nat} {l : Int} (hn : n ≤ s.length) (hl : ((s.length - n : Nat) : Int) ≤ l) (hu : l ≤ 5000)
  (hb : (par s rd p ts ⟨n, l, false⟩).2.b = false) : s.drop n = p ++ wrL data (par s rd p ts ⟨n, l, false⟩).1 ts true ++ [41] ++ s.drop (par s rd p ts ⟨n, l, false⟩).2.n ∧ (par s rd p ts ⟨n, l, false⟩).1.length = ts.length ∧
   VT.nodesL (par s rd p ts ⟨n, l, false⟩).1 + n + 2 ≤ (par s rd p ts ⟨n, l, false⟩).2.n ∧ (par s rd p ts ⟨n, l, false⟩).2.l = l - VT.nodesL (par s rd p ts ⟨n, l, false⟩).1 ∧ (par s rd p ts ⟨n, l, false⟩).2.n ≤ s.length := by
 unfold par at hb ⊢
 simp only at hb ⊢
 have hb1 := bfalse (nd_mon _ _ _) hb
 have hb2 := bfalse (vls_mon hM ts true _) hb1
 obtain ⟨k1, k2, k3, k4⟩ := nd_iv hp hn hl hu hb2
 rw [k1] at hb hb1 ⊢
 obtain ⟨e3, g3, n3, l3, i3⟩ := vls_sound hM hR ts true _ k3 hb1
 generalize vls s rd ts true ⟨n + p.length, l, false⟩ = y at *
 obtain ⟨vs, yn, yl, yb⟩ := y
 obtain rfl : yb = false := hb1
 obtain ⟨m1, m2, m3, m4⟩ := nd_iv (by simp) i3.n (Int.le_of_lt i3.l) i3.u hb
 simp only at e3 n3 l3 m1 m2 m4 ⊢
 rw [m1]
 refine ⟨?_, g3, ?_, l3, m4⟩
 ·rw [k2, e3, m2]
  simp
 ·simp only [List.length_cons, List.length_nil] at *
  omega
theorem nmb_ok {s : List UInt8} {st : S10} (h : (nmb s st).2.b = false) : st.b = false ∧ prNum (s.drop st.n) = some ((nmb s st).1, s.drop (nmb s st).2.n) ∧ (nmb s st).2.l = st.l := by
 have hb : st.b = false := bfalse (nmb_mon s st) h
 unfold nmb at h ⊢
 simp only at h ⊢
 have hneg : ((tk s [45] st).isSome = true ∧ (s.drop st.n).head? = some 45 ∧ (tk s [45] st).getD st = ⟨st.n + 1, st.l, false⟩) ∨ ((tk s [45] st).isSome = false ∧ (s.drop st.n).head? ≠ some 45 ∧ (tk s [45] st).getD st = st) := by
  cases ht : tk s [45] st with
  | some st' =>
   obtain ⟨_, h2, h3⟩ := tk_some ht
   refine .inl ⟨rfl, by rw [h3]; rfl, by rw [h2]; rfl⟩
  | none =>
   refine .inr ⟨rfl, fun hh => ?_, rfl⟩
   cases hd : s.drop st.n with
   | nil => rw [hd] at hh; cases hh
   | cons a r =>
    rw [hd] at hh
    simp at hh
    subst hh
    rw [tk_app (p := [45]) (r := r) hb hd] at ht
    cases ht
 unfold prNum
 simp only
 rcases hneg with ⟨h1, h2, h3⟩ | ⟨h1, h2, h3⟩
 ·have e1 : ((s.drop st.n).head? == some 45) = true := by rw [h2]; rfl
  simp only [h1, h3, e1, if_true, List.drop_drop, Bool.false_or, decide_eq_false_iff_not] at h ⊢
  unfold ds10 at h ⊢
  refine ⟨hb, ?_, by simp⟩
  rw [if_neg h]
 ·have e1 : ((s.drop st.n).head? == some 45) = false := by simpa using h2
  simp only [h1, h3, e1, Bool.false_eq_true, if_false, List.drop_drop, hb, Bool.false_or, decide_eq_false_iff_not] at h ⊢
  unfold ds10 at h ⊢
  refine ⟨by simp, ?_, by simp⟩
  rw [if_neg h]
theorem rf_sound {data : List Dat} {s : List UInt8} (hD : dataOk data = true) : ∀ f, RSn data s (rf data s f)
 | 0, t, st, hi, hb => by simp [rf] at hb
 | f + 1, .mk k n ks, st, hi, hb => by
  have ih := rf_sound (s := s) hD f
  have hM := rf_mon data s f
  have hd := dec_iv hi
  have hl : ((s.length - st.n : Nat) : Int) ≤ st.l - 1 := by have := hi.l; omega
  have hu : st.l - 1 ≤ 5000 := by have := hi.u; omega
  unfold rf at hb ⊢
  simp only [hd, Bool.false_eq_true, if_false] at hb ⊢
  by_cases h3 : k = 3
  ·rw [if_pos h3] at hb ⊢
   obtain ⟨k1, k2, k3, k4⟩ := nd_iv (p := [40, 41]) (by simp) hi.n hl hu hb
   rw [k1, wrV_mk]
   simp only [h3] at *
   refine ⟨by simpa using k2, k4, by simp [VT.nodes, VT.nodesL]; omega, by simp [VT.nodes, VT.nodesL]⟩
  rw [if_neg h3] at hb ⊢
  by_cases h2 : k = 2
  ·rw [if_pos h2] at hb ⊢
   cases ht : tk s [116, 114, 117, 101] ⟨st.n, st.l - 1, false⟩ with
   | some st' =>
    obtain ⟨_, e2, e3⟩ := tk_some ht
    have e4 := drop_le hi.n e3
    simp only at e3
    rw [wrV_mk]
    subst e2
    simp only [h2] at *
    refine ⟨by simpa using e3, e4, by simp [VT.nodes, VT.nodesL]; omega, by simp [VT.nodes, VT.nodesL]⟩
   | none =>
    rw [ht] at hb
    obtain ⟨k1, k2, k3, k4⟩ := nd_iv (p := [102, 97, 108, 115, 101]) (by simp) hi.n hl hu hb
    simp only
    rw [k1, wrV_mk]
    simp only [h2] at *
    refine ⟨by simpa using k2, k4, by simp [VT.nodes, VT.nodesL]; omega, by simp [VT.nodes, VT.nodesL]⟩
  rw [if_neg h2] at hb ⊢
  by_cases h1 : k = 1
  ·rw [if_pos h1] at hb ⊢
   obtain ⟨_, k2, k3⟩ := nmb_ok hb
   obtain ⟨e1, e2⟩ := prNum_sound k2
   have e3 := (nmb_mon s ⟨st.n, st.l - 1, false⟩).2.1 hi.n
   rw [wrV_mk]
   simp only [h1] at *
   refine ⟨by simpa using e1, e3, ?_, by rw [k3]; simp [VT.nodes, VT.nodesL]⟩
   simp [VT.nodes, VT.nodesL] at e2 ⊢
   omega
  rw [if_neg h1] at hb ⊢
  by_cases h6 : k = 6
  ·rw [if_pos h6] at hb ⊢
   obtain ⟨e1, e2, e3, e4, e5⟩ := par_sound hM ih [40] (by simp) ks hi.n hl hu hb
   rw [wrV_mk]
   simp only [h6] at *
   refine ⟨by simpa using e1, e5, by simp only [VT.nodes]; omega, by rw [e4]; simp only [VT.nodes]; omega⟩
  rw [if_neg h6] at hb ⊢
  by_cases h5 : k = 5
  ·rw [if_pos h5] at hb ⊢
   unfold con10 at hb ⊢
   simp only at hb ⊢
   cases hlk : lookG data (VT.mk k n ks).num (fields data (.mk k n ks)) ((s.drop st.n).takeWhile bIn) with
   | none => rw [hlk] at hb; cases hb
   | some x =>
    obtain ⟨c, ts⟩ := x
    rw [hlk] at hb
    simp only at hb ⊢
    obtain ⟨hnm, hf⟩ := lookG_some (k := k) (tks := ks) hlk
    obtain ⟨_, n0, c0, hn1, hc1, _⟩ := fields_some hf
    have hnm' : conName data (.mk k n ks) c = ((data[n.toNat]).cons[c.toNat]).name := by simp [conName, VT.num, hn1, hc1]
    have hne := (con_name hD hn1 hc1).1
    rw [← hnm'] at hne
    have hwl : 1 ≤ ((s.drop st.n).takeWhile bIn).length := by
     have h7 : conName data (.mk k n ks) c = (s.drop st.n).takeWhile bIn := hnm
     rw [← h7]
     exact List.length_pos_iff.2 hne
    have hdrop : s.drop st.n = conName data (.mk k n ks) c ++ s.drop (st.n + ((s.drop st.n).takeWhile bIn).length) := by
     have h7 : conName data (.mk k n ks) c = (s.drop st.n).takeWhile bIn := hnm
     have h8 := List.takeWhile_append_dropWhile (p := bIn) (l := s.drop st.n)
     have h9 : (s.drop st.n).dropWhile bIn = s.drop (st.n + ((s.drop st.n).takeWhile bIn).length) := by
      have h10 : ((s.drop st.n).takeWhile bIn ++ (s.drop st.n).dropWhile bIn).drop ((s.drop st.n).takeWhile bIn).length = (s.drop st.n).dropWhile bIn := List.drop_left
      rw [← h10, ← List.drop_drop]
      exact (congrArg (List.drop ((s.drop st.n).takeWhile bIn).length) h8)
     rw [h7, ← h9]
     exact h8.symm
    have hwle := while_le bIn s st.n hi.n
    generalize hW : ((s.drop st.n).takeWhile bIn).length = W at *
    by_cases hz : ts.length = 0
    ·rw [if_pos hz] at hb ⊢
     simp only
     rw [wrV_mk, if_neg h1, if_neg h2, if_neg h3, if_neg h6, if_pos h5]
     simp only [List.length_nil, if_true, List.append_nil]
     refine ⟨hdrop, hwle, by simp [VT.nodes, VT.nodesL]; omega, by simp [VT.nodes, VT.nodesL]⟩
    ·rw [if_neg hz] at hb ⊢
     obtain ⟨e1, e2, e3, e4, e5⟩ := par_sound hM ih [40] (by simp) ts (n := st.n + W) (l := st.l - 1) hwle (by omega) hu hb
     have hz' : ¬ (par s (rf data s f) [40] ts ⟨st.n + W, st.l - 1, false⟩).1.length = 0 := by rw [e2]; exact hz
     simp only
     rw [wrV_mk, if_neg h1, if_neg h2, if_neg h3, if_neg h6, if_pos h5]
     simp only [if_neg hz', hf]
     refine ⟨?_, e5, by simp only [VT.nodes]; omega, by rw [e4]; simp only [VT.nodes]; omega⟩
     conv => lhs; rw [hdrop, e1]
     simp
  rw [if_neg h5] at hb ⊢
  by_cases h8 : k = 8
  ·rw [if_pos h8] at hb ⊢
   obtain ⟨e1, e2, e3, e4, e5⟩ := par_sound hM ih [114, 101, 102, 40] (by simp) ks hi.n hl hu hb
   rw [wrV_mk]
   simp only [h8] at *
   refine ⟨by simpa using e1, e5, by simp only [VT.nodes]; omega, by rw [e4]; simp only [VT.nodes]; omega⟩
  rw [if_neg h8] at hb ⊢
  by_cases h7 : k = 7
  ·rw [if_pos h7] at hb ⊢
   unfold arr10 at hb ⊢
   simp only at hb ⊢
   have hnb : (nd s [91] ⟨st.n, st.l - 1, false⟩).b = false := by
    cases ht : tk s [93] (nd s [91] ⟨st.n, st.l - 1, false⟩) with
    | some st2 => exact (tk_some ht).1
    | none =>
     rw [ht] at hb
     exact bfalse ((hM _ _).trans (arr_mon (fun st => hM _ st) _ _)) hb
   obtain ⟨k1, k2, k3, k4⟩ := nd_iv (p := [91]) (by simp) hi.n hl hu hnb
   rw [k1] at hb ⊢
   cases ht : tk s [93] ⟨st.n + ([91] : List UInt8).length, st.l - 1, false⟩ with
   | some st2 =>
    obtain ⟨_, m2, m3⟩ := tk_some ht
    have m4 := drop_le k3.n m3
    simp only at m3 m4 ⊢
    subst m2
    rw [wrV_mk, if_neg h1, if_neg h2, if_neg h3, if_neg h6, if_neg h5, if_pos h7]
    refine ⟨?_, m4, by simp [VT.nodes, VT.nodesL] at m4 ⊢; omega, by simp [VT.nodes, VT.nodesL]⟩
    rw [k2, m3]
    simp [wrL]
   | none =>
    rw [ht] at hb
    simp only at hb ⊢
    have hb2 := bfalse (arr_mon (fun st => hM _ st) s.length _) hb
    obtain ⟨e2, n2, m2, l2⟩ := ih _ _ k3 hb2
    obtain ⟨e3, n3, l3, g3⟩ := arr_sound hM ih (ks.getD 0 (.mk 0 0 [])) s.length _ (ih.iv k3 hb2) hb
    rw [wrV_mk, if_neg h1, if_neg h2, if_neg h3, if_neg h6, if_neg h5, if_pos h7]
    refine ⟨?_, g3, ?_, ?_⟩
    ·rw [k2, e2, e3]
     simp [wrL, List.replicate_succ]
    ·simp only [VT.nodes, VT.nodesL, List.length_cons, List.length_nil] at *
     omega
    ·rw [l3, l2]
     simp only [VT.nodes, VT.nodesL]
     omega
  rw [if_neg h7] at hb ⊢
  have hb1 := bfalse (nmb_mon s _) hb
  obtain ⟨k1, k2, k3, k4⟩ := nd_iv (p := [102, 110, 35]) (by simp) hi.n hl hu hb1
  rw [k1] at hb ⊢
  obtain ⟨_, m2, m3⟩ := nmb_ok hb
  obtain ⟨e1, e2⟩ := prNum_sound m2
  have e3 := (nmb_mon s ⟨st.n + ([102, 110, 35] : List UInt8).length, st.l - 1, false⟩).2.1 k4
  rw [wrV_mk]
  simp only [if_neg h1, if_neg h2, if_neg h3, if_neg h6, if_neg h5, if_neg h7, if_neg h8]
  refine ⟨?_, e3, ?_, by rw [m3]; simp [VT.nodes, VT.nodesL]⟩
  ·conv => lhs; rw [k2]
   simp only at e1
   rw [e1]
   simp
  ·simp [VT.nodes, VT.nodesL] at e2 ⊢
   omega
def StopD (r : List UInt8) : Prop := ∀ b, r.head? = some b → bIn b = false
def RCm (data : List Dat) (s : List UInt8) (rd : VT → S10 → VT × S10) (L : Nat) : Prop := ∀ t st v r, Iv s st → s.length - st.n < L → tyOk data 0 t = true → hasV data v t = true → s.drop st.n = wrV data v t ++ r → StopD r →
 rd t st = (v, ⟨st.n + (wrV data v t).length, st.l - v.nodes, false⟩)
theorem drop_add {s w r : List UInt8} {n : Nat} (h : s.drop n = w ++ r) : s.drop (n + w.length) = r := by
 rw [← List.drop_drop, h]
 simp
theorem len_add {s w r : List UInt8} {n : Nat} (hn : n ≤ s.length) (h : s.drop n = w ++ r) : n + w.length ≤ s.length := by
 have := congrArg List.length h
 simp at this
 omega
theorem tk_not {s p : List UInt8} {st : S10} (h : ¬ p <+: s.drop st.n) : tk s p st = none := by
 unfold tk
 split
 ·rfl
 ·split
  ·rename_i r hr
   exact absurd ⟨r, (cut_some hr).symm⟩ h
  ·rfl
theorem RCm.step {data : List Dat} {s : List UInt8} {rd : VT → S10 → VT × S10} {L : Nat} (hR : RSn data s rd) (hC : RCm data s rd L) {t : VT} {st : S10} {v : VT} {r : List UInt8} (hi : Iv s st) (hl : s.length - st.n < L) (ht : tyOk data 0 t = true) (hh : hasV data v t = true)
  (hd : s.drop st.n = wrV data v t ++ r) (hr : StopD r) : rd t st = (v, ⟨st.n + (wrV data v t).length, st.l - v.nodes, false⟩) ∧ Iv s ⟨st.n + (wrV data v t).length, st.l - v.nodes, false⟩ ∧ s.drop (st.n + (wrV data v t).length) = r := by
 have h1 := hC t st v r hi hl ht hh hd hr
 refine ⟨h1, ?_, drop_add hd⟩
 have h2 := hR.iv (t := t) hi (by rw [h1])
 rw [h1] at h2
 exact h2
theorem vls_comp {data : List Dat} {s : List UInt8} {rd : VT → S10 → VT × S10} {L : Nat} (hR : RSn data s rd) (hC : RCm data s rd L) : ∀ (ts vs : List VT) (first : Bool) (st : S10) (r : List UInt8), Iv s st → s.length - st.n < L → (∀ t ∈ ts, tyOk data 0 t = true) → hasL data vs ts = true →
  s.drop st.n = wrL data vs ts first ++ r → StopD r → vls s rd ts first st = (vs, ⟨st.n + (wrL data vs ts first).length, st.l - VT.nodesL vs, false⟩)
 | [], vs, first, st, r, hi, hl, ht, hh, hd, hr => by
  have := hasL_len hh
  obtain rfl : vs = [] := List.eq_nil_of_length_eq_zero (by simpa using this)
  obtain ⟨n, l, b⟩ := st
  obtain rfl : b = false := hi.b
  simp [vls, wrL, VT.nodesL]
 | t :: ts, [], first, st, r, hi, hl, ht, hh, hd, hr => by simp [hasL] at hh
 | t :: ts, v :: vs, first, st, r, hi, hl, ht, hh, hd, hr => by
  simp only [hasL, Bool.and_eq_true] at hh
  have hbf : ¬ st.b = true := by rw [hi.b]; simp
  unfold vls
  rw [if_neg hbf]
  simp only
  have hstop : StopD (wrL data vs ts false ++ r) := by
   intro b hb
   cases vs with
   | nil => simp [wrL] at hb; exact hr b hb
   | cons v vs =>
    cases ts with
    | nil => have := hasL_len hh.2; simp at this
    | cons t ts => simp [wrL] at hb; subst hb; decide
  have h1 : (if first = true then st else nd s [44, 32] st) = ⟨st.n + (if first then ([] : List UInt8) else [44, 32]).length, st.l, false⟩ ∧ Iv s ⟨st.n + (if first then ([] : List UInt8) else [44, 32]).length, st.l, false⟩ ∧
    s.drop (st.n + (if first then ([] : List UInt8) else [44, 32]).length) = wrV data v t ++ (wrL data vs ts false ++ r) := by
   simp only [wrL] at hd
   obtain ⟨n, l, b⟩ := st
   obtain rfl : b = false := hi.b
   cases first with
   | true => simp at hd ⊢; exact ⟨hi, hd⟩
   | false =>
    simp only [Bool.false_eq_true, if_false, List.append_assoc] at hd ⊢
    refine ⟨nd_app rfl hd, ?_, drop_add hd⟩
    have h1 := len_add hi.n hd
    have h2 := hi.l
    exact ⟨rfl, h1, (by show ((s.length - (n + ([44, 32] : List UInt8).length) : Nat) : Int) < l; simp at h2 ⊢; omega), hi.u⟩
  obtain ⟨e1, i1, d1⟩ := h1
  have hlen : (wrL data (v :: vs) (t :: ts) first).length = (if first then ([] : List UInt8) else [44, 32]).length + (wrV data v t).length + (wrL data vs ts false).length := by simp [wrL]; omega
  rw [e1]
  obtain ⟨e2, i2, d2⟩ := hC.step hR i1 (by simp only; omega) (ht t (by simp)) hh.1 d1 hstop
  rw [e2]
  simp only
  have e3 := vls_comp hR hC ts vs false _ r i2 (by simp only; omega) (fun x hx => ht x (by simp [hx])) hh.2 d2 hr
  rw [e3]
  simp only [hlen, VT.nodesL]
  congr 2
  ·omega
  ·omega
theorem arr_comp {data : List Dat} {s : List UInt8} {rd : VT → S10 → VT × S10} {L : Nat} (hR : RSn data s rd) (hC : RCm data s rd L) (t : VT) (ht : tyOk data 0 t = true) : ∀ (vs : List VT) (k : Nat) (st : S10) (r : List UInt8), vs.length ≤ k → Iv s st → s.length - st.n < L → hasA data vs t = true →
  s.drop st.n = wrL data vs (List.replicate vs.length t) false ++ ([93] ++ r) → arr s (rd t) k st = (vs, ⟨st.n + (wrL data vs (List.replicate vs.length t) false).length + 1, st.l - VT.nodesL vs, false⟩)
 | [], k, st, r, hk, hi, hl, hh, hd => by
  simp only [wrL, List.nil_append, VT.nodesL, List.length_nil] at hd ⊢
  have hn : nd s [93] st = ⟨st.n + 1, st.l, false⟩ := nd_app hi.b hd
  have ht2 : tk s [44, 32] st = none := tk_not (by
   rw [hd]
   rintro ⟨x, hx⟩
   simp at hx)
  cases k with
  | zero => simp [arr, hn]
  | succ k => simp [arr, ht2, hn]
 | v :: vs, 0, st, r, hk, hi, hl, hh, hd => by simp at hk
 | v :: vs, k + 1, st, r, hk, hi, hl, hh, hd => by
  simp only [hasA, Bool.and_eq_true] at hh
  simp only [List.length_cons, List.replicate_succ, wrL, Bool.false_eq_true, if_false, List.append_assoc] at hd ⊢
  have e1 : tk s [44, 32] st = some ⟨st.n + ([44, 32] : List UInt8).length, st.l, false⟩ := tk_app hi.b hd
  have i1 : Iv s ⟨st.n + ([44, 32] : List UInt8).length, st.l, false⟩ := by
   have h1 := len_add hi.n hd
   have h2 := hi.l
   exact ⟨rfl, h1, (by show ((s.length - (st.n + ([44, 32] : List UInt8).length) : Nat) : Int) < st.l; simp at h2 ⊢; omega), hi.u⟩
  have hstop : StopD (wrL data vs (List.replicate vs.length t) false ++ ([93] ++ r)) := by
   intro b hb
   cases vs with
   | nil => simp [wrL] at hb; subst hb; decide
   | cons v vs => simp [wrL, List.replicate_succ] at hb; subst hb; decide
  obtain ⟨e2, i2, d2⟩ := hC.step hR i1 (by simp only; omega) ht hh.1 (drop_add hd) hstop
  have e3 := arr_comp hR hC t ht vs k _ r (by simpa using hk) i2 (by simp only; omega) hh.2 d2
  unfold arr
  rw [e1]
  simp only
  rw [e2]
  simp only
  rw [e3]
  simp only [VT.nodesL, List.length_append, List.length_cons, List.length_nil]
  congr 2
  ·omega
  ·omega
theorem par_comp {data : List Dat} {s : List UInt8} {rd : VT → S10 → VT × S10} {L : Nat} (hR : RSn data s rd) (hC : RCm data s rd L) (p : List UInt8) (hp : 1 ≤ p.length) (ts vs : List VT) (r : List UInt8) {n : Nat} {l : Int} (hn : n ≤ s.length) (hl : ((s.length - n : Nat) : Int) ≤ l) (hu : l ≤ 5000) (hL : s.length - n ≤ L)
  (ht : ∀ t ∈ ts, tyOk data 0 t = true) (hh : hasL data vs ts = true) (hd : s.drop n = p ++ (wrL data vs ts true ++ ([41] ++ r))) :
  par s rd p ts ⟨n, l, false⟩ = (vs, ⟨n + (p ++ wrL data vs ts true ++ [41]).length, l - VT.nodesL vs, false⟩) := by
 unfold par
 simp only
 have e1 : nd s p ⟨n, l, false⟩ = ⟨n + p.length, l, false⟩ := nd_app rfl hd
 have h1 := len_add hn hd
 have i1 : Iv s ⟨n + p.length, l, false⟩ := ⟨rfl, h1, (by show ((s.length - (n + p.length) : Nat) : Int) < l; omega), hu⟩
 have e2 := vls_comp hR hC ts vs true _ ([41] ++ r) i1 (by simp only; omega) ht hh (drop_add hd) (by intro b hb; simp at hb; subst hb; decide)
 rw [e1, e2]
 simp only
 have e3 : nd s [41] ⟨n + p.length + (wrL data vs ts true).length, l - VT.nodesL vs, false⟩ = ⟨n + p.length + (wrL data vs ts true).length + ([41] : List UInt8).length, l - VT.nodesL vs, false⟩ := nd_app (r := r) rfl (by
  have := drop_add (drop_add hd |>.trans rfl)
  exact this)
 rw [e3]
 simp only [List.length_append]
 congr 2
 omega
theorem dig_out {b : UInt8} (h : bIn b = false) : bDig b = false := by
 unfold bIn at h
 simp only [Bool.or_eq_false_iff] at h
 simp [h]
theorem nmb_comp {s r : List UInt8} {n : Nat} {l x : Int} (hn : n ≤ s.length) (h1 : -1099511627776 ≤ x) (h2 : x ≤ 1099511627776) (hd : s.drop n = Lib.itoa x ++ r) (hr : StopD r) : nmb s ⟨n, l, false⟩ = (x, ⟨n + (Lib.itoa x).length, l, false⟩) := by
 have hp := prNum_comp h1 h2 (fun b hb => dig_out (hr b hb))
 rw [← hd] at hp
 have key : (nmb s ⟨n, l, false⟩).2.b = false ∧ (nmb s ⟨n, l, false⟩).2.n + r.length = n + (Lib.itoa x).length + r.length := by
  have hle : (tk s [45] ⟨n, l, false⟩).isSome = ((s.drop n).head? == some 45) ∧ (tk s [45] ⟨n, l, false⟩).getD ⟨n, l, false⟩ = ⟨n + (if (s.drop n).head? == some 45 then 1 else 0), l, false⟩ := by
   cases hdd : s.drop n with
   | nil => rw [tk_not (by rw [hdd]; rintro ⟨x, hx⟩; simp at hx)]; simp
   | cons a q =>
    by_cases ha : a = 45
    ·subst ha
     rw [tk_app (p := [45]) (r := q) rfl hdd]
     simp
    ·rw [tk_not (by rw [hdd]; rintro ⟨x, hx⟩; simp at hx; exact ha hx.1.symm)]
     simp [ha]
  have hdr : (if ((s.drop n).head? == some 45) = true then (s.drop n).drop 1 else s.drop n) = s.drop (n + (if (s.drop n).head? == some 45 then 1 else 0)) := by
   split <;> simp
  have h7 : n + (if (s.drop n).head? == some 45 then 1 else 0) ≤ s.length := by
   split
   ·rename_i hh
    cases hdd : s.drop n with
    | nil => rw [hdd] at hh; cases hh
    | cons a q =>
     have := congrArg List.length hdd
     simp at this
     omega
   ·omega
  have hlen := congrArg List.length hd
  simp only [List.length_append, List.length_drop] at hlen
  unfold prNum at hp
  simp only at hp
  rw [hdr] at hp
  unfold nmb
  simp only [hle.1, hle.2]
  generalize hng : ((s.drop n).head? == some 45) = neg at *
  have h6 := ds10_le s _ h7
  unfold ds10 at h6 ⊢
  generalize hmm : n + (if neg = true then 1 else 0) = m at *
  generalize hds : ((s.drop m).takeWhile bDig).take 14 = ds at *
  split at hp
  ·cases hp
  ·rename_i hc
   simp only [Option.some.injEq, Prod.mk.injEq] at hp
   have h5 := congrArg List.length hp.2
   simp only [List.length_drop] at h5
   simp only [Bool.false_or, decide_eq_false_iff_not]
   exact ⟨hc, by omega⟩
 obtain ⟨_, k2, k3⟩ := nmb_ok key.1
 simp only at k2 k3
 rw [hp] at k2
 simp only [Option.some.injEq, Prod.mk.injEq] at k2
 generalize nmb s ⟨n, l, false⟩ = y at *
 obtain ⟨y1, yn, yl, yb⟩ := y
 simp only at key k2 k3
 obtain ⟨rfl, _⟩ := k2
 obtain ⟨rfl, hk⟩ := key
 subst k3
 congr 2
 omega
theorem takeWhile_stop2 {w r : List UInt8} (hw : ∀ b ∈ w, bIn b = true) (hr : ∀ b, r.head? = some b → bIn b = false) : (w ++ r).takeWhile bIn = w := by
 induction w with
 | nil =>
  cases r with
  | nil => simp
  | cons b r => have := hr b rfl; simp [this]
 | cons b w ih =>
  have h1 := hw b (by simp)
  have h2 := ih fun b hb => hw b (by simp [hb])
  simp [h1, h2]
theorem wrL_rep (data : List Dat) (t : VT) : ∀ (vs : List VT) (first : Bool), first = false → vs.length ≤ (wrL data vs (List.replicate vs.length t) first).length
 | [], _, _ => by simp
 | v :: vs, first, h => by
  subst h
  have := wrL_rep data t vs false rfl
  simp [wrL, List.replicate_succ]
  omega
theorem rf_comp {data : List Dat} {s : List UInt8} (hD : dataOk data = true) : ∀ f, RCm data s (rf data s f) f
 | 0, t, st, v, r, hi, hl, ht, hh, hd, hr => by omega
 | f + 1, .mk k n ks, st, .mk vk vn vks, r, hi, hf, ht, hh, hd, hr => by
  have ih := rf_comp (s := s) hD f
  have hR := rf_sound (s := s) hD f
  have hdc := dec_iv hi
  have hl : ((s.length - st.n : Nat) : Int) ≤ st.l - 1 := by have := hi.l; omega
  have hu : st.l - 1 ≤ 5000 := by have := hi.u; omega
  have hkid : ∀ t ∈ ks, tyOk data 0 t = true := tyOk_kids ht
  unfold rf
  simp only [hdc, Bool.false_eq_true, if_false]
  rw [wrV_mk] at hd ⊢
  simp only [hasV] at hh
  by_cases h3 : k = 3
  ·subst h3
   simp at hh hd ⊢
   obtain ⟨⟨rfl, rfl⟩, rfl⟩ := hh
   have e : nd s [40, 41] ⟨st.n, st.l - 1, false⟩ = ⟨st.n + ([40, 41] : List UInt8).length, st.l - 1, false⟩ := nd_app (r := r) rfl (by simpa using hd)
   simp [e, VT.nodes, VT.nodesL]
  rw [if_neg h3]
  by_cases h2 : k = 2
  ·subst h2
   simp at hh hd ⊢
   obtain ⟨⟨rfl, hv⟩, rfl⟩ := hh
   rcases hv with rfl | rfl
   ·have e0 : tk s [116, 114, 117, 101] ⟨st.n, st.l - 1, false⟩ = none := tk_not (by
     simp at hd
     rw [hd]
     rintro ⟨x, hx⟩
     simp at hx)
    have e : nd s [102, 97, 108, 115, 101] ⟨st.n, st.l - 1, false⟩ = ⟨st.n + ([102, 97, 108, 115, 101] : List UInt8).length, st.l - 1, false⟩ := nd_app (r := r) rfl (by simpa using hd)
    simp [e0, e, VT.nodes, VT.nodesL]
   ·have e : tk s [116, 114, 117, 101] ⟨st.n, st.l - 1, false⟩ = some ⟨st.n + ([116, 114, 117, 101] : List UInt8).length, st.l - 1, false⟩ := tk_app (r := r) rfl (by simpa using hd)
    simp [e, VT.nodes, VT.nodesL]
  rw [if_neg h2]
  by_cases h1 : k = 1
  ·subst h1
   simp at hh hd ⊢
   obtain ⟨⟨⟨rfl, g1⟩, g2⟩, rfl⟩ := hh
   have e := nmb_comp (s := s) (n := st.n) (l := st.l - 1) hi.n g1 g2 hd hr
   simp [e, VT.nodes, VT.nodesL]
  rw [if_neg h1]
  by_cases h6 : k = 6
  ·subst h6
   simp at hh hd ⊢
   obtain ⟨⟨rfl, rfl⟩, hL⟩ := hh
   have e := par_comp hR ih [40] (by simp) ks vks r hi.n hl hu (by omega) hkid hL (by simpa using hd)
   rw [e]
   simp [VT.nodes]
   omega
  rw [if_neg h6]
  by_cases h5 : k = 5
  ·subst h5
   simp only [if_neg (show ¬ (5 : Int) = 1 by decide), if_neg (show ¬ (5 : Int) = 2 by decide), if_neg (show ¬ (5 : Int) = 3 by decide), if_neg (show ¬ (5 : Int) = 6 by decide), if_true] at hh hd ⊢
   simp at hh
   obtain ⟨⟨⟨rfl, v0⟩, v8⟩, hL⟩ := hh
   cases hfd : fields data (.mk 5 n ks) vn with
   | none => rw [hfd, hasL?_none] at hL; cases hL
   | some ts =>
    rw [hfd, hasL?_some] at hL
    rw [hfd] at hd
    simp only at hd ⊢
    have hll := hasL_len hL
    obtain ⟨_, n0, c0, hn1, hc1, _⟩ := fields_some hfd
    have hnm : conName data (.mk 5 n ks) vn = ((data[n.toNat]).cons[vn.toNat]).name := by simp [conName, VT.num, hn1, hc1]
    have hnw := con_name hD hn1 hc1
    rw [← hnm] at hnw
    have hto : ∀ x ∈ ts, tyOk data 0 x = true := fun x hx => by
     have := fields_valid hD ht hfd x hx
     rw [tyValid, Bool.and_eq_true] at this
     exact this.2
    have hlk : lookG data n (fields data (.mk 5 n ks)) (conName data (.mk 5 n ks) vn) = some (vn, ts) := lookG_hit hD n0 c0 hn1 hc1 hnm hfd
    have hstop : ∀ b, ((if vks.length = 0 then [] else [40] ++ wrL data vks ts true ++ [41]) ++ r).head? = some b → bIn b = false := by
     intro b hb
     by_cases hz : vks.length = 0
     ·rw [if_pos hz] at hb; exact hr b (by simpa using hb)
     ·rw [if_neg hz] at hb; simp at hb; subst hb; decide
    simp only [List.append_assoc] at hd hstop
    have htw := (takeWhile_stop2 hnw.2 hstop)
    unfold con10
    simp only [VT.num]
    have hw : (s.drop st.n).takeWhile bIn = conName data (.mk 5 n ks) vn := by rw [hd]; simpa using htw
    rw [hw, hlk]
    simp only
    have hwl := len_add hi.n hd
    have hnp : 1 ≤ (conName data (.mk 5 n ks) vn).length := List.length_pos_iff.2 hnw.1
    by_cases hz : vks.length = 0
    ·have hz' : ts.length = 0 := by omega
     obtain rfl : vks = [] := List.eq_nil_of_length_eq_zero hz
     rw [if_pos hz']
     simp [VT.nodes, VT.nodesL]
    ·have hz' : ¬ ts.length = 0 := by omega
     rw [if_neg hz'] at *
     rw [if_neg hz] at hd ⊢
     have e := par_comp hR ih [40] (by simp) ts vks r (n := st.n + (conName data (.mk 5 n ks) vn).length) (l := st.l - 1) hwl (by omega) hu (by omega) hto hL (by simpa using drop_add hd)
     rw [e]
     simp only [VT.nodes, List.length_append]
     congr 2
     ·omega
     ·omega
  rw [if_neg h5]
  have t7 := ty_kinds ht
  by_cases h8 : k = 8
  ·subst h8
   simp at hh hd ⊢
   obtain ⟨⟨rfl, rfl⟩, hL⟩ := hh
   have e := par_comp hR ih [114, 101, 102, 40] (by simp) ks vks r hi.n hl hu (by omega) hkid hL (by simpa using hd)
   rw [e]
   simp [VT.nodes]
   omega
  rw [if_neg h8]
  by_cases h7 : k = 7
  ·subst h7
   simp at hh hd ⊢
   obtain ⟨⟨⟨rfl, rfl⟩, _⟩, hA⟩ := hh
   have h1k : ks.length = 1 := by
    rcases t7 with h | h | h | h | h | h | h | h <;> first | omega | (obtain ⟨h, _⟩ := h; omega)
   have ht0 : tyOk data 0 (ks.getD 0 (.mk 0 0 [])) = true := by
    rw [getD_at (by omega)]
    exact hkid _ (List.getElem_mem _)
   simp only [List.getD_eq_getElem?_getD] at *
   generalize ht0e : (ks[0]?.getD (VT.mk 0 0 [])) = t0 at *
   have e1 : nd s [91] ⟨st.n, st.l - 1, false⟩ = ⟨st.n + ([91] : List UInt8).length, st.l - 1, false⟩ := nd_app rfl (p := [91]) (by simpa using hd)
   have hd1 := drop_add (w := [91]) (by simpa using hd : s.drop st.n = [91] ++ _)
   have hle := len_add hi.n (w := [91]) (by simpa using hd : s.drop st.n = [91] ++ _)
   have i1 : Iv s ⟨st.n + ([91] : List UInt8).length, st.l - 1, false⟩ := ⟨rfl, hle, (by show ((s.length - (st.n + ([91] : List UInt8).length) : Nat) : Int) < st.l - 1; simp at hle ⊢; omega), hu⟩
   unfold arr10
   simp only
   rw [e1]
   cases vks with
   | nil =>
    have e2 : tk s [93] ⟨st.n + ([91] : List UInt8).length, st.l - 1, false⟩ = some ⟨st.n + ([91] : List UInt8).length + ([93] : List UInt8).length, st.l - 1, false⟩ := tk_app (r := r) rfl (by rw [hd1]; simp [wrL])
    rw [e2]
    simp [wrL, VT.nodes, VT.nodesL]
   | cons v vs =>
    simp only [hasA, Bool.and_eq_true] at hA
    have h93 := wrV_93 hD ht0 hA.1
    have hd2 : s.drop (st.n + ([91] : List UInt8).length) = wrV data v t0 ++ (wrL data vs (List.replicate vs.length t0) false ++ ([93] ++ r)) := by
     rw [hd1]
     simp [wrL, List.replicate_succ]
    have e2 : tk s [93] ⟨st.n + ([91] : List UInt8).length, st.l - 1, false⟩ = none := tk_not (by
     rintro ⟨x, hx⟩
     simp only at hx
     rw [hd2] at hx
     exact h93 (wrL data vs (List.replicate vs.length t0) false ++ ([93] ++ r)) 93 (by rw [← hx]; rfl) rfl)
    rw [e2]
    simp only
    have hstop : StopD (wrL data vs (List.replicate vs.length t0) false ++ ([93] ++ r)) := by
     intro b hb
     cases vs with
     | nil => simp [wrL] at hb; subst hb; decide
     | cons v vs => simp [wrL, List.replicate_succ] at hb; subst hb; decide
    obtain ⟨e3, i3, d3⟩ := ih.step hR i1 (by simp only [List.length_cons, List.length_nil] at hle ⊢; omega) ht0 hA.1 hd2 hstop
    rw [e3]
    simp only
    have hvl : vs.length ≤ s.length := by
     have h1 := congrArg List.length d3
     have h2 := VT.len_le vs
     have h3 := wrL_rep data t0 vs false rfl
     simp only [List.length_append, List.length_drop] at h1
     omega
    have e4 := arr_comp hR ih t0 ht0 vs s.length _ r hvl i3 (by simp only [List.length_cons, List.length_nil] at hle ⊢; omega) hA.2 d3
    rw [e4]
    simp only [VT.nodes, VT.nodesL, wrL, List.replicate_succ, List.length_cons, List.length_append, List.length_nil, if_true]
    congr 2
    ·omega
    ·omega
  rw [if_neg h7]
  rw [if_neg h1, if_neg h2, if_neg h3, if_neg h6, if_neg h5, if_neg h7, if_neg h8] at hd hh ⊢
  simp at hh
  obtain ⟨⟨⟨rfl, g1⟩, g2⟩, rfl⟩ := hh
  have e1 : nd s [102, 110, 35] ⟨st.n, st.l - 1, false⟩ = ⟨st.n + ([102, 110, 35] : List UInt8).length, st.l - 1, false⟩ := nd_app rfl (p := [102, 110, 35]) (by simpa using hd)
  have hd1 := drop_add (w := [102, 110, 35]) (by simpa using hd : s.drop st.n = [102, 110, 35] ++ (Lib.itoa vn ++ r))
  have hle := len_add hi.n (w := [102, 110, 35]) (by simpa using hd : s.drop st.n = [102, 110, 35] ++ (Lib.itoa vn ++ r))
  have e2 := nmb_comp (s := s) (l := st.l - 1) hle (by omega) (by omega) hd1 hr
  rw [e1, e2]
  simp [VT.nodes, VT.nodesL]
  omega
end Go.Proofs.YtfpmdpldabopjaaGreatDoor
