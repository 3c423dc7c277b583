import Derived.Test.YtjkkonpjecoieaaGreatKV1
import Derived.Test.YtjkkonpjecoieaaGreatIT
import Derived.Test.YtjkkonpjecoieaaGreatAbsL
import Derived.Test.YtjkkonpjecoieaaGreatKNum
import Derived.Test.YtjkkonpjecoieaaGreatProg
import Derived.KernelRfl
import Derived.Test.YtjkkonpjecoieaaGreatAbsW
import Derived.Test.YtjkkonpjecoieaaGreatKY8
set_option linter.unusedSimpArgs false
set_option linter.unusedVariables false
namespace Go.Proofs.YtjkkonpjecoieaaGreat
open Go Go.Abs
def pick : List VT → List Bool → List VT
 | x :: l, b :: bs => if b then pick l bs else x :: pick l bs
 | _, _ => []
def zbl (data : List Dat) (t : VT) (c : Int) : Option (List VT) := (zaR data t c).map fun l => pick l ((za4 data t.num.toNat).getD c.toNat [])
mutual
def zcb (data : List Dat) : IT → VT → Int × Bool
 | .mk n ks, t =>
  if t.kind = 6 then (if n = 0 then (if t.kids.length = ks.length then zbF data ks t.kids 0 else (0, false)) else (0, false))
  else if t.kind = 7 then (n, decide (0 ≤ n) && decide (n ≤ 6) && decide (ks.length = 0))
  else if t.kind = 5 then (if n = 0 then zcu data ks t 0 else (0, false))
  else (0, decide (n = 0) && decide (ks.length = 0))
def zbF (data : List Dat) : List IT → List VT → Int → Int × Bool
 | [], _, a => (a, decide (a ≤ 6))
 | v :: vs, ts, a => match ts with
  | t :: ts => if (zcb data v t).2 then zbF data vs ts (a + (zcb data v t).1) else (0, false)
  | [] => (0, false)
def zcu (data : List Dat) : List IT → VT → Int → Int × Bool
 | [], _, a => (a, true)
 | .mk c ks :: es, t, a => match zbl data t c with
  | none => (0, false)
  | some ps => if ps.length = ks.length then
    (if (zbF data ks ps 0).2 && decide (a + (1 + (zbF data ks ps 0).1) ≤ 6) then zcu data es t (a + (1 + (zbF data ks ps 0).1)) else (0, false))
   else (0, false)
end
mutual
def rdV (data : List Dat) : IT → VT → Int
 | .mk n ks, t =>
  if t.kind = 6 then (if n = 0 then (if t.kids.length = ks.length then rdA data ks t.kids 0 else -1) else -1)
  else if t.kind = 7 then (if 0 ≤ n ∧ n ≤ 6 ∧ ks.length = 0 then n else -1)
  else if t.kind = 5 then (if n = 0 ∧ ks.length ≤ 6 then rdE data ks t 0 else -1)
  else (if n = 0 ∧ ks.length = 0 then 0 else -1)
def rdA (data : List Dat) : List IT → List VT → Int → Int
 | [], _, a => a
 | v :: vs, ts, a => match ts with
  | t :: ts => if rdV data v t < 0 ∨ a + rdV data v t > 6 then -1 else rdA data vs ts (a + rdV data v t)
  | [] => -1
def rdE (data : List Dat) : List IT → VT → Int → Int
 | [], _, a => a
 | .mk c ks :: es, t, a => if c < 0 ∨ 8 ≤ c then -1 else match zbl data t c with
  | none => -1
  | some ps => if ps.length = ks.length then
    (if rdA data ks ps 0 < 0 ∨ a + 1 + rdA data ks ps 0 > 6 then -1 else rdE data es t (a + (1 + rdA data ks ps 0)))
   else -1
end
theorem zBQ {data : List Dat} (h8 : ∀ D ∈ data, D.cons.length ≤ 8) {t : VT} {c : Int} {ps : List VT} (h : zbl data t c = some ps) : 0 ≤ c ∧ c < 8 := by
 unfold zbl at h
 cases hf : zaR data t c with
 | none => rw [hf] at h; cases h
 | some l =>
  obtain ⟨_, k1, k2, hn, hc, _⟩ := zfh hf
  have := h8 _ (List.getElem_mem hn)
  omega
def agr (m : Int × Bool) (r : Int) : Prop := (m.2 = true → m.1 = r ∧ 0 ≤ r ∧ r ≤ 6) ∧ (m.2 = false → r = -1)
theorem zdE : agr (0, false) (-1) := ⟨fun h => (by cases h), fun _ => rfl⟩
mutual
theorem zf2 {data : List Dat} (h8 : ∀ D ∈ data, D.cons.length ≤ 8) : ∀ (v : IT) (t : VT), agr (zcb data v t) (rdV data v t)
 | .mk n ks, t => by
  have hA := (zhA h8 ks t.kids 0 (by omega)).1 (by omega)
  have hE := zmf h8 ks t 0 (by omega) (by omega)
  unfold zcb rdV
  split
  ·split
   ·split
    ·exact hA
    ·exact zdE
   ·exact zdE
  ·split
   ·refine ⟨fun h => ?_, fun h => ?_⟩
    ·simp at h
     rw [if_pos ⟨h.1.1, h.1.2, by simpa using h.2⟩]
     exact ⟨rfl, h.1.1, h.1.2⟩
    ·rw [if_neg]
     rintro ⟨h1, h2, h3⟩
     simp [h1, h2, h3] at h
   ·split
    ·by_cases hn : n = 0
     ·simp only [hn, if_true, true_and]
      by_cases hl : ks.length ≤ 6
      ·rw [if_pos hl]; exact hE.1
      ·rw [if_neg hl]
       refine ⟨fun h => ?_, fun _ => rfl⟩
       have := hE.2 h
       omega
     ·simp only [hn, if_false, false_and]
      exact zdE
    ·refine ⟨fun h => ?_, fun h => ?_⟩
     ·simp at h
      simp [h]
     ·rw [if_neg]
      rintro ⟨h1, h2⟩
      simp [h1, h2] at h
theorem zhA {data : List Dat} (h8 : ∀ D ∈ data, D.cons.length ≤ 8) : ∀ (vs : List IT) (ts : List VT) (a : Int), 0 ≤ a → (a ≤ 6 → agr (zbF data vs ts a) (rdA data vs ts a)) ∧ (6 < a → (zbF data vs ts a).2 = false)
 | [], ts, a, ha => by
  simp only [zbF, rdA]
  exact ⟨fun h => ⟨fun _ => ⟨rfl, ha, h⟩, fun h2 => by simp at h2; omega⟩, fun h => by simp; omega⟩
 | v :: vs, ts, a, ha => by
  match ts with
  | [] => simp only [zbF, rdA]; exact ⟨fun _ => zdE, fun _ => by trivial⟩
  | t :: ts =>
   obtain ⟨g1, g2⟩ := zf2 h8 v t
   simp only [zbF, rdA]
   cases hb : (zcb data v t).2 with
   | false =>
    rw [g2 hb]
    simp
    exact fun _ => zdE
   | true =>
    obtain ⟨e1, e2, e3⟩ := g1 hb
    rw [e1]
    have hn := zhA h8 vs ts (a + rdV data v t) (by omega)
    simp only [if_true]
    refine ⟨fun h => ?_, fun h => hn.2 (by omega)⟩
    by_cases h6 : a + rdV data v t > 6
    ·rw [if_pos (.inr h6)]
     exact ⟨fun h => (by rw [hn.2 (by omega)] at h; cases h), fun _ => rfl⟩
    ·rw [if_neg (by omega)]
     exact hn.1 (by omega)
theorem zmf {data : List Dat} (h8 : ∀ D ∈ data, D.cons.length ≤ 8) : ∀ (es : List IT) (t : VT) (a : Int), 0 ≤ a → a ≤ 6 → agr (zcu data es t a) (rdE data es t a) ∧ ((zcu data es t a).2 = true → a + es.length ≤ 6)
 | [], t, a, h0, h6 => by
  simp only [zcu, rdE]
  exact ⟨⟨fun _ => ⟨rfl, h0, h6⟩, fun h => by cases h⟩, fun _ => by simpa using h6⟩
 | .mk c ks :: es, t, a, h0, h6 => by
  simp only [zcu, rdE]
  cases hp : zbl data t c with
  | none => simp only [ite_self]; exact ⟨zdE, fun h => by cases h⟩
  | some ps =>
   obtain ⟨c0, c8⟩ := zBQ h8 hp
   rw [if_neg (show ¬(c < 0 ∨ 8 ≤ c) by omega)]
   simp only
   by_cases hl : ps.length = ks.length
   ·simp only [hl, if_true]
    obtain ⟨g1, g2⟩ := (zhA h8 ks ps 0 (by omega)).1 (by omega)
    cases hb : (zbF data ks ps 0).2 with
    | false =>
     rw [g2 hb]
     simp
     exact zdE
    | true =>
     obtain ⟨e1, e2, e3⟩ := g1 hb
     rw [e1]
     by_cases hh : a + (1 + rdA data ks ps 0) ≤ 6
     ·have hn := zmf h8 es t (a + (1 + rdA data ks ps 0)) (by omega) hh
      rw [if_neg (show ¬(rdA data ks ps 0 < 0 ∨ a + 1 + rdA data ks ps 0 > 6) by omega)]
      simp only [hh, decide_true, Bool.and_self, if_true]
      refine ⟨hn.1, fun h => ?_⟩
      have := hn.2 h
      simp only [List.length_cons]
      omega
     ·rw [if_pos (show rdA data ks ps 0 < 0 ∨ a + 1 + rdA data ks ps 0 > 6 by omega)]
      simp [hh]
      exact zdE
   ·simp only [hl, if_false]
    exact ⟨zdE, fun h => by cases h⟩
end
end Go.Proofs.YtjkkonpjecoieaaGreat
namespace Go.Abs
open Go
def fill : List IT → List Nat → List IT → List IT
 | row, p :: ps, x :: xs => fill (row.set p x) ps xs
 | row, _, _ => row
@[simp] theorem zSa (row xs : List IT) : fill row [] xs = row := by cases xs <;> rfl
@[simp] theorem zfi : ∀ (row : List IT) (ps : List Nat) (xs : List IT), (fill row ps xs).length = row.length
 | row, p :: ps, x :: xs => by rw [fill, zfi]; simp
 | row, [], _ => by simp [fill]
 | row, _ :: _, [] => by simp [fill]
theorem zfj : ∀ (ps : List Nat) (row xs : List IT) (q : Nat), q ∉ ps → (fill row ps xs)[q]? = row[q]?
 | [], row, xs, q, _ => by simp
 | p :: ps, row, [], q, _ => by simp [fill]
 | p :: ps, row, x :: xs, q, h => by
  simp only [List.mem_cons, not_or] at h
  rw [fill, zfj ps _ _ _ h.2, List.getElem?_set_ne (fun e => h.1 e.symm)]
theorem zmz : ∀ (ps : List Nat) (row xs : List IT), ps.Nodup → xs.length = ps.length → (∀ p ∈ ps, p < row.length) → ∀ (k : Nat) (hk : k < ps.length) (hx : k < xs.length), (fill row ps xs)[ps[k]]? = some xs[k]
 | [], row, xs, _, _, _, k, hk, _ => by simp at hk
 | p :: ps, row, [], _, hl, _, k, _, hx => by simp at hx
 | p :: ps, row, x :: xs, h, hl, hp, k, hk, hx => by
  rw [List.nodup_cons] at h
  rw [fill]
  cases k with
  | zero =>
   simp only [List.getElem_cons_zero]
   rw [zfj ps _ _ _ h.1, List.getElem?_set_self (hp p (by simp))]
  | succ k =>
   simp only [List.getElem_cons_succ]
   exact zmz ps _ xs h.2 (by simpa using hl) (fun q hq => by simpa using hp q (by simp [hq])) k (by simpa using hk) (by simpa using hx)
def zcT : List IT → Nat → List (List (List IT))
 | l, 0 => if l.isEmpty then [[]] else []
 | l, n + 1 => (List.range (l.length + 1)).flatMap fun k => (zcT (l.drop k) n).map fun r => l.take k :: r
def zbg : List IT → List Nat → List IT → List (List IT)
 | row, [], l => if l.isEmpty then [row] else []
 | row, p :: ps, l => (List.range (l.length + 1)).flatMap fun n => zbg (row.set p (.mk 0 (l.take n))) ps (l.drop n)
theorem zgf : ∀ (ps : List Nat) (row l : List IT), zbg row ps l = (zcT l ps.length).map fun r => fill row ps (r.map (IT.mk 0))
 | [], row, l => by
  simp only [zbg, List.length_nil, zcT]
  split <;> simp
 | p :: ps, row, l => by
  simp only [zbg, List.length_cons, zcT, List.map_flatMap, List.map_map]
  congr 1
  funext n
  rw [zgf]
  rfl
theorem zn7 : ∀ (n : Nat) (l : List IT), ∀ r ∈ zcT l n, r.length = n
 | 0, l, r, h => by
  simp only [zcT] at h
  split at h <;> simp at h
  simp [h]
 | n + 1, l, r, h => by
  simp only [zcT, List.mem_flatMap, List.mem_map] at h
  obtain ⟨k, _, r', h2, rfl⟩ := h
  simp [zn7 n _ r' h2]
theorem zn6 : ∀ (n : Nat) (l : List IT), ∀ r ∈ zcT l n, r.flatten = l
 | 0, l, r, h => by
  simp only [zcT] at h
  split at h <;> simp at h
  rename_i h2
  simp at h2
  simp [h, h2]
 | n + 1, l, r, h => by
  simp only [zcT, List.mem_flatMap, List.mem_map] at h
  obtain ⟨k, _, r', h2, rfl⟩ := h
  simp [zn6 n _ r' h2]
theorem zmB {α β : Type} {N : Nat} (f : α → List β) : ∀ (l : List α), (∀ a ∈ l, (f a).length ≤ N) → (l.flatMap f).length ≤ l.length * N
 | [], _ => by simp
 | a :: l, h => by
  rw [List.flatMap_cons, List.length_append, List.length_cons, Nat.succ_mul]
  have h1 := h a (by simp)
  have h2 := zmB f l (fun b hb => h b (by simp [hb]))
  omega
theorem zuC : ∀ (n : Nat) (l : List IT), (zcT l n).length ≤ (l.length + 1) ^ n
 | 0, l => by simp only [zcT]; split <;> simp
 | n + 1, l => by
  rw [zcT, Nat.pow_succ, Nat.mul_comm]
  refine Nat.le_trans (zmB (N := (l.length + 1) ^ n) _ _ fun k _ => ?_) (by simp)
  rw [List.length_map]
  refine Nat.le_trans (zuC n _) (Nat.pow_le_pow_left ?_ _)
  simp
def rle (x y : List IT) : Prop := ¬ IT.cmpL y x < 0
mutual
theorem IT.same_eq : ∀ v w : IT, IT.same v w = true → v = w
 | .mk n ks, .mk n' ks', h => by
  simp only [IT.same, Bool.and_eq_true, beq_iff_eq] at h
  rw [h.1, IT.sameL_eq ks ks' h.2]
theorem IT.sameL_eq : ∀ v w : List IT, IT.sameL v w = true → v = w
 | [], [], _ => rfl
 | v :: vs, w :: ws, h => by
  simp only [IT.sameL, Bool.and_eq_true] at h
  rw [IT.same_eq v w h.1, IT.sameL_eq vs ws h.2]
 | [], _ :: _, h => by simp [IT.sameL] at h
 | _ :: _, [], h => by simp [IT.sameL] at h
end
end Go.Abs
namespace Go.Proofs.YtjkkonpjecoieaaGreat
open Go Go.Abs
variable {data : List Dat}
theorem zB3 {h8 : ∀ D ∈ data, D.cons.length ≤ 8} (v : IT) (t : VT) : -1 ≤ rdV data v t ∧ rdV data v t ≤ 6 := by
 obtain ⟨h1, h2⟩ := zf2 h8 v t
 cases hb : (zcb data v t).2 with
 | true => have := h1 hb; omega
 | false => have := h2 hb; omega
def ad (a r : Int) : Int := if r < 0 then -1 else if a + r > 6 then -1 else a + r
theorem zfe {a r : Int} (h : 0 ≤ r) (h2 : a + r ≤ 6) : ad a r = a + r := by unfold ad; rw [if_neg (by omega), if_neg (by omega)]
theorem zcL {a r : Int} (h : r < 0 ∨ a + r > 6) : ad a r = -1 := by
 unfold ad
 by_cases h1 : r < 0
 ·rw [if_pos h1]
 ·rw [if_neg h1, if_pos (by omega)]
theorem zz8 {a b r : Int} (hb : 0 ≤ b) (ha : 0 ≤ a) : ad (a + b) r = ad a (ad b r) := by
 by_cases h1 : r < 0 ∨ b + r > 6
 ·rw [zcL (a := b) h1, zcL (a := a) (.inl (by omega)), zcL (by omega)]
 ·rw [zfe (a := b) (by omega) (by omega)]
  by_cases h2 : a + (b + r) > 6
  ·rw [zcL (.inr h2), zcL (.inr (by omega))]
  ·rw [zfe (by omega) (by omega), zfe (by omega) (by omega), Int.add_assoc]
theorem zul (v : IT) (vs : List IT) (t : VT) (ts : List VT) (a : Int) : rdA data (v :: vs) (t :: ts) a = if rdV data v t < 0 ∨ a + rdV data v t > 6 then -1 else rdA data vs ts (a + rdV data v t) := by simp only [rdA]
theorem zec (c : Int) (ks es : List IT) (t : VT) (a : Int) : rdE data (.mk c ks :: es) t a = if c < 0 ∨ 8 ≤ c then -1 else match zbl data t c with
  | none => -1
  | some ps => if ps.length = ks.length then (if rdA data ks ps 0 < 0 ∨ a + 1 + rdA data ks ps 0 > 6 then -1 else rdE data es t (a + (1 + rdA data ks ps 0))) else -1 := by simp only [rdE] <;> rfl
theorem ziP : ∀ (es : List IT) (t : VT) (a : Int), 0 ≤ a → rdE data es t a = -1 ∨ a + es.length ≤ rdE data es t a
 | [], _, a, h => by simp [rdE]
 | .mk c ks :: es, t, a, h => by
  rw [zec]
  by_cases hc : c < 0 ∨ 8 ≤ c
  ·rw [if_pos hc]; exact .inl rfl
  ·rw [if_neg hc]
   cases zbl data t c with
   | none => exact .inl rfl
   | some ps =>
    simp only
    by_cases hl : ps.length = ks.length
    ·rw [if_pos hl]
     by_cases h0 : rdA data ks ps 0 < 0 ∨ a + 1 + rdA data ks ps 0 > 6
     ·rw [if_pos h0]; exact .inl rfl
     ·rw [if_neg h0]
      rcases ziP es t (a + (1 + rdA data ks ps 0)) (by omega) with h2 | h2
      ·exact .inl h2
      ·right; simp only [List.length_cons]; omega
    ·rw [if_neg hl]; exact .inl rfl
theorem znU : ∀ (es : List IT) (t : VT) (a : Int), 0 ≤ a → a ≤ 6 → rdE data es t a = ad a (rdE data es t 0)
 | [], _, a, h, h6 => by simp only [rdE]; rw [zfe (by omega) (by omega), Int.add_zero]
 | .mk c ks :: es, t, a, h, h6 => by
  rw [zec, zec]
  by_cases hc : c < 0 ∨ 8 ≤ c
  ·rw [if_pos hc, if_pos hc, zcL (.inl (by omega))]
  ·rw [if_neg hc, if_neg hc]
   cases zbl data t c with
   | none => exact (zcL (a := a) (r := -1) (.inl (by omega))).symm
   | some ps =>
    simp only
    by_cases hl : ps.length = ks.length
    ·rw [if_pos hl, if_pos hl]
     by_cases h0 : rdA data ks ps 0 < 0 ∨ 0 + 1 + rdA data ks ps 0 > 6
     ·rw [if_pos h0, if_pos (by omega), zcL (.inl (by omega))]
     ·rw [if_neg h0, znU es t (0 + (1 + rdA data ks ps 0)) (by omega) (by omega), Int.zero_add]
      have g2 := ziP (data := data) es t 0 (by omega)
      by_cases h3 : a + 1 + rdA data ks ps 0 > 6
      ·rw [if_pos (Or.inr h3)]
       generalize rdE data es t 0 = r at *
       by_cases h4 : r < 0 ∨ (1 + rdA data ks ps 0) + r > 6
       ·rw [zcL h4, zcL (.inl (by omega))]
       ·rw [zfe (a := 1 + rdA data ks ps 0) (by omega) (by omega), zcL (.inr (by omega))]
      ·rw [if_neg (by omega), znU es t _ (by omega) (by omega), zz8 (by omega) h]
    ·rw [if_neg hl, if_neg hl, zcL (.inl (by omega))]
theorem zuo {h8 : ∀ D ∈ data, D.cons.length ≤ 8} (es : List IT) (t : VT) : rdE data es t 0 ≤ 6 := by
 have h := (zmf h8 es t 0 (by omega) (by omega)).1
 cases hb : (zcu data es t 0).2 with
 | true => have := h.1 hb; omega
 | false => have := h.2 hb; omega
theorem zun (h8 : ∀ D ∈ data, D.cons.length ≤ 8) : ∀ (xs ys : List IT) (t : VT) (a : Int), 0 ≤ a → a ≤ 6 → rdE data (xs ++ ys) t a = (if rdE data xs t a < 0 then -1 else rdE data ys t (rdE data xs t a))
 | [], ys, t, a, h, _ => by
  rw [List.nil_append, if_neg (by simp only [rdE]; omega)]
  simp only [rdE]
 | .mk c ks :: es, ys, t, a, h, h6 => by
  rw [List.cons_append, zec, zec]
  by_cases hc : c < 0 ∨ 8 ≤ c
  ·rw [if_pos hc]; simp [hc]
  ·rw [if_neg hc]
   simp only [if_neg hc]
   cases zbl data t c with
   | none => simp
   | some ps =>
    simp only
    by_cases hl : ps.length = ks.length
    ·simp only [if_pos hl]
     by_cases h0 : rdA data ks ps 0 < 0 ∨ a + 1 + rdA data ks ps 0 > 6
     ·simp only [if_pos h0]; simp
     ·simp only [if_neg h0]
      exact zun h8 es ys t _ (by omega) (by omega)
    ·simp only [if_neg hl]; simp
end Go.Proofs.YtjkkonpjecoieaaGreat
namespace Go.Abs
open Go Go.RowKit
variable {P : Program}
def ztV : Code → Array Oper
 | .region _ ops _ => ops
 | .seq a _ => ztV a
 | _ => #[]
def opS : Op → Bool
 | .move _ => true
 | .fieldAddr _ _ _ => true
 | _ => false
def opT : Op → Bool
 | .move _ => true
 | .assign _ => true
 | .fieldAddr _ _ _ => true
 | .indexAddr _ _ _ => true
 | .load _ _ => true
 | .store _ _ _ => true
 | .buildSlice _ _ _ => true
 | .slice _ _ _ _ none => true
 | .call c => (match c.callee with
  | .builtin .append => true
  | .value (.func _) => true
  | _ => false)
 | _ => false
theorem ACalls.monoZ {H : zaa} {f : FuncId} {args : List AV} {K K' : AV → zaa → Prop} (h : ACalls P f args H K) (hk : ∀ r H', K r H' → K' r H') : ACalls P f args H K' :=
 fun B w G vs hH hv => (h B w G vs hH hv).mono fun _ _ ⟨v, r, H', G', h1, h2, h3, h4, h5⟩ => ⟨v, r, H', G', h1, h2, h3, h4, hk _ _ h5⟩
theorem zdV {x : Option AV} {d : Nat} {K K' : Nat → Prop} (hk : ∀ n, K n → K' n) (h : zbC x d K) : zbC x d K' := by
 unfold zbC at h ⊢
 split at h
 ·exact hk _ h
 ·exact ⟨h.1, hk _ h.2⟩
 ·exact h
theorem zr6 {u esz : Nat} {x : AV} {lo hi : Option AV} {K K' : AV → Prop} (hk : ∀ v, K v → K' v) (h : zaL u esz x lo hi K) : zaL u esz x lo hi K' := by
 unfold zaL at h ⊢
 split at h
 ·exact zdV (fun _ => zdV fun _ h => ⟨h.1, hk _ h.2⟩) h
 ·exact zdV (fun _ => zdV fun _ h => ⟨h.1, hk _ h.2⟩) h
 ·exact zdV (fun _ => zdV fun _ h => ⟨h.1, hk _ h.2⟩) h
 ·exact zdV (fun _ => zdV fun _ h => ⟨h.1, hk _ h.2⟩) h
 ·exact h
theorem zmk {o : Oper} {F : List AV} {H : zaa} {K K' : AV → zaa → Prop} (hT : opT o.op = true) (hk : ∀ v H', K v H' → K' v H') (h : aop P o F H K) : aop P o F H K' := by
 obtain ⟨dst, op, type, pos, after, guard⟩ := o
 cases op <;> simp only [opT] at hT <;> first | exact absurd hT (by decide) | skip
 case move x => exact hk _ _ h
 case assign x => exact hk _ _ h
 case fieldAddr s x i =>
  simp only [aop, isM, zbR] at h ⊢
  split at h
  ·split at h
   ·unfold zaf at h ⊢
    split at h
    ·exact hk _ _ h
    ·exact h
   ·exact h
  ·exact h
 case slice t x lo hi m =>
  cases m with
  | some m => exact absurd hT (by simp)
  | none =>
   simp only [aop, isM, zbR] at h ⊢
   split at h
   ·exact zr6 (fun v => hk v _) h
   ·split at h
    ·exact zr6 (fun v => hk v _) h
    ·exact h
   ·exact h
 case indexAddr t x i =>
  simp only [aop, isM, zbR] at h ⊢
  split at h
  ·unfold zaj at h ⊢
   split at h
   ·exact hk _ _ h
   ·exact h
  ·exact h
 case load t a =>
  simp only [aop, isM, zbR] at h ⊢
  split at h
  ·unfold zad at h ⊢
   split at h
   ·unfold zbc at h ⊢
    split at h
    ·exact ⟨h.1, hk _ _ h.2⟩
    ·split at h
     ·exact hk _ _ h
     ·exact h
   ·exact h
  ·exact h
 case store t a x =>
  simp only [aop, isM, zbR] at h ⊢
  split at h
  ·unfold zak at h ⊢
   split at h
   ·exact hk _ _ h
   ·exact h
  ·exact h
 case buildSlice t n ps =>
  simp only [aop, isM, zbR] at h ⊢
  split at h
  ·split at h
   ·unfold zaz at h ⊢
    split at h
    ·split at h
     ·exact hk _ _ h
     ·exact h
    ·exact h
   ·exact h
  ·exact h
 case call c =>
  obtain ⟨callee, args, ats⟩ := c
  simp only [aop, isM, zbR] at h ⊢
  cases callee with
  | invoke _ _ => exact absurd hT (by simp)
  | value f =>
   cases f with
   | func g =>
    simp only [ev, aCallV] at h ⊢
    split at h
    ·exact ACalls.monoZ h hk
    ·exact h
   | _ => exact absurd hT (by simp)
  | builtin b =>
   cases b <;> (try (simp at hT; done))
   case append =>
    simp only [zdW] at h ⊢
    split at h
    ·split at h
     ·split at h
      ·exact zrY hk h
      ·exact h
     ·exact h
    ·exact h
theorem sil {o : Oper} {F : List AV} {H : zaa} {K : AV → zaa → Prop} (hS : opS o.op = true) (h : aop P o F H K) :
  ∃ v, K v H ∧ ∀ (F' : List AV) (H' : zaa) (K' : AV → zaa → Prop), (∀ x ∈ o.op.operands, ev F x = ev F' x) → K' v H' → aop P o F' H' K' := by
 have hc := fun (F' : List AV) (H' : zaa) (K' : AV → zaa → Prop) (hx : ∀ x ∈ o.op.operands, ev F x = ev F' x) => (zmj (P := P) (H := H') (K := K') hx)
 obtain ⟨dst, op, type, pos, after, guard⟩ := o
 cases op <;> simp only [opS] at hS <;> first | exact absurd hS (by decide) | skip
 case move x =>
  refine ⟨ev F x, h, fun F' H' K' hx hk => ?_⟩
  rw [← hc F' H' K' hx]
  exact hk
 case fieldAddr s x i =>
  simp only [aop, isM, zbR] at h
  split at h
  ·rename_i f hf
   split at h
   ·rename_i n hn
    unfold zaf at h
    split at h
    ·rename_i v hv
     refine ⟨v, h, fun F' H' K' hx hk => ?_⟩
     rw [← hc F' H' K' hx]
     simp only [aop, isM, zbR, hf, hn, zaf, hv]
     exact hk
    ·exact h.elim
   ·exact h.elim
  ·exact h.elim
def zoc (ops : Array Oper) (i : Nat) : Bool := match ops[i]? with
 | some o => opS o.op
 | none => false
def zfA (P : Program) (ops : Array Oper) (K : List AV → zaa → Prop) : Nat → Array Bool → List AV → zaa → Prop
 | 0, listed, F, H => (match Region.ready .any ops listed with
  | [] => K F H
  | _ => False)
 | n + 1, listed, F, H => (match Region.ready .any ops listed with
  | [] => K F H
  | i :: is => (match (i :: is).find? (zoc ops) with
   | some j => (match ops[j]? with
    | some o => aop P o F H fun v H' => zfA P ops K n (listed.setIfInBounds j true) (zba F o.dst v) H'
    | none => False)
   | none => zf4 (i :: is) fun i => (match ops[i]? with
    | some o => aop P o F H fun v H' => zfA P ops K n (listed.setIfInBounds i true) (zba F o.dst v) H'
    | none => False)))
theorem zhD {α : Type} {p : α → Prop} : ∀ {l : List α}, (∀ i ∈ l, p i) → zf4 l p
 | [], _ => trivial
 | [i], h => h i (by simp)
 | i :: j :: l, h => ⟨h i (by simp), zhD fun k hk => h k (by simp [List.mem_cons.1 hk])⟩
theorem znX {ops : Array Oper} {listed : Array Bool} {i j : Nat} (hj : j ∈ Region.ready .any ops listed) (hne : j ≠ i) : j ∈ Region.ready .any ops (listed.setIfInBounds i true) := by
 obtain ⟨h1, o, ho, he⟩ := mem_ready.1 hj
 refine mem_ready.2 ⟨?_, o, ho, fun e hem hb => ?_⟩
 ·have : (listed.setIfInBounds i true)[j]? = listed[j]? := by rw [Array.getElem?_setIfInBounds]; rw [if_neg (fun h => hne h.symm)]
  rw [Array.getD_eq_getD_getElem?] at h1 ⊢
  rw [this]
  exact h1
 ·have h2 := he e hem hb
  rw [Array.getD_eq_getD_getElem?] at h2 ⊢
  rw [Array.getElem?_setIfInBounds]
  split
  ·rename_i h
   have hl : e.on < listed.size := by
    by_cases hl : e.on < listed.size
    ·exact hl
    ·rw [Array.getElem?_eq_none (by omega)] at h2
     cases h2
   subst h
   simp [hl]
  ·exact h2
theorem ztQ {ops : Array Oper} {listed : Array Bool} {i j : Nat} {o : Oper} (hi : i ∈ Region.ready .any ops listed) (hj : j ∈ Region.ready .any ops listed) (ho : ops[i]? = some o) : ¬ ∃ e ∈ o.after, Region.binds .any e = true ∧ e.on = j := by
 rintro ⟨e, he, hb, rfl⟩
 obtain ⟨_, o', ho', h1⟩ := mem_ready.1 hi
 obtain ⟨h2, _⟩ := mem_ready.1 hj
 rw [ho] at ho'
 obtain rfl := Option.some.inj ho'
 have h3 := h1 e he hb
 rw [Array.getD_eq_getD_getElem?] at h2 h3
 cases hx : listed[e.on]? with
 | none => rw [hx] at h3; cases h3
 | some b => rw [hx] at h2 h3; simp at h2 h3; rw [h2] at h3; cases h3
theorem zsV {ops : Array Oper} {listed : Array Bool} {i j : Nat} {oi oj : Oper} (hO : Ord ops) (hi : i ∈ Region.ready .any ops listed) (hj : j ∈ Region.ready .any ops listed) (hne : i ≠ j) (hoi : ops[i]? = some oi) (hoj : ops[j]? = some oj) (F : List AV) (v : AV) :
  ∀ x ∈ oi.op.operands, ev F x = ev (zba F oj.dst v) x := by
 intro x hx
 cases x with
 | tmp t =>
  cases hd : oj.dst with
  | none => rfl
  | some d =>
   by_cases htd : t = d
   ·exfalso
    subst htd
    have hr : t ∈ zdh ops oi := by
     simp only [zdh, List.mem_append, List.mem_filterMap]
     exact .inl ⟨.tmp t, by simpa using hx, rfl⟩
    by_cases hlt : j < i
    ·exact ztQ hi hj hoi (hO.before i j oi oj t hoi hoj hlt hd hr)
    ·exact ztQ hj hi hoj (hO.behind i j oi oj t hoi hoj (by omega) hd hr)
   ·simp only [ev, zba, List.getD_eq_getElem?_getD, List.getElem?_set]
    rw [if_neg (fun h => htd h.symm)]
 | _ => rfl
theorem zBY {ops : Array Oper} {i j : Nat} {oi oj : Oper} (hO : Ord ops) (hne : i ≠ j) (hoi : ops[i]? = some oi) (hoj : ops[j]? = some oj) (F : List AV) (v u : AV) : zba (zba F oi.dst v) oj.dst u = zba (zba F oj.dst u) oi.dst v := by
 cases h1 : oi.dst with
 | none => rfl
 | some d =>
  cases h2 : oj.dst with
  | none => rfl
  | some e =>
   have hde : d ≠ e := fun h => hO.dst i j oi oj e hoi hoj hne h2 (by rw [h1, h])
   exact List.set_comm _ _ hde
theorem zCe {ops : Array Oper} {K : List AV → zaa → Prop} (hO : Ord ops) (hN : ∀ (i : Nat) o, ops[i]? = some o → o.guard = none) (hT : ∀ (i : Nat) o, ops[i]? = some o → opT o.op = true) :
  ∀ (n : Nat) (listed : Array Bool) (F : List AV) (H : zaa) (i : Nat) (o : Oper), i ∈ Region.ready .any ops listed → ops[i]? = some o → opS o.op = true →
   aop P o F H (fun v H' => runT P ops K n (listed.setIfInBounds i true) (zba F o.dst v) H') → runT P ops K (n + 1) listed F H := by
 intro n
 induction n with
 | zero =>
  intro listed F H i o hi ho hS h
  obtain ⟨v, hv, _⟩ := sil hS h
  have key : ∀ j ∈ Region.ready .any ops listed, j = i := fun j hj => by
   by_cases hne : j = i
   ·exact hne
   ·exfalso
    have hr := znX hj hne
    unfold runT at hv
    split at hv
    ·rename_i hnil; rw [hnil] at hr; cases hr
    ·exact hv
  unfold runT
  split
  ·rename_i hnil; rw [hnil] at hi; cases hi
  ·rename_i i0 is hr
   refine zhD fun j hj => ?_
   obtain rfl := key j (by rw [hr]; exact hj)
   simp only [ho, hN _ _ ho]
   exact h
 | succ n ih =>
  intro listed F H i o hi ho hS h
  obtain ⟨v, hv, hsil⟩ := sil hS h
  unfold runT
  split
  ·rename_i hnil; rw [hnil] at hi; cases hi
  ·rename_i i0 is hr
   refine zhD fun j hj => ?_
   have hj : j ∈ Region.ready .any ops listed := by rw [hr]; exact hj
   by_cases hne : j = i
   ·subst hne
    simp only [ho, hN _ _ ho]
    exact h
   ·obtain ⟨_, oj, hoj, _⟩ := mem_ready.1 hj
    simp only [hoj, hN _ _ hoj]
    have hr2 := znX hj hne
    unfold runT at hv
    split at hv
    ·rename_i hnil; rw [hnil] at hr2; cases hr2
    ·rename_i k0 ks hk
     have h1 := zhC hv j (by rw [← hk]; exact hr2)
     simp only [hoj, hN _ _ hoj] at h1
     rw [← zmj (zsV hO hj hi hne hoj ho F v)] at h1
     refine zmk (hT _ _ hoj) (fun u H' h2 => ?_) h1
     refine ih _ _ _ i o (znX hi (fun h => hne h.symm)) ho hS ?_
     refine hsil _ _ _ (zsV hO hi hj (fun h => hne h.symm) ho hoj F u) ?_
     rw [zBY hO (fun h => hne h.symm) ho hoj F v u] at h2
     have e2 : (listed.setIfInBounds i true).setIfInBounds j true = (listed.setIfInBounds j true).setIfInBounds i true := Array.setIfInBounds_comm _ _ (fun h => hne h.symm)
     rw [e2] at h2
     exact h2
theorem zCc {ops : Array Oper} {K : List AV → zaa → Prop} (hO : Ord ops) (hN : ∀ (i : Nat) o, ops[i]? = some o → o.guard = none) (hT : ∀ (i : Nat) o, ops[i]? = some o → opT o.op = true) :
  ∀ (n : Nat) (listed : Array Bool) (F : List AV) (H : zaa), zfA P ops K n listed F H → runT P ops K n listed F H := by
 intro n
 induction n with
 | zero => intro listed F H h; exact h
 | succ n ih =>
  intro listed F H h
  unfold zfA at h
  split at h
  ·rename_i hr
   unfold runT
   split
   ·exact h
   ·rename_i hr2; rw [hr] at hr2; cases hr2
  ·rename_i i0 is hr
   split at h
   ·rename_i j hj
    have hjm : j ∈ Region.ready .any ops listed := by rw [hr]; exact List.mem_of_find?_eq_some hj
    have hjs : zoc ops j = true := List.find?_some hj
    split at h
    ·rename_i o ho
     unfold zoc at hjs
     rw [ho] at hjs
     exact zCe hO hN hT n listed F H j o hjm ho hjs (zmk (hT _ _ ho) (fun v H' h => ih _ _ _ h) h)
    ·exact h.elim
   ·unfold runT
    split
    ·rename_i hr2; rw [hr] at hr2; cases hr2
    ·rename_i k0 ks hr2
     rw [hr] at hr2
     obtain ⟨rfl, rfl⟩ := List.cons.inj hr2
     refine zhD fun j hj => ?_
     have h1 := zhC h j hj
     split at h1
     ·rename_i o ho
      simp only [ho, hN _ _ ho]
      exact zmk (hT _ _ ho) (fun v H' h => ih _ _ _ h) h1
     ·exact h1.elim
def okS (ops : Array Oper) : Bool := zds ops && ops.toList.all fun o => o.guard.isNone && opT o.op
theorem zCd {ops : Array Oper} {K : List AV → zaa → Prop} (h : okS ops = true) {n : Nat} {listed : Array Bool} {F : List AV} {H : zaa} (hs : zfA P ops K n listed F H) : runT P ops K n listed F H := by
 unfold okS at h
 rw [Bool.and_eq_true, List.all_eq_true] at h
 have mem : ∀ (i : Nat) o, ops[i]? = some o → o ∈ ops.toList := fun i o ho => List.mem_iff_getElem?.2 ⟨i, by simpa using ho⟩
 have h2 : ∀ (i : Nat) o, ops[i]? = some o → o.guard.isNone = true ∧ opT o.op = true := fun i o ho => by
  have := h.2 o (mem i o ho)
  simpa using this
 exact zCc (ziJ h.1) (fun i o ho => by simpa using (h2 i o ho).1) (fun i o ho => (h2 i o ho).2) n listed F H hs
end Go.Abs
namespace Go.Proofs.YtjkkonpjecoieaaGreat
open Go Go.Abs
set_option maxRecDepth 100000
def zcV : Nat → List Bool
 | 13 => rl false [0,1,1,1,4,1,2,1,1,2,1,1,49,3,85]
 | 20 => rl false [7,1,5,1,1,1,2,1,83,3,48]
 | 27 => rl false [18,1,112,3,19]
 | 30 => rl false [18,1,3,1,108,3,4,2,13]
 | _ => []
noncomputable def zeX : Code := Tryz.f17.body.getD .skip
noncomputable def zps : List ResultVar := Tryz.f17.results.toList
def zjZ (t0 t2 t7 t10 t12 t13 t15 t65 t66 t67 : AV) : List AV := t0 :: ux 1 (t2 :: ux 4 (t7 :: ux 2 (t10 :: ux 1 (t12 :: t13 :: ux 1 (t15 :: ux 49 (t65 :: t66 :: t67 :: ux 85 []))))))
def zG0 : List Bool := zcV 13
noncomputable def zGT : Code := zas [1, 1, 1, 1, 1, 1, 1, 1, 0, 1, 0, 0] zeX
def zGQ (K : Kt) : AExit → List AV → zaa → Prop := zat tP zcV [1, 1, 1, 1, 1, 1, 1, 1, 0, 1, 0] zeX (zaA tP zps K)
def zj2 (t0 t2 t7 t10 t12 t13 t15 t65 t66 t67 : AV) (H : zaa) (K : Kt) : Prop := ALoop tP zGT (zGQ K) (zjZ t0 t2 t7 t10 t12 t13 t15 t65 t66 t67) H
def zj0 (t7 t13 t15 t18 t102 t103 t104 : AV) : List AV := ux 7 (t7 :: ux 5 (t13 :: ux 1 (t15 :: ux 2 (t18 :: ux 83 (t102 :: t103 :: t104 :: ux 48 [])))))
def zG1 : List Bool := zcV 20
noncomputable def zGU : Code := zas [1, 1, 1, 1, 1, 1, 1, 1, 1, 1, 0, 1, 0, 0, 1, 0, 0] zeX
def zGR (K : Kt) : AExit → List AV → zaa → Prop := zat tP zcV [1, 1, 1, 1, 1, 1, 1, 1, 1, 1, 0, 1, 0, 0, 1, 0] zeX (zaA tP zps K)
def zwR (t7 t13 t15 t18 t102 t103 t104 : AV) (H : zaa) (K : Kt) : Prop := ALoop tP zGU (zGR K) (zj0 t7 t13 t15 t18 t102 t103 t104) H
def zhi (t18 t131 t132 t133 : AV) : List AV := ux 18 (t18 :: ux 112 (t131 :: t132 :: t133 :: ux 19 []))
def zwU : List Bool := zcV 27
noncomputable def zpr : Code := zas [1, 1, 1, 1, 1, 1, 1, 1, 1, 1, 1, 1, 0, 1, 0, 0] zeX
def zwQ (K : Kt) : AExit → List AV → zaa → Prop := zat tP zcV [1, 1, 1, 1, 1, 1, 1, 1, 1, 1, 1, 1, 0, 1, 0] zeX (zaA tP zps K)
def zwS (t18 t131 t132 t133 : AV) (H : zaa) (K : Kt) : Prop := ALoop tP zpr (zwQ K) (zhi t18 t131 t132 t133) H
def zj1 (t18 t22 t131 t132 t133 t138 t139 : AV) : List AV := ux 18 (t18 :: ux 3 (t22 :: ux 108 (t131 :: t132 :: t133 :: ux 4 (t138 :: t139 :: ux 13 []))))
def zG2 : List Bool := zcV 30
noncomputable def zGV : Code := zas [1, 1, 0, 0, 1, 1, 0, 0] zpr
def zGS (K : Kt) (Kb27 : Lt) : AExit → List AV → zaa → Prop := zat tP zcV [1, 1, 0, 0, 1, 1, 0] zpr (zbz zwU Kb27 (zwQ K))
def zwT (t18 t22 t131 t132 t133 t138 t139 : AV) (H : zaa) (K : Kt) (Kb27 : Lt) : Prop := ALoop tP zGV (zGS K Kb27) (zj1 t18 t22 t131 t132 t133 t138 t139) H
def zpq (t18 t22 t131 t132 t133 t138 t139 : AV) (H : zaa) (K : Kt) (Kb27 : Lt) (Kb30 : Lt) : Prop :=
 zac .lss false t139 t138 fun t140 =>
 zag t140
 (zaj 2 t22 t139 fun t146 =>
 zad true 2 t146 H fun t147 =>
 ACalls tP ziq [t147] H fun t148 H =>
 zaj 2 t22 t139 fun t149 =>
 zak 2 t149 t148 H fun H =>
 zac .add false t139 (.int .i64 1) fun t150 =>
 Kb30 (zj1 t18 t22 t131 t132 t133 t138 t150) H)
 (zac .add false t133 (.int .i64 1) fun t151 =>
 Kb27 (zhi t18 t131 t132 t151) H)
def zpp (t18 t131 t132 t133 : AV) (H : zaa) (K : Kt) (Kb27 : Lt) : Prop :=
 zac .lss false t133 t132 fun t134 =>
 zag t134
 (zaj 1 t131 t133 fun t135 =>
 zad false 1 t135 H fun t136 =>
 zah 1 t136 fun t138 =>
 zwT t18 t136 t131 t132 t133 t138 (.int .i64 0) H K Kb27)
 (zaD [t18, (.int .i64 0)] (K · H))
def zhj (t18 : AV) (H : zaa) (K : Kt) : Prop :=
 ACalls tP zBw [t18, (.fn znC [])] H fun t130 H =>
 zah 1 t18 fun t132 =>
 zwS t18 t18 t132 (.int .i64 0) H K
def zpo (t7 t13 t15 t18 t102 t103 t104 : AV) (H : zaa) (K : Kt) (Kb20 : Lt) : Prop :=
 zac .lss false t104 t103 fun t105 =>
 zag t105
 (zaj 1 t102 t104 fun t107 =>
 zad false 1 t107 H fun t108 =>
 zaf 1 t7 fun t111 =>
 zad false 1 t111 H fun t112 =>
 zaj 2 t112 (.int .i64 0) fun t113 =>
 zaf 1 t113 fun t114 =>
 zad false 1 t114 H fun t115 =>
 zaj 2 t115 t104 fun t117 =>
 zad true 2 t117 H fun t118 =>
 zaj 2 t15 t108 fun t119 =>
 zak 2 t119 t118 H fun H =>
 zac .add false t104 (.int .i64 1) fun t120 =>
 Kb20 (zj0 t7 t13 t15 t18 t102 t103 t120) H)
 (zaf 1 t7 fun t124 =>
 zad false 1 t124 H fun t125 =>
 zaL 1 2 t125 (some (.int .i64 1)) none fun t126 =>
 ACalls tP zeJ [t15, t13, t126] H fun t127 H =>
 zaw zbK 1 24 t18 t127 H fun t128 H =>
 zhj t128 H K)
def zpn (t0 t2 t7 t10 t12 t13 t15 t65 t66 t67 : AV) (H : zaa) (K : Kt) (Kb13 : Lt) : Prop :=
 zac .lss false t67 t66 fun t68 =>
 zag t68
 (zaj 1 t65 t67 fun t69 =>
 zad false 1 t69 H fun t70 =>
 zaj 3 t10 t70 fun t77 =>
 zad true 3 t77 H fun t78 =>
 ACalls tP znv [t0, t78] H fun t79 H =>
 zay t79 0 fun t80 =>
 zay t79 1 fun t81 =>
 zaj 2 t15 t70 fun t82 =>
 zak 2 t82 t80 H fun H =>
 zac .add false t67 (.int .i64 1) fun t83 =>
 Kb13 (zjZ t0 t2 t7 t10 t12 t13 t15 t65 t66 t83) H)
 (zaf 1 t7 fun t86 =>
 zad false 1 t86 H fun t87 =>
 ACalls tP zeJ [t15, t13, t87] H fun t88 H =>
 zaf 1 t7 fun t89 =>
 zad false 1 t89 H fun t90 =>
 zah 1 t90 fun t91 =>
 zac .gtr false t91 (.int .i64 0) fun t92 =>
 zab t92 true H (fun K' => zaf 1 t7 (K' · H)) fun t94 H =>
 zab t92 true H (fun K' => zad false 1 t94 H (K' · H)) fun t95 H =>
 zab t92 true H (fun K' => zaj 2 t95 (.int .i64 0) (K' · H)) fun t96 H =>
 zab t92 true H (fun K' => zaf 0 t96 (K' · H)) fun t97 H =>
 zab t92 true H (fun K' => zad false 1 t97 H (K' · H)) fun t98 H =>
 zab t92 true H (fun K' => K' t2 H) fun t99 H =>
 zab t92 true H (fun K' => zac .eql false t98 t99 (K' · H)) fun t100 H =>
 zai t92 t100 (.bool false) fun t101 =>
 zag t101
 (zah 1 t12 fun t103 =>
 zwR t7 t13 t15 t88 t12 t103 (.int .i64 0) H K)
 (zhj t88 H K))
def zwq (t0 t1 t2 t3 : AV) (H : zaa) (K : Kt) : Prop :=
 zao t1 H fun t5 H =>
 zao t3 H fun t7 H =>
 zad true 3 t5 H fun t25 =>
 zad true 2 t7 H fun t26 =>
 ACalls tP zin [t0, t25, t26] H fun t27 H =>
 aUn .not t27 fun t28 =>
 zag t28
 (zaD [.snil, (.int .i64 1)] (K · H))
 (zaf 0 t5 fun t29 =>
 zad false 1 t29 H fun t30 =>
 zac .neq false t30 (.int .i64 5) fun t31 =>
 zag t31
 (zaD [.snil, (.int .i64 6)] (K · H))
 (zac .lss false t2 (.int .i64 0) fun t33 =>
 zab t33 false H (fun K' => K' t2 H) fun t35 H =>
 zab t33 false H (fun K' => K' t0 H) fun t36 H =>
 zab t33 false H (fun K' => zaf 1 t5 (K' · H)) fun t37 H =>
 zab t33 false H (fun K' => zad false 1 t37 H (K' · H)) fun t38 H =>
 zab t33 false H (fun K' => zaj 3 t36 t38 (K' · H)) fun t39 H =>
 zab t33 false H (fun K' => zaf 2 t39 (K' · H)) fun t40 H =>
 zab t33 false H (fun K' => zad false 1 t40 H (K' · H)) fun t41 H =>
 zab t33 false H (fun K' => zah 1 t41 (K' · H)) fun t42 H =>
 zab t33 false H (fun K' => zac .geq false t35 t42 (K' · H)) fun t43 H =>
 zai t33 (.bool true) t43 fun t44 =>
 zag t44
 (zaD [.snil, (.int .i64 8)] (K · H))
 (zad true 3 t5 H fun t47 =>
 ACalls tP zeb [t0, t47, t2] H fun t49 H =>
 zay t49 0 fun t50 =>
 zay t49 1 fun t51 =>
 aUn .not t51 fun t53 =>
 zag t53
 (zaD [.snil, (.int .i64 0)] (K · H))
 (zad true 3 t5 H fun t56 =>
 ACalls tP znB [t0, t56, t2] H fun t58 H =>
 zay t58 0 fun t59 =>
 zay t58 1 fun t60 =>
 zay t58 2 fun t61 =>
 zah 1 t50 fun t63 =>
 zbp 32 [(.int .i64 0), .snil] t63 t63 H fun t64 H =>
 zah 1 t59 fun t66 =>
 zj2 t0 t2 t7 t50 t59 t60 t64 t59 t66 (.int .i64 0) H K))))
theorem zGZ {t18 t22 t131 t132 t133 t138 t139 : AV} {H : zaa} {K : Kt} {Kb27 : Lt} (Inv : Nat → AV → zaa → Prop) (n : Nat) (h0 : HSc H → Inv n t139 H)
  (round : Rd1 (fun t139 => zj1 t18 t22 t131 t132 t133 t138 t139) (fun t139 => fun H Kb30 => zpq t18 t22 t131 t132 t133 t138 t139 H K Kb27 Kb30) H Inv) : zwT t18 t22 t131 t132 t133 t138 t139 H K Kb27 :=
 lp1 (M := zcV) zG2 t139 (by kernel_rfl) Inv n h0 round
theorem zGY {t18 t131 t132 t133 : AV} {H : zaa} {K : Kt} (Inv : Nat → AV → zaa → Prop) (n : Nat) (h0 : HSc H → Inv n t133 H)
  (round : Rd1 (fun t133 => zhi t18 t131 t132 t133) (fun t133 => fun H Kb27 => zpp t18 t131 t132 t133 H K Kb27) H Inv) : zwS t18 t131 t132 t133 H K :=
 lp1 (M := zcV) zwU t133 (by kernel_rfl) Inv n h0 round
theorem zGX {t7 t13 t15 t18 t102 t103 t104 : AV} {H : zaa} {K : Kt} (Inv : Nat → AV → zaa → Prop) (n : Nat) (h0 : HSc H → Inv n t104 H)
  (round : Rd1 (fun t104 => zj0 t7 t13 t15 t18 t102 t103 t104) (fun t104 => fun H Kb20 => zpo t7 t13 t15 t18 t102 t103 t104 H K Kb20) H Inv) : zwR t7 t13 t15 t18 t102 t103 t104 H K :=
 lp1 (M := zcV) zG1 t104 (by kernel_rfl) Inv n h0 round
theorem zGW {t0 t2 t7 t10 t12 t13 t15 t65 t66 t67 : AV} {H : zaa} {K : Kt} (Inv : Nat → AV → zaa → Prop) (n : Nat) (h0 : HSc H → Inv n t67 H)
  (round : Rd1 (fun t67 => zjZ t0 t2 t7 t10 t12 t13 t15 t65 t66 t67) (fun t67 => fun H Kb13 => zpn t0 t2 t7 t10 t12 t13 t15 t65 t66 t67 H K Kb13) H Inv) : zj2 t0 t2 t7 t10 t12 t13 t15 t65 t66 t67 H K :=
 lp1 (M := zcV) zG0 t67 (by kernel_rfl) Inv n h0 round
theorem zG3 {t0 t1 t2 t3 : AV} {H : zaa} {K : Kt} (h : HSc H → zwq t0 t1 t2 t3 H K) : ACalls tP zgC [t0, t1, t2, t3] H K :=
 zam (M := zcV) Tryz.func17 (c := zeX) (by kernel_rfl) (fun hs => Eq.mpr (by kernel_rfl) (h hs))
def ze5 : Nat → List Bool
 | 300004 => rl false [0,1]
 | 7 => rl false [0,3,4,1,13,2,24]
 | 200011 => rl false [0,14]
 | 100012 => rl false [0,3,4,1,13,2,24]
 | _ => []
noncomputable def zqV : Code := Tryz.f47.body.getD .skip
noncomputable def zMk : List ResultVar := Tryz.f47.results.toList
def zlj (t0 t1 t2 t7 t21 t22 : AV) : List AV := t0 :: t1 :: t2 :: ux 4 (t7 :: ux 13 (t21 :: t22 :: ux 24 []))
def zyV : List Bool := ze5 7
noncomputable def zli : Code := zas [1, 1, 1, 0, 1, 0, 0] zqV
def zyS (K : Kt) : AExit → List AV → zaa → Prop := zat tP ze5 [1, 1, 1, 0, 1, 0] zqV (zaA tP zMk K)
def zlk (t0 t1 t2 t7 t21 t22 : AV) (H : zaa) (K : Kt) : Prop := ALoop tP zli (zyS K) (zlj t0 t1 t2 t7 t21 t22) H
noncomputable def zyU : Code := zas [1, 1, 1] zli
def zyT (K : Kt) (Kb7 : Lt) : AExit → List AV → zaa → Prop := zat tP ze5 [1, 1, 1] zli (zbz zyV Kb7 (zyS K))
def zMh (t0 t1 t2 t7 t21 t22 : AV) (H : zaa) (K : Kt) (Kb7 : Lt) : Prop := AWp tP zyU (zyT K Kb7) (t0 :: t1 :: t2 :: ux 4 (t7 :: ux 13 (t21 :: t22 :: ux 24 []))) H
def zqW (t0 t1 t2 t7 t21 t22 : AV) (H : zaa) (K : Kt) (Kb7 : Lt) : Prop :=
 zac .add false t22 (.int .i64 1) fun t45 =>
 Kb7 (zlj t0 t1 t2 t7 t21 t45) H
noncomputable def zqX : Array Oper := ztV (zas [1, 1, 0, 0, 1, 1, 1] zli)
def zqU (t0 t1 t2 t7 t21 t22 : AV) (H : zaa) (K : Kt) (Kb7 : Lt) : Prop :=
 zac .lss false t22 t21 fun t23 =>
 zag t23
 (ACalls tP ziC [t0] H fun t26 H =>
 zae H (fun K' => K' t26 H) fun t27 =>
 zae H (fun K' => K' t1 H) fun t28 =>
 zae H (fun K' => zaj 1 t28 (.int .i64 0) (K' · H)) fun t29 =>
 zae H (fun K' => zal false 1 t29 H (K' · H)) fun t30 =>
 zae H (fun K' => K' t2 H) fun t31 =>
 zae H (fun K' => K' t22 H) fun t32 =>
 zae H (fun K' => zaL 1 2 t31 none (some t32) (K' · H)) fun t33 =>
 zae H (fun K' => zax [(.int .i64 0), .snil] [(0, 1), (1, 1)] [(1, t33)] (K' · H)) fun t34 =>
 zae H (fun K' => zaj 2 t27 t30 (K' · H)) fun t35 =>
 zak 2 t35 t34 H fun H =>
 Go.Abs.runT tP zqX (fun F H => AWp tP zyU (zyT K Kb7) (zd9 (ze5 100012) F) H) 10 (zei 0 10) (t0 :: t1 :: t2 :: ux 4 (t7 :: t22 :: t26 :: ux 11 (t21 :: t22 :: t23 :: t22 :: t0 :: t26 :: t27 :: t28 :: t29 :: t30 :: t31 :: t32 :: t33 :: t34 :: t35 :: ux 11 []))) H)
 (K t7 H)
def zlh (t0 t1 t2 : AV) (H : zaa) (K : Kt) : Prop :=
 zah 1 t1 fun t11 =>
 zac .eql false t11 (.int .i64 0) fun t12 =>
 zag t12
 (zah 1 t2 fun t14 =>
 zac .gtr false t14 (.int .i64 0) fun t15 =>
 zag t15
 (K .snil H)
 (ACalls tP ziC [t0] H fun t17 H =>
 ze9 zbK 1 1 [(0, t17)] H fun t18 H =>
 K t18 H))
 (zah 1 t2 fun t20 =>
 zac .add false t20 (.int .i64 1) fun t21 =>
 zlk t0 t1 t2 .snil t21 (.int .i64 0) H K)
theorem zMi {t0 t1 t2 t7 t21 t22 : AV} {H : zaa} {K : Kt} {Kb7 : Lt} (h : HSc H → zqW t0 t1 t2 t7 t21 t22 H K Kb7) : zMh t0 t1 t2 t7 t21 t22 H K Kb7 :=
 fun B w G a hH hF hd => zet (M := ze5) _ _ _ _ (Eq.mpr (by kernel_rfl) (h hH.sc)) B w G a hH hF hd
theorem zMl (t0 t1 t2 t7 t22 t26 t21 t23 t27 t28 t29 t30 t31 t32 t33 t34 t35 : AV) (H : zaa) (KF : List AV → zaa → Prop) : zfA tP zqX KF 10 (zei 0 10) (t0 :: t1 :: t2 :: ux 4 (t7 :: t22 :: t26 :: ux 11 (t21 :: t22 :: t23 :: t22 :: t0 :: t26 :: t27 :: t28 :: t29 :: t30 :: t31 :: t32 :: t33 :: t34 :: t35 :: ux 11 []))) H = (
 (zaL 1 1 t1 (some (.int .i64 1)) none fun t39 =>
 zaL 1 2 t2 (some t22) none fun t42 =>
 ACalls tP zeJ [t26, t39, t42] H fun t43 H =>
 zaw zbK 1 24 t7 t43 H fun t44 H =>
 KF (t0 :: t1 :: t2 :: ux 4 (t44 :: t22 :: t26 :: ux 11 (t21 :: t22 :: t23 :: t22 :: t0 :: t26 :: t27 :: t28 :: t29 :: t30 :: t31 :: t32 :: t33 :: t34 :: t35 :: t7 :: t26 :: t1 :: t39 :: t2 :: t22 :: t42 :: t43 :: t44 :: ux 2 []))) H) ∧ (zaL 1 2 t2 (some t22) none fun t42 =>
 zaL 1 1 t1 (some (.int .i64 1)) none fun t39 =>
 ACalls tP zeJ [t26, t39, t42] H fun t43 H =>
 zaw zbK 1 24 t7 t43 H fun t44 H =>
 KF (t0 :: t1 :: t2 :: ux 4 (t44 :: t22 :: t26 :: ux 11 (t21 :: t22 :: t23 :: t22 :: t0 :: t26 :: t27 :: t28 :: t29 :: t30 :: t31 :: t32 :: t33 :: t34 :: t35 :: t7 :: t26 :: t1 :: t39 :: t2 :: t22 :: t42 :: t43 :: t44 :: ux 2 []))) H)) := by kernel_rfl
theorem zMm : okS zqX = true := by kernel_rfl
theorem zMj {t0 t1 t2 t7 t21 t22 : AV} {H : zaa} {K : Kt} (Inv : Nat → AV → AV → zaa → Prop) (n : Nat) (h0 : HSc H → Inv n t7 t22 H)
  (round : Rd2 (fun t7 => fun t22 => zlj t0 t1 t2 t7 t21 t22) (fun t7 => fun t22 => fun H Kb7 => zqU t0 t1 t2 t7 t21 t22 H K Kb7) H Inv) : zlk t0 t1 t2 t7 t21 t22 H K :=
 lp2 (M := ze5) zyV t7 t22 (by kernel_rfl) Inv n h0 round
theorem zyW {t0 t1 t2 : AV} {H : zaa} {K : Kt} (h : HSc H → zlh t0 t1 t2 H K) : ACalls tP zeJ [t0, t1, t2] H K :=
 zam (M := ze5) Tryz.func47 (c := zqV) (by kernel_rfl) (fun hs => Eq.mpr (by kernel_rfl) (h hs))
def zOU : Nat → List Bool
 | 300001 => rl false [0,1]
 | _ => []
noncomputable def zOV : Code := Tryz.f92.body.getD .skip
def zl0 (t0 : AV) (H : zaa) (K : Kt) : Prop :=
 zfd true .eql t0 fun t4 =>
 zag t4
 (K .snil H)
 (zaz 2 [(.int .i64 0), .snil] 0 [] fun t5 =>
 zaw zbL 2 32 t5 t0 H fun t7 H =>
 K t7 H)
theorem zOW {t0 : AV} {H : zaa} {K : Kt} (h : HSc H → zl0 t0 H K) : ACalls tP ziC [t0] H K :=
 zam (M := zOU) Tryz.func92 (c := zOV) (by kernel_rfl) (fun hs => Eq.mpr (by kernel_rfl) (h hs))
end Go.Proofs.YtjkkonpjecoieaaGreat
namespace Go.Proofs.YtjkkonpjecoieaaGreat
open Go Go.Abs
set_option maxRecDepth 8000
def RowA (H : zaa) (a : AV) (n : Nat) (ds : List AV) : Prop :=
 ds.length = n * 2 ∧ ds.all AV.known = true ∧ ((∃ id, a = .ms id 0 n n ∧ H[id]? = some (.cells ds)) ∨ (0 < n ∧ ∃ id e, a = .ov id n ∧ H[id]? = some (.vec e 2 n ds)))
theorem RowA.app {H J : zaa} {a : AV} {n : Nat} {ds : List AV} (h : RowA H a n ds) : RowA (H ++ J) a n ds := by
 obtain ⟨h1, h2, h3⟩ := h
 refine ⟨h1, h2, ?_⟩
 rcases h3 with ⟨id, rfl, h⟩ | ⟨h0, id, e, rfl, h⟩
 ·exact .inl ⟨id, rfl, by rw [List.getElem?_append_left (List.getElem?_eq_some_iff.1 h).1]; exact h⟩
 ·exact .inr ⟨h0, id, e, rfl, by rw [List.getElem?_append_left (List.getElem?_eq_some_iff.1 h).1]; exact h⟩
theorem zuP {H : zaa} {a : AV} {n : Nat} {ds : List AV} (hr : RowA H a n ds) (hn : n ≤ 1000000) (K : Kt) (h0 : n = 0 → K (.sl [] .none) H) (h1 : 0 < n → K (.ov H.length n) (H ++ [.vec zbL 2 n ds])) :
  ACalls tP ziC [a] H K := by
 refine zOW fun hs => ?_
 obtain ⟨hl, hk, hr⟩ := hr
 cases n with
 | zero =>
  rcases hr with ⟨id, rfl, h⟩ | ⟨h, _⟩
  ·have hds : ds = [] := by cases ds <;> simp_all
   subst hds
   simp [zl0, zfd, zeB, zaz, za9, zaB, AV.pd, zaw, zcl, h]
   exact h0 rfl
  ·omega
 | succ n =>
  have hkk := h1 (by omega)
  rcases hr with ⟨id, rfl, h⟩ | ⟨_, id, e, rfl, h⟩
  ·simp [zl0, zfd, zeB, zaz, za9, zaB, AV.pd, zaw, zcl, h]
   have ht : List.take ((n + 1) * 2) ds = ds := List.take_of_length_le (by omega)
   rw [ht]
   refine ⟨by omega, ⟨by simpa using hk, by omega, by omega, by omega⟩, hkk⟩
  ·simp [zl0, zfd, zeB, zaz, za9, zaB, AV.pd, zaw, zcl, h]
   refine ⟨⟨by simpa using hk, by omega, by omega, by omega⟩, hkk⟩
end Go.Proofs.YtjkkonpjecoieaaGreat
namespace Go.Proofs.YtjkkonpjecoieaaGreat
open Go Go.Abs
set_option maxRecDepth 100000
def zlw : Nat → List Bool
 | 4 => rl false [2,2,6,3,12]
 | _ => []
noncomputable def zrh : Code := Tryz.f74.body.getD .skip
noncomputable def zNm : List ResultVar := Tryz.f74.results.toList
def zlx (t2 t3 t10 t11 t12 : AV) : List AV := ux 2 (t2 :: t3 :: ux 6 (t10 :: t11 :: t12 :: ux 12 []))
def zNk : List Bool := zlw 4
noncomputable def zNi : Code := zas [1, 1, 0, 1, 0, 1, 0, 0] zrh
def zNh (K : Kt) : AExit → List AV → zaa → Prop := zat tP zlw [1, 1, 0, 1, 0, 1, 0] zrh (zaA tP zNm K)
def zlz (t2 t3 t10 t11 t12 : AV) (H : zaa) (K : Kt) : Prop := ALoop tP zNi (zNh K) (zlx t2 t3 t10 t11 t12) H
def zly (t2 t3 : AV) (H : zaa) (K : Kt) : Prop :=
 zad true 2 t3 H fun t24 =>
 zak 2 t2 t24 H fun H =>
 zad true 2 t2 H fun r0 =>
 K r0 H
def zrg (t2 t3 t10 t11 t12 : AV) (H : zaa) (K : Kt) (Kb4 : Lt) : Prop :=
 zac .lss false t12 t11 fun t13 =>
 zag t13
 (zaj 3 t10 t12 fun t14 =>
 zad true 3 t14 H fun t15 =>
 zau [(.int .i64 0), (.int .i64 0), .snil] H fun t5 H =>
 zak 3 t5 t15 H fun H =>
 zae H (fun K' => zaf 1 t3 (K' · H)) fun t16 =>
 zae H (fun K' => zal false 1 t16 H (K' · H)) fun t17 =>
 zae H (fun K' => zal true 3 t5 H (K' · H)) fun t18 =>
 zaG H (fun H K' => ACalls tP zit [t18] H K') fun t19 =>
 zae H (fun K' => zaz 2 [(.int .i64 0), .snil] 1 [(0, t19)] (K' · H)) fun t20 =>
 zaw zbL 2 32 t17 t20 H fun t21 H =>
 zae H (fun K' => zaf 1 t3 (K' · H)) fun t22 =>
 zak 1 t22 t21 H fun H =>
 zac .add false t12 (.int .i64 1) fun t23 =>
 Kb4 (zlx t2 t3 t10 t11 t23) H)
 (zly t2 t3 H K)
def zze (t0 : AV) (H : zaa) (K : Kt) : Prop :=
 zao t0 H fun t1 H =>
 zau [(.int .i64 0), .snil] H fun t2 H =>
 zau [(.int .i64 0), .snil] H fun t3 H =>
 zaf 0 t1 fun t6 =>
 zad false 1 t6 H fun t7 =>
 zac .eql false t7 (.int .i64 6) fun t8 =>
 zag t8
 (zaf 2 t1 fun t9 =>
 zad false 1 t9 H fun t10 =>
 zah 1 t10 fun t11 =>
 zlz t2 t3 t10 t11 (.int .i64 0) H K)
 (zly t2 t3 H K)
theorem zNj {t2 t3 t10 t11 t12 : AV} {H : zaa} {K : Kt} (Inv : Nat → AV → zaa → Prop) (n : Nat) (h0 : HSc H → Inv n t12 H)
  (round : Rd1 (fun t12 => zlx t2 t3 t10 t11 t12) (fun t12 => fun H Kb4 => zrg t2 t3 t10 t11 t12 H K Kb4) H Inv) : zlz t2 t3 t10 t11 t12 H K :=
 lp1 (M := zlw) zNk t12 (by kernel_rfl) Inv n h0 round
theorem zNl {t0 : AV} {H : zaa} {K : Kt} (h : HSc H → zze t0 H K) : ACalls tP zit [t0] H K :=
 zam (M := zlw) Tryz.func74 (c := zrh) (by kernel_rfl) (fun hs => Eq.mpr (by kernel_rfl) (h hs))
def zln : Nat → List Bool
 | 3 => rl false [2,2,6,3,12]
 | _ => []
noncomputable def zq2 : Code := Tryz.f52.body.getD .skip
noncomputable def zMH : List ResultVar := Tryz.f52.results.toList
def zlo (t2 t3 t10 t11 t12 : AV) : List AV := ux 2 (t2 :: t3 :: ux 6 (t10 :: t11 :: t12 :: ux 12 []))
def zMF : List Bool := zln 3
noncomputable def zMD : Code := zas [1, 1, 0, 1, 0, 0] zq2
def zMC (K : Kt) : AExit → List AV → zaa → Prop := zat tP zln [1, 1, 0, 1, 0] zq2 (zaA tP zMH K)
def zlp (t2 t3 t10 t11 t12 : AV) (H : zaa) (K : Kt) : Prop := ALoop tP zMD (zMC K) (zlo t2 t3 t10 t11 t12) H
def zq1 (t2 t3 t10 t11 t12 : AV) (H : zaa) (K : Kt) (Kb3 : Lt) : Prop :=
 zac .lss false t12 t11 fun t13 =>
 zag t13
 (zaj 2 t10 t12 fun t14 =>
 zad true 2 t14 H fun t15 =>
 zau [(.int .i64 0), .snil] H fun t5 H =>
 zak 2 t5 t15 H fun H =>
 zae H (fun K' => zaf 1 t3 (K' · H)) fun t16 =>
 zae H (fun K' => zal false 1 t16 H (K' · H)) fun t17 =>
 zae H (fun K' => zal true 2 t5 H (K' · H)) fun t18 =>
 zaG H (fun H K' => ACalls tP ziq [t18] H K') fun t19 =>
 zae H (fun K' => zaz 2 [(.int .i64 0), .snil] 1 [(0, t19)] (K' · H)) fun t20 =>
 zaw zbL 2 32 t17 t20 H fun t21 H =>
 zae H (fun K' => zaf 1 t3 (K' · H)) fun t22 =>
 zak 1 t22 t21 H fun H =>
 zac .add false t12 (.int .i64 1) fun t23 =>
 Kb3 (zlo t2 t3 t10 t11 t23) H)
 (zad true 2 t3 H fun t24 =>
 zak 2 t2 t24 H fun H =>
 zad true 2 t2 H fun r0 =>
 K r0 H)
def zy1 (t0 : AV) (H : zaa) (K : Kt) : Prop :=
 zao t0 H fun t1 H =>
 zau [(.int .i64 0), .snil] H fun t2 H =>
 zaf 0 t1 fun t6 =>
 zad false 1 t6 H fun t7 =>
 zax [(.int .i64 0), .snil] [(0, 1), (1, 1)] [(0, t7)] fun t8 =>
 zau [(.int .i64 0), .snil] H fun t3 H =>
 zak 2 t3 t8 H fun H =>
 zaf 1 t1 fun t9 =>
 zad false 1 t9 H fun t10 =>
 zah 1 t10 fun t11 =>
 zlp t2 t3 t10 t11 (.int .i64 0) H K
theorem zME {t2 t3 t10 t11 t12 : AV} {H : zaa} {K : Kt} (Inv : Nat → AV → zaa → Prop) (n : Nat) (h0 : HSc H → Inv n t12 H)
  (round : Rd1 (fun t12 => zlo t2 t3 t10 t11 t12) (fun t12 => fun H Kb3 => zq1 t2 t3 t10 t11 t12 H K Kb3) H Inv) : zlp t2 t3 t10 t11 t12 H K :=
 lp1 (M := zln) zMF t12 (by kernel_rfl) Inv n h0 round
theorem zMG {t0 : AV} {H : zaa} {K : Kt} (h : HSc H → zy1 t0 H K) : ACalls tP ziq [t0] H K :=
 zam (M := zln) Tryz.func52 (c := zq2) (by kernel_rfl) (fun hs => Eq.mpr (by kernel_rfl) (h hs))
def zO3 (_ : Nat) : List Bool := []
noncomputable def zO4 : Code := Tryz.f96.body.getD .skip
def zzG (t0 t1 : AV) (H : zaa) (K : Kt) : Prop :=
 ACalls tP zh1 [t0] H fun t8 H =>
 ACalls tP zh1 [t1] H fun t10 H =>
 zag t8
 (zag t10
 (K (.int .i64 0) H)
 (K (.int .i64 (-1)) H))
 (zag t10
 (K (.int .i64 1) H)
 (zac .lss false t0 t1 fun t16 =>
 zag t16
 (K (.int .i64 (-1)) H)
 (zac .gtr false t0 t1 fun t19 =>
 zag t19
 (K (.int .i64 1) H)
 (K (.int .i64 0) H))))
theorem zO5 {t0 t1 : AV} {H : zaa} {K : Kt} (h : HSc H → zzG t0 t1 H K) : ACalls tP ziD [t0, t1] H K :=
 zam (M := zO3) Tryz.func96 (c := zO4) (by kernel_rfl) (fun hs => Eq.mpr (by kernel_rfl) (h hs))
def zl1 : Nat → List Bool
 | 3 => rl false [3,1,2,3,9]
 | _ => []
noncomputable def zrN : Code := Tryz.f95.body.getD .skip
noncomputable def zO2 : List ResultVar := Tryz.f95.results.toList
def zl3 (t3 t6 t7 t8 : AV) : List AV := ux 3 (t3 :: ux 2 (t6 :: t7 :: t8 :: ux 9 []))
def zO0 : List Bool := zl1 3
noncomputable def zOY : Code := zas [1, 1, 0, 1, 0, 0] zrN
def zOX (K : Kt) : AExit → List AV → zaa → Prop := zat tP zl1 [1, 1, 0, 1, 0] zrN (zaA tP zO2 K)
def zzF (t3 t6 t7 t8 : AV) (H : zaa) (K : Kt) : Prop := ALoop tP zOY (zOX K) (zl3 t3 t6 t7 t8) H
def zl2 (t3 t6 t7 t8 : AV) (H : zaa) (K : Kt) (Kb3 : Lt) : Prop :=
 zac .lss false t8 t7 fun t9 =>
 zag t9
 (zaj 1 t6 t8 fun t10 =>
 zad false 1 t10 H fun t11 =>
 zac .neq false t11 t3 fun t14 =>
 zag t14
 (K t11 H)
 (zac .add false t8 (.int .i64 1) fun t16 =>
 Kb3 (zl3 t3 t6 t7 t16) H))
 (K t3 H)
def zzE (t0 : AV) (H : zaa) (K : Kt) : Prop :=
 zah 1 t0 fun t7 =>
 zzF (.int .i64 0) t0 t7 (.int .i64 0) H K
theorem zOZ {t3 t6 t7 t8 : AV} {H : zaa} {K : Kt} (Inv : Nat → AV → zaa → Prop) (n : Nat) (h0 : HSc H → Inv n t8 H)
  (round : Rd1 (fun t8 => zl3 t3 t6 t7 t8) (fun t8 => fun H Kb3 => zl2 t3 t6 t7 t8 H K Kb3) H Inv) : zzF t3 t6 t7 t8 H K :=
 lp1 (M := zl1) zO0 t8 (by kernel_rfl) Inv n h0 round
theorem zO1 {t0 : AV} {H : zaa} {K : Kt} (h : HSc H → zzE t0 H K) : ACalls tP znH [t0] H K :=
 zam (M := zl1) Tryz.func95 (c := zrN) (by kernel_rfl) (fun hs => Eq.mpr (by kernel_rfl) (h hs))
def zFK (_ : Nat) : List Bool := []
noncomputable def zFL : Code := Tryz.f142.body.getD .skip
def zwn (t0 : AV) (H : zaa) (K : Kt) : Prop :=
 zac .neq false t0 t0 fun t5 =>
 K t5 H
theorem zFM {t0 : AV} {H : zaa} {K : Kt} (h : HSc H → zwn t0 H K) : ACalls tP zh1 [t0] H K :=
 zam (M := zFK) Tryz.func142 (c := zFL) (by kernel_rfl) (fun hs => Eq.mpr (by kernel_rfl) (h hs))
def zMw (_ : Nat) : List Bool := []
noncomputable def zMx : Code := Tryz.f51.body.getD .skip
def zy0 (t0 t1 : AV) (H : zaa) (K : Kt) : Prop :=
 zao t0 H fun t2 H =>
 zao t1 H fun t3 H =>
 zae H (fun K' => zaf 0 t2 (K' · H)) fun t6 =>
 zae H (fun K' => zal false 1 t6 H (K' · H)) fun t7 =>
 zae H (fun K' => zaf 0 t3 (K' · H)) fun t8 =>
 zae H (fun K' => zal false 1 t8 H (K' · H)) fun t9 =>
 zaG H (fun H K' => ACalls tP ziD [t7, t9] H K') fun t10 =>
 zae H (fun K' => zaf 1 t2 (K' · H)) fun t11 =>
 zae H (fun K' => zal false 1 t11 H (K' · H)) fun t12 =>
 zae H (fun K' => zah 1 t12 (K' · H)) fun t13 =>
 zae H (fun K' => zaf 1 t3 (K' · H)) fun t14 =>
 zae H (fun K' => zal false 1 t14 H (K' · H)) fun t15 =>
 zae H (fun K' => zah 1 t15 (K' · H)) fun t16 =>
 zaG H (fun H K' => ACalls tP ziD [t13, t16] H K') fun t17 =>
 zae H (fun K' => zaz 1 [(.int .i64 0)] 2 [(0, t10), (1, t17)] (K' · H)) fun t18 =>
 zaG H (fun H K' => ACalls tP znH [t18] H K') fun t19 =>
 zae H (fun K' => K' t19 H) fun t5 =>
 zac .neq false t5 (.int .i64 0) fun t21 =>
 zag t21
 (K t5 H)
 (zaf 1 t2 fun t23 =>
 zad false 1 t23 H fun t24 =>
 zaf 1 t3 fun t25 =>
 zad false 1 t25 H fun t26 =>
 ACalls tP zio [t24, t26, (.fn zfs [])] H fun t27 H =>
 K t27 H)
theorem zMy {t0 t1 : AV} {H : zaa} {K : Kt} (h : HSc H → zy0 t0 t1 H K) : ACalls tP zfs [t0, t1] H K :=
 zam (M := zMw) Tryz.func51 (c := zMx) (by kernel_rfl) (fun hs => Eq.mpr (by kernel_rfl) (h hs))
def zll : Nat → List Bool
 | 2 => rl false [0,3,8,3,25]
 | _ => []
noncomputable def zq0 : Code := Tryz.f50.body.getD .skip
noncomputable def zMv : List ResultVar := Tryz.f50.results.toList
def zlm (t0 t1 t2 t11 t12 t13 : AV) : List AV := t0 :: t1 :: t2 :: ux 8 (t11 :: t12 :: t13 :: ux 25 [])
def zMt : List Bool := zll 2
noncomputable def zMr : Code := zas [1, 0, 1, 0, 0] zq0
def zMq (K : Kt) : AExit → List AV → zaa → Prop := zat tP zll [1, 0, 1, 0] zq0 (zaA tP zMv K)
def zyZ (t0 t1 t2 t11 t12 t13 : AV) (H : zaa) (K : Kt) : Prop := ALoop tP zMr (zMq K) (zlm t0 t1 t2 t11 t12 t13) H
def zqZ (t0 t1 t2 t11 t12 t13 : AV) (H : zaa) (K : Kt) (Kb2 : Lt) : Prop :=
 zac .lss false t13 t12 fun t14 =>
 zag t14
 (zaj 2 t11 t13 fun t16 =>
 zad true 2 t16 H fun t17 =>
 zau [(.int .i64 0), .snil] H fun t8 H =>
 zak 2 t8 t17 H fun H =>
 zah 1 t1 fun t20 =>
 zac .geq false t13 t20 fun t21 =>
 zag t21
 (K (.int .i64 1) H)
 (zaj 2 t1 t13 fun t24 =>
 zad true 2 t24 H fun t25 =>
 zau [(.int .i64 0), .snil] H fun t9 H =>
 zak 2 t9 t25 H fun H =>
 zad true 2 t8 H fun t27 =>
 zad true 2 t9 H fun t28 =>
 aCallV tP t2 [t27, t28] H fun t29 H =>
 zac .neq false t29 (.int .i64 0) fun t31 =>
 zag t31
 (K t29 H)
 (zac .add false t13 (.int .i64 1) fun t33 =>
 Kb2 (zlm t0 t1 t2 t11 t12 t33) H)))
 (zah 1 t0 fun t35 =>
 zah 1 t1 fun t37 =>
 zac .lss false t35 t37 fun t38 =>
 zag t38
 (K (.int .i64 (-1)) H)
 (K (.int .i64 0) H))
def zyY (t0 t1 t2 : AV) (H : zaa) (K : Kt) : Prop :=
 zah 1 t0 fun t12 =>
 zyZ t0 t1 t2 t0 t12 (.int .i64 0) H K
theorem zMs {t0 t1 t2 t11 t12 t13 : AV} {H : zaa} {K : Kt} (Inv : Nat → AV → zaa → Prop) (n : Nat) (h0 : HSc H → Inv n t13 H)
  (round : Rd1 (fun t13 => zlm t0 t1 t2 t11 t12 t13) (fun t13 => fun H Kb2 => zqZ t0 t1 t2 t11 t12 t13 H K Kb2) H Inv) : zyZ t0 t1 t2 t11 t12 t13 H K :=
 lp1 (M := zll) zMt t13 (by kernel_rfl) Inv n h0 round
theorem zMu {t0 t1 t2 : AV} {H : zaa} {K : Kt} (h : HSc H → zyY t0 t1 t2 H K) : ACalls tP zio [t0, t1, t2] H K :=
 zam (M := zll) Tryz.func50 (c := zq0) (by kernel_rfl) (fun hs => Eq.mpr (by kernel_rfl) (h hs))
def zlc : Nat → List Bool
 | 7 => rl false [6,2,22,3,16]
 | _ => []
noncomputable def zqT : Code := Tryz.f46.body.getD .skip
noncomputable def zMf : List ResultVar := Tryz.f46.results.toList
def zle (t6 t7 t30 t31 t32 : AV) : List AV := ux 6 (t6 :: t7 :: ux 22 (t30 :: t31 :: t32 :: ux 16 []))
def zMd : List Bool := zlc 7
noncomputable def zMb : Code := zas [1, 1, 1, 0, 1, 0, 0] zqT
def zMa (K : Kt) : AExit → List AV → zaa → Prop := zat tP zlc [1, 1, 1, 0, 1, 0] zqT (zaA tP zMf K)
def zlg (t6 t7 t30 t31 t32 : AV) (H : zaa) (K : Kt) : Prop := ALoop tP zMb (zMa K) (zle t6 t7 t30 t31 t32) H
def zyR (t6 t7 t30 t31 t32 : AV) (H : zaa) (K : Kt) (Kb7 : Lt) : Prop :=
 zac .add false t32 (.int .i64 1) fun t46 =>
 Kb7 (zle t6 t7 t30 t31 t46) H
def zlf (t6 t7 t30 t31 t32 : AV) (H : zaa) (K : Kt) (Kb7 : Lt) : Prop :=
 zyR t6 t7 t30 t31 t32 H K Kb7
def zld (t6 t7 t30 t31 t32 : AV) (H : zaa) (K : Kt) (Kb7 : Lt) : Prop :=
 zac .lss false t32 t31 fun t33 =>
 zag t33
 (zaj 1 t30 t32 fun t35 =>
 zad false 1 t35 H fun t36 =>
 zag t36
 (zaz 1 [(.int .i64 0)] 1 [(0, t32)] fun t40 =>
 zaw za8 1 8 t7 t40 H fun t41 H =>
 zlf t6 t41 t30 t31 t32 H K Kb7)
 (zaz 1 [(.int .i64 0)] 1 [(0, t32)] fun t44 =>
 zaw za8 1 8 t6 t44 H fun t45 H =>
 zlf t45 t7 t30 t31 t32 H K Kb7))
 (zaD [t6, t7, (.bool true)] (K · H))
def zyQ (t0 t1 t2 : AV) (H : zaa) (K : Kt) : Prop :=
 zao t1 H fun t4 H =>
 zad true 3 t4 H fun t14 =>
 ACalls tP zgN [t0, t14] H fun t15 H =>
 aUn .not t15 fun t16 =>
 zag t16
 (zaD [.snil, .snil, (.bool false)] (K · H))
 (zad true 3 t4 H fun t19 =>
 ACalls tP zeb [t0, t19, t2] H fun t21 H =>
 zay t21 0 fun t22 =>
 zay t21 1 fun t23 =>
 aUn .not t23 fun t25 =>
 zag t25
 (zaD [.snil, .snil, (.bool false)] (K · H))
 (zaf 1 t4 fun t27 =>
 zad false 1 t27 H fun t28 =>
 ACalls tP zdf [t0, t28, t2] H fun t30 H =>
 zah 1 t30 fun t31 =>
 zlg .snil .snil t30 t31 (.int .i64 0) H K))
theorem zMc {t6 t7 t30 t31 t32 : AV} {H : zaa} {K : Kt} (Inv : Nat → AV → AV → AV → zaa → Prop) (n : Nat) (h0 : HSc H → Inv n t6 t7 t32 H)
  (round : Rd3 (fun t6 => fun t7 => fun t32 => zle t6 t7 t30 t31 t32) (fun t6 => fun t7 => fun t32 => fun H Kb7 => zld t6 t7 t30 t31 t32 H K Kb7) H Inv) : zlg t6 t7 t30 t31 t32 H K :=
 lp3 (M := zlc) zMd t6 t7 t32 (by kernel_rfl) Inv n h0 round
theorem zMe {t0 t1 t2 : AV} {H : zaa} {K : Kt} (h : HSc H → zyQ t0 t1 t2 H K) : ACalls tP znB [t0, t1, t2] H K :=
 zam (M := zlc) Tryz.func46 (c := zqT) (by kernel_rfl) (fun hs => Eq.mpr (by kernel_rfl) (h hs))
def zKR (_ : Nat) : List Bool := []
noncomputable def zKS : Code := Tryz.f31.body.getD .skip
def zyp (t0 t1 : AV) (H : zaa) (K : Kt) : Prop :=
 zao t1 H fun t3 H =>
 zau [(.int .i64 0), .snil] H fun t4 H =>
 zad true 3 t3 H fun t7 =>
 ACalls tP zgN [t0, t7] H fun t8 H =>
 aUn .not t8 fun t9 =>
 zag t9
 (zax [(.int .i64 0), .snil] [(0, 1), (1, 1)] [] fun t10 =>
 zak 2 t4 t10 H fun H =>
 zad true 2 t4 H fun r0 =>
 zaD [r0, (.bool false)] (K · H))
 (zad true 3 t3 H fun t11 =>
 ACalls tP zit [t11] H fun t12 H =>
 zak 2 t4 t12 H fun H =>
 zad true 2 t4 H fun r0 =>
 zaD [r0, (.bool true)] (K · H))
theorem zKT {t0 t1 : AV} {H : zaa} {K : Kt} (h : HSc H → zyp t0 t1 H K) : ACalls tP znv [t0, t1] H K :=
 zam (M := zKR) Tryz.func31 (c := zKS) (by kernel_rfl) (fun hs => Eq.mpr (by kernel_rfl) (h hs))
def zMn (_ : Nat) : List Bool := []
noncomputable def zMo : Code := Tryz.f49.body.getD .skip
def zyX (t0 t1 : AV) (H : zaa) (K : Kt) : Prop :=
 ACalls tP zio [t0, t1, (.fn zfs [])] H fun t7 H =>
 K t7 H
theorem zMp {t0 t1 : AV} {H : zaa} {K : Kt} (h : HSc H → zyX t0 t1 H K) : ACalls tP znC [t0, t1] H K :=
 zam (M := zMn) Tryz.func49 (c := zMo) (by kernel_rfl) (fun hs => Eq.mpr (by kernel_rfl) (h hs))
def zKq (_ : Nat) : List Bool := []
noncomputable def zKr : Code := Tryz.f24.body.getD .skip
def zx2 (H : zaa) (K : Kt) : Prop :=
 zax [(.str []), .snil] [(0, 1), (1, 1)] [(0, (.str [67]))] fun t4 =>
 zaz 2 [(.str []), .snil] 1 [(0, t4)] fun t5 =>
 zax [(.str []), (.int .i64 0), .snil] [(0, 1), (1, 1), (2, 1)] [(0, (.str [68])), (2, t5)] fun t6 =>
 zaz 3 [(.str []), (.int .i64 0), .snil] 1 [(0, t6)] fun t7 =>
 zax [(.int .i64 0), (.int .i64 0), .snil] [(0, 1), (1, 1), (2, 1)] [(0, (.int .i64 5))] fun t10 =>
 zax [(.int .i64 0), .snil] [(0, 1), (1, 1)] [] fun t11 =>
 zaz 2 [(.int .i64 0), .snil] 1 [(0, t11)] fun t12 =>
 zax [(.int .i64 0), .snil] [(0, 1), (1, 1)] [(1, t12)] fun t13 =>
 ACalls tP zgC [t7, t10, (.int .i64 0), t13] H fun t14 H =>
 zay t14 0 fun t15 =>
 zay t14 1 fun t16 =>
 zac .eql false t16 (.int .i64 0) fun t18 =>
 zab t18 true H (fun K' => K' t15 H) fun t20 H =>
 zab t18 true H (fun K' => zah 1 t20 (K' · H)) fun t21 H =>
 zab t18 true H (fun K' => zac .eql false t21 (.int .i64 1) (K' · H)) fun t22 H =>
 zai t18 t22 (.bool false) fun t23 =>
 zab t23 true H (fun K' => K' t15 H) fun t25 H =>
 zab t23 true H (fun K' => zaj 1 t25 (.int .i64 0) (K' · H)) fun t26 H =>
 zab t23 true H (fun K' => zad false 1 t26 H (K' · H)) fun t27 H =>
 zab t23 true H (fun K' => zah 1 t27 (K' · H)) fun t28 H =>
 zab t23 true H (fun K' => zac .eql false t28 (.int .i64 0) (K' · H)) fun t29 H =>
 zai t23 t29 (.bool false) fun t30 =>
 K t30 H
theorem zKs {H : zaa} {K : Kt} (h : HSc H → zx2 H K) : ACalls tP zie [] H K :=
 zam (M := zKq) Tryz.func24 (c := zKr) (by kernel_rfl) (fun hs => Eq.mpr (by kernel_rfl) (h hs))
def zPd (_ : Nat) : List Bool := []
noncomputable def zPe : Code := Tryz.f11.body.getD .skip
def zq9 (t0 t1 : AV) (H : zaa) (K : Kt) : Prop :=
 zao t1 H fun t3 H =>
 ACalls tP znt [t0] H fun t6 H =>
 zab t6 true H (fun K' => zad true 3 t3 H (K' · H)) fun t8 H =>
 zab t6 true H (fun K' => ACalls tP znu [t8] H K') fun t9 H =>
 zai t6 t9 (.bool false) fun t10 =>
 K t10 H
theorem zPf {t0 t1 : AV} {H : zaa} {K : Kt} (h : HSc H → zq9 t0 t1 H K) : ACalls tP znG [t0, t1] H K :=
 zam (M := zPd) Tryz.func11 (c := zPe) (by kernel_rfl) (fun hs => Eq.mpr (by kernel_rfl) (h hs))
end Go.Proofs.YtjkkonpjecoieaaGreat
namespace Go.Proofs.YtjkkonpjecoieaaGreat
open Go Go.Abs
set_option maxRecDepth 8000
theorem zc5 (v : IT) : ∃ a b, v.cs = [a, b] ∧ a.known = true ∧ b.known = true := by
 obtain ⟨n, ks⟩ := v; exact ⟨_, _, rfl, rfl, rfl⟩
theorem zsp {v : IT} {k : AV → Prop} : zaz 2 [.int .i64 0, .snil] 1 [(0, .agg v.cs)] k = k (.sl [v.cs] .full) := by
 cases v
 exact propext Iff.rfl
theorem zA5 {l : List IT} {i : Nat} (h : i < l.length) : IT.css (l.take (i + 1)) = IT.css (l.take i) ++ [(l[i]).cs] := by
 rw [IT.css_map, IT.css_map, List.take_succ_eq_append_getElem h, List.map_append]
 rfl
theorem zMI : ∀ (m : Nat) (v : IT), v.nodes ≤ m → v.nodes ≤ 1000000 → ∀ (H : zaa) (K : Kt), K (.agg v.cs) H → ACalls tP ziq [.agg v.cs] H K := by
 intro m
 induction m with
 | zero => intro v h; have := v.nodes_pos; omega
 | succ m ih =>
  intro v hm hb H K hK
  obtain ⟨n, ks⟩ := v
  have hll := IT.len_le ks
  have hnn : (IT.mk n ks).nodes = IT.nodesL ks + 1 := by simp [IT.nodes]
  refine ACalls.out (zMG fun hs => ?_)
  simp [zy1, IT.cs, zax, zaP, AV.known, Nat.add_assoc]
  unfold zlp
  refine ALoop.ownC (H.length + 2) 1 zbL 2 (cs := [.int .i64 n, .snil]) (by simp) rfl ?_
  have hset : (H ++ [AB.cells [.int .i64 n, .sl (IT.css ks) .none], .cells [.int .i64 0, .snil], .cells [.int .i64 n, .snil]]).set (H.length + 2) (.cells ([AV.int .i64 n, .snil].set 1 (.sl [] (.own (H ++ [AB.cells [.int .i64 n, .sl (IT.css ks) .none], .cells [.int .i64 0, .snil], .cells [.int .i64 n, .snil]]).length)))) ++ [.perm zbL 2 0] =
    H ++ [.cells [.int .i64 n, .sl (IT.css ks) .none], .cells [.int .i64 0, .snil], .cells [.int .i64 n, .sl [] (.own (H.length + 3))], .perm zbL 2 0] := by simp [List.set_append_right]
  rw [hset]
  show zlp (.ptr (H.length + 1) 0) (.ptr (H.length + 2) 0) (.sl (IT.css ks) .none) (.int .i64 ks.length) (.int .i64 0) _ (Out H.length K)
  have hsc : ∀ i, HSc (H ++ [.cells [.int .i64 n, .sl (IT.css ks) .none], .cells [.int .i64 0, .snil], .cells [.int .i64 n, .sl (IT.css (ks.take i)) (.own (H.length + 3))], .perm zbL 2 i]) := fun i => hs.append (by simp [AB.sc, AV.scA, AV.scB])
  refine zME (Inv := fun q t12 H' => ∃ i : Nat, i ≤ ks.length ∧ q = ks.length - i ∧ t12 = .int .i64 i ∧
   H' = H ++ [.cells [.int .i64 n, .sl (IT.css ks) .none], .cells [.int .i64 0, .snil], .cells [.int .i64 n, .sl (IT.css (ks.take i)) (.own (H.length + 3))], .perm zbL 2 i]) ks.length ?_ ?_
  ·intro _; exact ⟨0, by omega, by omega, rfl, by simp [IT.css]⟩
  ·rintro q t12 H' ⟨i, hi, rfl, rfl, rfl⟩ hsc' hlen hsF Kb hKb
   by_cases hlt : i < ks.length
   ·obtain ⟨x, y, hvx, hx, hy⟩ := zc5 ks[i]
    have hkn := IT.kid_lt (n := n) hlt
    simp [zq1, hlt, hvx, hx, hy]
    rw [← hvx]
    refine zaF (.agg (ks[i]).cs) (fun J => ih ks[i] (by omega) (by omega) _ _ ⟨rfl, rfl⟩) ?_
    rw [zsp]
    simp [zaw, zaX, zaO, Nat.min_eq_left hi, AV.known, List.set_append_right]
    refine ⟨⟨by omega, by omega⟩, ?_⟩
    rw [zar (by omega) (by omega)]
    rw [← zA5 hlt]
    refine hKb _ _ ⟨ks.length - (i + 1), by omega, Back.at (J := [.cells (ks[i]).cs]) (H2 := H ++ [.cells [.int .i64 n, .sl (IT.css ks) .none], .cells [.int .i64 0, .snil], .cells [.int .i64 n, .sl (IT.css (ks.take (i + 1))) (.own (H.length + 3))], .perm zbL 2 (i + 1)]) (by simp) (by simp) (hsc _) ?_ ⟨_, rfl, i + 1, by omega, rfl, by simp, rfl⟩⟩
    simp [zlo, AV.sc, AV.scV, AV.scA, AV.scB]
   ·obtain rfl : i = ks.length := by omega
    rw [List.take_length] at *
    simp [zq1, AV.known, List.set_append_right]
    exact Out.at rfl (Nat.le_refl _) hs (WkV.agg (ds := [.int .i64 n, .sl (IT.css ks) .none]) ⟨.refl _, .sl _ _, trivial⟩) rfl (by simp [AV.scV, AV.scA, AV.scB]) (by simpa [IT.cs] using hK)
mutual
def zbf : VT → IT
 | .mk k _ ks => .mk 0 (if k = 6 then zbB ks else [])
def zbB : List VT → List IT
 | [] => []
 | t :: ts => zbf t :: zbB ts
end
theorem zg7 : ∀ ts : List VT, zbB ts = ts.map zbf
 | [] => by simp [zbB]
 | t :: ts => by simp [zbB, zg7 ts]
theorem zNn : ∀ (m : Nat) (v : VT), v.nodes ≤ m → v.nodes ≤ 1000000 → ∀ (H : zaa) (K : Kt), K (.agg (zbf v).cs) H → ACalls tP zit [.agg v.cs] H K := by
 intro m
 induction m with
 | zero => intro v h; have := v.nodes_pos; omega
 | succ m ih =>
  intro v hm hb H K hK
  obtain ⟨k, n, ks⟩ := v
  have hll := VT.len_le ks
  have hnn : (VT.mk k n ks).nodes = VT.nodesL ks + 1 := by simp [VT.nodes]
  refine ACalls.out (zNl fun hs => ?_)
  simp [zze, VT.cs, zax, zaP, AV.known, Nat.add_assoc]
  by_cases hk6 : k = 6
  ·have hK : K (.agg [.int .i64 0, .sl (IT.css (zbB ks)) .none]) H := by simpa [zbf, hk6, IT.cs] using hK
   simp [hk6]
   subst hk6
   unfold zlz
   refine ALoop.ownC (H.length + 2) 1 zbL 2 (cs := [.int .i64 0, .snil]) (by simp) rfl ?_
   have hset : (H ++ [AB.cells [.int .i64 6, .int .i64 n, .sl (VT.css ks) .none], .cells [.int .i64 0, .snil], .cells [.int .i64 0, .snil]]).set (H.length + 2) (.cells ([AV.int .i64 0, .snil].set 1 (.sl [] (.own (H ++ [AB.cells [.int .i64 6, .int .i64 n, .sl (VT.css ks) .none], .cells [.int .i64 0, .snil], .cells [.int .i64 0, .snil]]).length)))) ++ [.perm zbL 2 0] =
     H ++ [.cells [.int .i64 6, .int .i64 n, .sl (VT.css ks) .none], .cells [.int .i64 0, .snil], .cells [.int .i64 0, .sl [] (.own (H.length + 3))], .perm zbL 2 0] := by simp [List.set_append_right]
   rw [hset]
   show zlz (.ptr (H.length + 1) 0) (.ptr (H.length + 2) 0) (.sl (VT.css ks) .none) (.int .i64 ks.length) (.int .i64 0) _ (Out H.length K)
   have hsc : ∀ i, HSc (H ++ [.cells [.int .i64 6, .int .i64 n, .sl (VT.css ks) .none], .cells [.int .i64 0, .snil], .cells [.int .i64 0, .sl (IT.css (zbB (ks.take i))) (.own (H.length + 3))], .perm zbL 2 i]) := fun i => hs.append (by simp [AB.sc, AV.scA, AV.scB])
   refine zNj (Inv := fun q t12 H' => ∃ i : Nat, i ≤ ks.length ∧ q = ks.length - i ∧ t12 = .int .i64 i ∧
    H' = H ++ [.cells [.int .i64 6, .int .i64 n, .sl (VT.css ks) .none], .cells [.int .i64 0, .snil], .cells [.int .i64 0, .sl (IT.css (zbB (ks.take i))) (.own (H.length + 3))], .perm zbL 2 i]) ks.length ?_ ?_
   ·intro _; exact ⟨0, by omega, by omega, rfl, by simp [zbB, IT.css]⟩
   ·rintro q t12 H' ⟨i, hi, rfl, rfl, rfl⟩ hsc' hlen hsF Kb hKb
    by_cases hlt : i < ks.length
    ·obtain ⟨x, y, z, hvx, hx, hy, hz⟩ := zaK ks[i]
     have hkn := VT.kid_lt (k := 6) (n := n) hlt
     have hzl : (zbB (ks.take i)).length = i := by simp [zg7, Nat.min_eq_left hi]
     simp [zrg, hlt, hvx, hx, hy, hz]
     rw [← hvx]
     refine zaF (.agg (zbf ks[i]).cs) (fun J => ih ks[i] (by omega) (by omega) _ _ ⟨rfl, rfl⟩) ?_
     rw [zsp]
     simp [zaw, zaX, zaO, hzl, AV.known, List.set_append_right]
     refine ⟨⟨by omega, by omega⟩, ?_⟩
     rw [zar (by omega) (by omega)]
     have hst : IT.css (zbB (ks.take i)) ++ [(zbf ks[i]).cs] = IT.css (zbB (ks.take (i + 1))) := by
      rw [zg7, zg7, List.take_succ_eq_append_getElem hlt, IT.css_map, IT.css_map, List.map_append, List.map_append]
      rfl
     rw [hst]
     refine hKb _ _ ⟨ks.length - (i + 1), by omega, Back.at (J := [.cells (ks[i]).cs]) (H2 := H ++ [.cells [.int .i64 6, .int .i64 n, .sl (VT.css ks) .none], .cells [.int .i64 0, .snil], .cells [.int .i64 0, .sl (IT.css (zbB (ks.take (i + 1)))) (.own (H.length + 3))], .perm zbL 2 (i + 1)]) (by simp) (by simp) (hsc _) ?_ ⟨_, rfl, i + 1, by omega, rfl, by simp, rfl⟩⟩
     simp [zlx, AV.sc, AV.scV, AV.scA, AV.scB]
    ·obtain rfl : i = ks.length := by omega
     rw [List.take_length] at *
     simp [zrg, zly, AV.known, List.set_append_right]
     exact Out.at rfl (Nat.le_refl _) hs (WkV.agg (ds := [.int .i64 0, .sl (IT.css (zbB ks)) .none]) ⟨.refl _, .sl _ _, trivial⟩) rfl (by simp [AV.scV, AV.scA, AV.scB]) hK
  ·have hK : K (.agg [.int .i64 0, .sl [] .none]) H := by simpa [zbf, hk6, IT.cs, IT.css] using hK
   have hb : (k == 6) = false := by simpa using hk6
   simp [hb, zly, AV.known, List.set_append_right]
   exact Out.at rfl (Nat.le_refl _) hs (WkV.agg (ds := [.int .i64 0, .sl [] .none]) ⟨.refl _, .snil, trivial⟩) rfl (by simp [AV.scV, AV.scA, AV.scB]) hK
end Go.Proofs.YtjkkonpjecoieaaGreat
