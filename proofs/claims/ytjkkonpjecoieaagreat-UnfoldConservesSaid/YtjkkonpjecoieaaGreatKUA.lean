import Derived.Test.YtjkkonpjecoieaaGreatKV1
import Derived.Test.YtjkkonpjecoieaaGreatIT
import Derived.Test.YtjkkonpjecoieaaGreatAbsY
import Derived.Test.YtjkkonpjecoieaaGreatKNum
import Derived.Test.YtjkkonpjecoieaaGreatProg
import Derived.KernelRfl
import Derived.Test.YtjkkonpjecoieaaGreatKN6
import Derived.Test.YtjkkonpjecoieaaGreatKY11
set_option linter.unusedSimpArgs false
set_option linter.unusedVariables false
namespace Go.Proofs.YtjkkonpjecoieaaGreat
open Go Go.Abs
def pick : List VT → List Bool → List VT
 | x :: l, b :: bs => if b then pick l bs else x :: pick l bs
 | _, _ => []
def zbn (data : List Dat) (t : VT) (c : Int) : Option (List VT) := (zaR data t c).map fun l => pick l ((zbd data t.num.toNat).getD c.toNat [])
mutual
def zb1 (data : List Dat) : IT → VT → Int × Bool
 | .mk n ks, t =>
  if t.kind = 6 then (if n = 0 then (if t.kids.length = ks.length then zbC data ks t.kids 0 else (0, false)) else (0, false))
  else if t.kind = 7 then (n, decide (0 ≤ n) && decide (n ≤ 6) && decide (ks.length = 0))
  else if t.kind = 5 then (if n = 0 then zck data ks t 0 else (0, false))
  else (0, decide (n = 0) && decide (ks.length = 0))
def zbC (data : List Dat) : List IT → List VT → Int → Int × Bool
 | [], _, a => (a, decide (a ≤ 6))
 | v :: vs, ts, a => match ts with
  | t :: ts => if (zb1 data v t).2 then zbC data vs ts (a + (zb1 data v t).1) else (0, false)
  | [] => (0, false)
def zck (data : List Dat) : List IT → VT → Int → Int × Bool
 | [], _, a => (a, true)
 | .mk c ks :: es, t, a => match zbn data t c with
  | none => (0, false)
  | some ps => if ps.length = ks.length then
    (if (zbC data ks ps 0).2 && decide (a + (1 + (zbC data ks ps 0).1) ≤ 6) then zck data es t (a + (1 + (zbC data ks ps 0).1)) else (0, false))
   else (0, false)
end
mutual
def rdV (data : List Dat) : IT → VT → Int
 | .mk n ks, t =>
  if t.kind = 6 then (if n = 0 then (if t.kids.length = ks.length then rdA data ks t.kids 0 else -1) else -1)
  else if t.kind = 7 then (if 0 ≤ n ∧ n ≤ 6 ∧ ks.length = 0 then n else -1)
  else if t.kind = 5 then (if n = 0 ∧ ks.length ≤ 6 then rdE data ks t 0 else -1)
  else (if n = 0 ∧ ks.length = 0 then 0 else -1)
def rdA (data : List Dat) : List IT → List VT → Int → Int
 | [], _, a => a
 | v :: vs, ts, a => match ts with
  | t :: ts => if rdV data v t < 0 ∨ a + rdV data v t > 6 then -1 else rdA data vs ts (a + rdV data v t)
  | [] => -1
def rdE (data : List Dat) : List IT → VT → Int → Int
 | [], _, a => a
 | .mk c ks :: es, t, a => if c < 0 ∨ 8 ≤ c then -1 else match zbn data t c with
  | none => -1
  | some ps => if ps.length = ks.length then
    (if rdA data ks ps 0 < 0 ∨ a + 1 + rdA data ks ps 0 > 6 then -1 else rdE data es t (a + (1 + rdA data ks ps 0)))
   else -1
end
theorem zAK {data : List Dat} (h8 : ∀ D ∈ data, D.cons.length ≤ 8) {t : VT} {c : Int} {ps : List VT} (h : zbn data t c = some ps) : 0 ≤ c ∧ c < 8 := by
 unfold zbn at h
 cases hf : zaR data t c with
 | none => rw [hf] at h; cases h
 | some l =>
  obtain ⟨_, k1, k2, hn, hc, _⟩ := ze3 hf
  have := h8 _ (List.getElem_mem hn)
  omega
def agr (m : Int × Bool) (r : Int) : Prop := (m.2 = true → m.1 = r ∧ 0 ≤ r ∧ r ≤ 6) ∧ (m.2 = false → r = -1)
theorem zdu : agr (0, false) (-1) := ⟨fun h => (by cases h), fun _ => rfl⟩
mutual
theorem zfI {data : List Dat} (h8 : ∀ D ∈ data, D.cons.length ≤ 8) : ∀ (v : IT) (t : VT), agr (zb1 data v t) (rdV data v t)
 | .mk n ks, t => by
  have hA := (zhc h8 ks t.kids 0 (by omega)).1 (by omega)
  have hE := zlO h8 ks t 0 (by omega) (by omega)
  unfold zb1 rdV
  split
  ·split
   ·split
    ·exact hA
    ·exact zdu
   ·exact zdu
  ·split
   ·refine ⟨fun h => ?_, fun h => ?_⟩
    ·simp at h
     rw [if_pos ⟨h.1.1, h.1.2, by simpa using h.2⟩]
     exact ⟨rfl, h.1.1, h.1.2⟩
    ·rw [if_neg]
     rintro ⟨h1, h2, h3⟩
     simp [h1, h2, h3] at h
   ·split
    ·by_cases hn : n = 0
     ·simp only [hn, if_true, true_and]
      by_cases hl : ks.length ≤ 6
      ·rw [if_pos hl]; exact hE.1
      ·rw [if_neg hl]
       refine ⟨fun h => ?_, fun _ => rfl⟩
       have := hE.2 h
       omega
     ·simp only [hn, if_false, false_and]
      exact zdu
    ·refine ⟨fun h => ?_, fun h => ?_⟩
     ·simp at h
      simp [h]
     ·rw [if_neg]
      rintro ⟨h1, h2⟩
      simp [h1, h2] at h
theorem zhc {data : List Dat} (h8 : ∀ D ∈ data, D.cons.length ≤ 8) : ∀ (vs : List IT) (ts : List VT) (a : Int), 0 ≤ a → (a ≤ 6 → agr (zbC data vs ts a) (rdA data vs ts a)) ∧ (6 < a → (zbC data vs ts a).2 = false)
 | [], ts, a, ha => by
  simp only [zbC, rdA]
  exact ⟨fun h => ⟨fun _ => ⟨rfl, ha, h⟩, fun h2 => by simp at h2; omega⟩, fun h => by simp; omega⟩
 | v :: vs, ts, a, ha => by
  match ts with
  | [] => simp only [zbC, rdA]; exact ⟨fun _ => zdu, fun _ => by trivial⟩
  | t :: ts =>
   obtain ⟨g1, g2⟩ := zfI h8 v t
   simp only [zbC, rdA]
   cases hb : (zb1 data v t).2 with
   | false =>
    rw [g2 hb]
    simp
    exact fun _ => zdu
   | true =>
    obtain ⟨e1, e2, e3⟩ := g1 hb
    rw [e1]
    have hn := zhc h8 vs ts (a + rdV data v t) (by omega)
    simp only [if_true]
    refine ⟨fun h => ?_, fun h => hn.2 (by omega)⟩
    by_cases h6 : a + rdV data v t > 6
    ·rw [if_pos (.inr h6)]
     exact ⟨fun h => (by rw [hn.2 (by omega)] at h; cases h), fun _ => rfl⟩
    ·rw [if_neg (by omega)]
     exact hn.1 (by omega)
theorem zlO {data : List Dat} (h8 : ∀ D ∈ data, D.cons.length ≤ 8) : ∀ (es : List IT) (t : VT) (a : Int), 0 ≤ a → a ≤ 6 → agr (zck data es t a) (rdE data es t a) ∧ ((zck data es t a).2 = true → a + es.length ≤ 6)
 | [], t, a, h0, h6 => by
  simp only [zck, rdE]
  exact ⟨⟨fun _ => ⟨rfl, h0, h6⟩, fun h => by cases h⟩, fun _ => by simpa using h6⟩
 | .mk c ks :: es, t, a, h0, h6 => by
  simp only [zck, rdE]
  cases hp : zbn data t c with
  | none => simp only [ite_self]; exact ⟨zdu, fun h => by cases h⟩
  | some ps =>
   obtain ⟨c0, c8⟩ := zAK h8 hp
   rw [if_neg (show ¬(c < 0 ∨ 8 ≤ c) by omega)]
   simp only
   by_cases hl : ps.length = ks.length
   ·simp only [hl, if_true]
    obtain ⟨g1, g2⟩ := (zhc h8 ks ps 0 (by omega)).1 (by omega)
    cases hb : (zbC data ks ps 0).2 with
    | false =>
     rw [g2 hb]
     simp
     exact zdu
    | true =>
     obtain ⟨e1, e2, e3⟩ := g1 hb
     rw [e1]
     by_cases hh : a + (1 + rdA data ks ps 0) ≤ 6
     ·have hn := zlO h8 es t (a + (1 + rdA data ks ps 0)) (by omega) hh
      rw [if_neg (show ¬(rdA data ks ps 0 < 0 ∨ a + 1 + rdA data ks ps 0 > 6) by omega)]
      simp only [hh, decide_true, Bool.and_self, if_true]
      refine ⟨hn.1, fun h => ?_⟩
      have := hn.2 h
      simp only [List.length_cons]
      omega
     ·rw [if_pos (show rdA data ks ps 0 < 0 ∨ a + 1 + rdA data ks ps 0 > 6 by omega)]
      simp [hh]
      exact zdu
   ·simp only [hl, if_false]
    exact ⟨zdu, fun h => by cases h⟩
end
end Go.Proofs.YtjkkonpjecoieaaGreat
namespace Go.Abs
open Go
def fill : List IT → List Nat → List IT → List IT
 | row, p :: ps, x :: xs => fill (row.set p x) ps xs
 | row, _, _ => row
@[simp] theorem zQB (row xs : List IT) : fill row [] xs = row := by cases xs <;> rfl
@[simp] theorem ze4 : ∀ (row : List IT) (ps : List Nat) (xs : List IT), (fill row ps xs).length = row.length
 | row, p :: ps, x :: xs => by rw [fill, ze4]; simp
 | row, [], _ => by simp [fill]
 | row, _ :: _, [] => by simp [fill]
theorem ze5 : ∀ (ps : List Nat) (row xs : List IT) (q : Nat), q ∉ ps → (fill row ps xs)[q]? = row[q]?
 | [], row, xs, q, _ => by simp
 | p :: ps, row, [], q, _ => by simp [fill]
 | p :: ps, row, x :: xs, q, h => by
  simp only [List.mem_cons, not_or] at h
  rw [fill, ze5 ps _ _ _ h.2, List.getElem?_set_ne (fun e => h.1 e.symm)]
theorem zma : ∀ (ps : List Nat) (row xs : List IT), ps.Nodup → xs.length = ps.length → (∀ p ∈ ps, p < row.length) → ∀ (k : Nat) (hk : k < ps.length) (hx : k < xs.length), (fill row ps xs)[ps[k]]? = some xs[k]
 | [], row, xs, _, _, _, k, hk, _ => by simp at hk
 | p :: ps, row, [], _, hl, _, k, _, hx => by simp at hx
 | p :: ps, row, x :: xs, h, hl, hp, k, hk, hx => by
  rw [List.nodup_cons] at h
  rw [fill]
  cases k with
  | zero =>
   simp only [List.getElem_cons_zero]
   rw [ze5 ps _ _ _ h.1, List.getElem?_set_self (hp p (by simp))]
  | succ k =>
   simp only [List.getElem_cons_succ]
   exact zma ps _ xs h.2 (by simpa using hl) (fun q hq => by simpa using hp q (by simp [hq])) k (by simpa using hk) (by simpa using hx)
def zcJ : List IT → Nat → List (List (List IT))
 | l, 0 => if l.isEmpty then [[]] else []
 | l, n + 1 => (List.range (l.length + 1)).flatMap fun k => (zcJ (l.drop k) n).map fun r => l.take k :: r
def zba : List IT → List Nat → List IT → List (List IT)
 | row, [], l => if l.isEmpty then [row] else []
 | row, p :: ps, l => (List.range (l.length + 1)).flatMap fun n => zba (row.set p (.mk 0 (l.take n))) ps (l.drop n)
theorem zfV : ∀ (ps : List Nat) (row l : List IT), zba row ps l = (zcJ l ps.length).map fun r => fill row ps (r.map (IT.mk 0))
 | [], row, l => by
  simp only [zba, List.length_nil, zcJ]
  split <;> simp
 | p :: ps, row, l => by
  simp only [zba, List.length_cons, zcJ, List.map_flatMap, List.map_map]
  congr 1
  funext n
  rw [zfV]
  rfl
theorem zny : ∀ (n : Nat) (l : List IT), ∀ r ∈ zcJ l n, r.length = n
 | 0, l, r, h => by
  simp only [zcJ] at h
  split at h <;> simp at h
  simp [h]
 | n + 1, l, r, h => by
  simp only [zcJ, List.mem_flatMap, List.mem_map] at h
  obtain ⟨k, _, r', h2, rfl⟩ := h
  simp [zny n _ r' h2]
theorem znx : ∀ (n : Nat) (l : List IT), ∀ r ∈ zcJ l n, r.flatten = l
 | 0, l, r, h => by
  simp only [zcJ] at h
  split at h <;> simp at h
  rename_i h2
  simp at h2
  simp [h, h2]
 | n + 1, l, r, h => by
  simp only [zcJ, List.mem_flatMap, List.mem_map] at h
  obtain ⟨k, _, r', h2, rfl⟩ := h
  simp [znx n _ r' h2]
theorem zmc {α β : Type} {N : Nat} (f : α → List β) : ∀ (l : List α), (∀ a ∈ l, (f a).length ≤ N) → (l.flatMap f).length ≤ l.length * N
 | [], _ => by simp
 | a :: l, h => by
  rw [List.flatMap_cons, List.length_append, List.length_cons, Nat.succ_mul]
  have h1 := h a (by simp)
  have h2 := zmc f l (fun b hb => h b (by simp [hb]))
  omega
theorem ztN : ∀ (n : Nat) (l : List IT), (zcJ l n).length ≤ (l.length + 1) ^ n
 | 0, l => by simp only [zcJ]; split <;> simp
 | n + 1, l => by
  rw [zcJ, Nat.pow_succ, Nat.mul_comm]
  refine Nat.le_trans (zmc (N := (l.length + 1) ^ n) _ _ fun k _ => ?_) (by simp)
  rw [List.length_map]
  refine Nat.le_trans (ztN n _) (Nat.pow_le_pow_left ?_ _)
  simp
def rle (x y : List IT) : Prop := ¬ IT.cmpL y x < 0
mutual
theorem IT.same_eq : ∀ v w : IT, IT.same v w = true → v = w
 | .mk n ks, .mk n' ks', h => by
  simp only [IT.same, Bool.and_eq_true, beq_iff_eq] at h
  rw [h.1, IT.sameL_eq ks ks' h.2]
theorem IT.sameL_eq : ∀ v w : List IT, IT.sameL v w = true → v = w
 | [], [], _ => rfl
 | v :: vs, w :: ws, h => by
  simp only [IT.sameL, Bool.and_eq_true] at h
  rw [IT.same_eq v w h.1, IT.sameL_eq vs ws h.2]
 | [], _ :: _, h => by simp [IT.sameL] at h
 | _ :: _, [], h => by simp [IT.sameL] at h
end
end Go.Abs
namespace Go.Proofs.YtjkkonpjecoieaaGreat
open Go Go.Abs
variable {data : List Dat}
theorem zAU {h8 : ∀ D ∈ data, D.cons.length ≤ 8} (v : IT) (t : VT) : -1 ≤ rdV data v t ∧ rdV data v t ≤ 6 := by
 obtain ⟨h1, h2⟩ := zfI h8 v t
 cases hb : (zb1 data v t).2 with
 | true => have := h1 hb; omega
 | false => have := h2 hb; omega
def ad (a r : Int) : Int := if r < 0 then -1 else if a + r > 6 then -1 else a + r
theorem ze0 {a r : Int} (h : 0 ≤ r) (h2 : a + r ≤ 6) : ad a r = a + r := by unfold ad; rw [if_neg (by omega), if_neg (by omega)]
theorem zcB {a r : Int} (h : r < 0 ∨ a + r > 6) : ad a r = -1 := by
 unfold ad
 by_cases h1 : r < 0
 ·rw [if_pos h1]
 ·rw [if_neg h1, if_pos (by omega)]
theorem zy6 {a b r : Int} (hb : 0 ≤ b) (ha : 0 ≤ a) : ad (a + b) r = ad a (ad b r) := by
 by_cases h1 : r < 0 ∨ b + r > 6
 ·rw [zcB (a := b) h1, zcB (a := a) (.inl (by omega)), zcB (by omega)]
 ·rw [ze0 (a := b) (by omega) (by omega)]
  by_cases h2 : a + (b + r) > 6
  ·rw [zcB (.inr h2), zcB (.inr (by omega))]
  ·rw [ze0 (by omega) (by omega), ze0 (by omega) (by omega), Int.add_assoc]
theorem ztw (v : IT) (vs : List IT) (t : VT) (ts : List VT) (a : Int) : rdA data (v :: vs) (t :: ts) a = if rdV data v t < 0 ∨ a + rdV data v t > 6 then -1 else rdA data vs ts (a + rdV data v t) := by simp only [rdA]
theorem zd6 (c : Int) (ks es : List IT) (t : VT) (a : Int) : rdE data (.mk c ks :: es) t a = if c < 0 ∨ 8 ≤ c then -1 else match zbn data t c with
  | none => -1
  | some ps => if ps.length = ks.length then (if rdA data ks ps 0 < 0 ∨ a + 1 + rdA data ks ps 0 > 6 then -1 else rdE data es t (a + (1 + rdA data ks ps 0))) else -1 := by simp only [rdE] <;> rfl
theorem zir : ∀ (es : List IT) (t : VT) (a : Int), 0 ≤ a → rdE data es t a = -1 ∨ a + es.length ≤ rdE data es t a
 | [], _, a, h => by simp [rdE]
 | .mk c ks :: es, t, a, h => by
  rw [zd6]
  by_cases hc : c < 0 ∨ 8 ≤ c
  ·rw [if_pos hc]; exact .inl rfl
  ·rw [if_neg hc]
   cases zbn data t c with
   | none => exact .inl rfl
   | some ps =>
    simp only
    by_cases hl : ps.length = ks.length
    ·rw [if_pos hl]
     by_cases h0 : rdA data ks ps 0 < 0 ∨ a + 1 + rdA data ks ps 0 > 6
     ·rw [if_pos h0]; exact .inl rfl
     ·rw [if_neg h0]
      rcases zir es t (a + (1 + rdA data ks ps 0)) (by omega) with h2 | h2
      ·exact .inl h2
      ·right; simp only [List.length_cons]; omega
    ·rw [if_neg hl]; exact .inl rfl
theorem znm : ∀ (es : List IT) (t : VT) (a : Int), 0 ≤ a → a ≤ 6 → rdE data es t a = ad a (rdE data es t 0)
 | [], _, a, h, h6 => by simp only [rdE]; rw [ze0 (by omega) (by omega), Int.add_zero]
 | .mk c ks :: es, t, a, h, h6 => by
  rw [zd6, zd6]
  by_cases hc : c < 0 ∨ 8 ≤ c
  ·rw [if_pos hc, if_pos hc, zcB (.inl (by omega))]
  ·rw [if_neg hc, if_neg hc]
   cases zbn data t c with
   | none => exact (zcB (a := a) (r := -1) (.inl (by omega))).symm
   | some ps =>
    simp only
    by_cases hl : ps.length = ks.length
    ·rw [if_pos hl, if_pos hl]
     by_cases h0 : rdA data ks ps 0 < 0 ∨ 0 + 1 + rdA data ks ps 0 > 6
     ·rw [if_pos h0, if_pos (by omega), zcB (.inl (by omega))]
     ·rw [if_neg h0, znm es t (0 + (1 + rdA data ks ps 0)) (by omega) (by omega), Int.zero_add]
      have g2 := zir (data := data) es t 0 (by omega)
      by_cases h3 : a + 1 + rdA data ks ps 0 > 6
      ·rw [if_pos (Or.inr h3)]
       generalize rdE data es t 0 = r at *
       by_cases h4 : r < 0 ∨ (1 + rdA data ks ps 0) + r > 6
       ·rw [zcB h4, zcB (.inl (by omega))]
       ·rw [ze0 (a := 1 + rdA data ks ps 0) (by omega) (by omega), zcB (.inr (by omega))]
      ·rw [if_neg (by omega), znm es t _ (by omega) (by omega), zy6 (by omega) h]
    ·rw [if_neg hl, if_neg hl, zcB (.inl (by omega))]
theorem ztA {h8 : ∀ D ∈ data, D.cons.length ≤ 8} (es : List IT) (t : VT) : rdE data es t 0 ≤ 6 := by
 have h := (zlO h8 es t 0 (by omega) (by omega)).1
 cases hb : (zck data es t 0).2 with
 | true => have := h.1 hb; omega
 | false => have := h.2 hb; omega
theorem zty (h8 : ∀ D ∈ data, D.cons.length ≤ 8) : ∀ (xs ys : List IT) (t : VT) (a : Int), 0 ≤ a → a ≤ 6 → rdE data (xs ++ ys) t a = (if rdE data xs t a < 0 then -1 else rdE data ys t (rdE data xs t a))
 | [], ys, t, a, h, _ => by
  rw [List.nil_append, if_neg (by simp only [rdE]; omega)]
  simp only [rdE]
 | .mk c ks :: es, ys, t, a, h, h6 => by
  rw [List.cons_append, zd6, zd6]
  by_cases hc : c < 0 ∨ 8 ≤ c
  ·rw [if_pos hc]; simp [hc]
  ·rw [if_neg hc]
   simp only [if_neg hc]
   cases zbn data t c with
   | none => simp
   | some ps =>
    simp only
    by_cases hl : ps.length = ks.length
    ·simp only [if_pos hl]
     by_cases h0 : rdA data ks ps 0 < 0 ∨ a + 1 + rdA data ks ps 0 > 6
     ·simp only [if_pos h0]; simp
     ·simp only [if_neg h0]
      exact zty h8 es ys t _ (by omega) (by omega)
    ·simp only [if_neg hl]; simp
end Go.Proofs.YtjkkonpjecoieaaGreat
namespace Go.Abs
open Go Go.RowKit
variable {P : Program}
def zs5 : Code → Array Oper
 | .region _ ops _ => ops
 | .seq a _ => zs5 a
 | _ => #[]
def opS : Op → Bool
 | .move _ => true
 | .fieldAddr _ _ _ => true
 | _ => false
def opT : Op → Bool
 | .move _ => true
 | .assign _ => true
 | .fieldAddr _ _ _ => true
 | .indexAddr _ _ _ => true
 | .load _ _ => true
 | .store _ _ _ => true
 | .buildSlice _ _ _ => true
 | .slice _ _ _ _ none => true
 | .call c => (match c.callee with
  | .builtin .append => true
  | .value (.func _) => true
  | _ => false)
 | _ => false
theorem ACalls.monoZ {H : zaa} {f : FuncId} {args : List AV} {K K' : AV → zaa → Prop} (h : ACalls P f args H K) (hk : ∀ r H', K r H' → K' r H') : ACalls P f args H K' :=
 fun B w G vs hH hv => (h B w G vs hH hv).mono fun _ _ ⟨v, r, H', G', h1, h2, h3, h4, h5⟩ => ⟨v, r, H', G', h1, h2, h3, h4, hk _ _ h5⟩
theorem zdN {x : Option AV} {d : Nat} {K K' : Nat → Prop} (hk : ∀ n, K n → K' n) (h : zby x d K) : zby x d K' := by
 unfold zby at h ⊢
 split at h
 ·exact hk _ h
 ·exact ⟨h.1, hk _ h.2⟩
 ·exact h
theorem zrs {u esz : Nat} {x : AV} {lo hi : Option AV} {K K' : AV → Prop} (hk : ∀ v, K v → K' v) (h : zaK u esz x lo hi K) : zaK u esz x lo hi K' := by
 unfold zaK at h ⊢
 split at h
 ·exact zdN (fun _ => zdN fun _ h => ⟨h.1, hk _ h.2⟩) h
 ·exact zdN (fun _ => zdN fun _ h => ⟨h.1, hk _ h.2⟩) h
 ·exact zdN (fun _ => zdN fun _ h => ⟨h.1, hk _ h.2⟩) h
 ·exact zdN (fun _ => zdN fun _ h => ⟨h.1, hk _ h.2⟩) h
 ·exact h
theorem zlT {o : Oper} {F : List AV} {H : zaa} {K K' : AV → zaa → Prop} (hT : opT o.op = true) (hk : ∀ v H', K v H' → K' v H') (h : aop P o F H K) : aop P o F H K' := by
 obtain ⟨dst, op, type, pos, after, guard⟩ := o
 cases op <;> simp only [opT] at hT <;> first | exact absurd hT (by decide) | skip
 case move x => exact hk _ _ h
 case assign x => exact hk _ _ h
 case fieldAddr s x i =>
  simp only [aop, isM, zbO] at h ⊢
  split at h
  ·split at h
   ·unfold zaf at h ⊢
    split at h
    ·exact hk _ _ h
    ·exact h
   ·exact h
  ·exact h
 case slice t x lo hi m =>
  cases m with
  | some m => exact absurd hT (by simp)
  | none =>
   simp only [aop, isM, zbO] at h ⊢
   split at h
   ·exact zrs (fun v => hk v _) h
   ·split at h
    ·exact zrs (fun v => hk v _) h
    ·exact h
   ·exact h
 case indexAddr t x i =>
  simp only [aop, isM, zbO] at h ⊢
  split at h
  ·unfold zaj at h ⊢
   split at h
   ·exact hk _ _ h
   ·exact h
  ·exact h
 case load t a =>
  simp only [aop, isM, zbO] at h ⊢
  split at h
  ·unfold zad at h ⊢
   split at h
   ·unfold za9 at h ⊢
    split at h
    ·exact ⟨h.1, hk _ _ h.2⟩
    ·split at h
     ·exact hk _ _ h
     ·exact h
   ·exact h
  ·exact h
 case store t a x =>
  simp only [aop, isM, zbO] at h ⊢
  split at h
  ·unfold zak at h ⊢
   split at h
   ·exact hk _ _ h
   ·exact h
  ·exact h
 case buildSlice t n ps =>
  simp only [aop, isM, zbO] at h ⊢
  split at h
  ·split at h
   ·unfold zaz at h ⊢
    split at h
    ·split at h
     ·exact hk _ _ h
     ·exact h
    ·exact h
   ·exact h
  ·exact h
 case call c =>
  obtain ⟨callee, args, ats⟩ := c
  simp only [aop, isM, zbO] at h ⊢
  cases callee with
  | invoke _ _ => exact absurd hT (by simp)
  | value f =>
   cases f with
   | func g =>
    simp only [ev, aCallV] at h ⊢
    split at h
    ·exact ACalls.monoZ h hk
    ·exact h
   | _ => exact absurd hT (by simp)
  | builtin b =>
   cases b <;> (try (simp at hT; done))
   case append =>
    simp only [zdO] at h ⊢
    split at h
    ·split at h
     ·split at h
      ·exact zrj hk h
      ·exact h
     ·exact h
    ·exact h
theorem sil {o : Oper} {F : List AV} {H : zaa} {K : AV → zaa → Prop} (hS : opS o.op = true) (h : aop P o F H K) :
  ∃ v, K v H ∧ ∀ (F' : List AV) (H' : zaa) (K' : AV → zaa → Prop), (∀ x ∈ o.op.operands, ev F x = ev F' x) → K' v H' → aop P o F' H' K' := by
 have hc := fun (F' : List AV) (H' : zaa) (K' : AV → zaa → Prop) (hx : ∀ x ∈ o.op.operands, ev F x = ev F' x) => (zlS (P := P) (H := H') (K := K') hx)
 obtain ⟨dst, op, type, pos, after, guard⟩ := o
 cases op <;> simp only [opS] at hS <;> first | exact absurd hS (by decide) | skip
 case move x =>
  refine ⟨ev F x, h, fun F' H' K' hx hk => ?_⟩
  rw [← hc F' H' K' hx]
  exact hk
 case fieldAddr s x i =>
  simp only [aop, isM, zbO] at h
  split at h
  ·rename_i f hf
   split at h
   ·rename_i n hn
    unfold zaf at h
    split at h
    ·rename_i v hv
     refine ⟨v, h, fun F' H' K' hx hk => ?_⟩
     rw [← hc F' H' K' hx]
     simp only [aop, isM, zbO, hf, hn, zaf, hv]
     exact hk
    ·exact h.elim
   ·exact h.elim
  ·exact h.elim
def znC (ops : Array Oper) (i : Nat) : Bool := match ops[i]? with
 | some o => opS o.op
 | none => false
def zfj (P : Program) (ops : Array Oper) (K : List AV → zaa → Prop) : Nat → Array Bool → List AV → zaa → Prop
 | 0, listed, F, H => (match Region.ready .any ops listed with
  | [] => K F H
  | _ => False)
 | n + 1, listed, F, H => (match Region.ready .any ops listed with
  | [] => K F H
  | i :: is => (match (i :: is).find? (znC ops) with
   | some j => (match ops[j]? with
    | some o => aop P o F H fun v H' => zfj P ops K n (listed.setIfInBounds j true) (za3 F o.dst v) H'
    | none => False)
   | none => zfK (i :: is) fun i => (match ops[i]? with
    | some o => aop P o F H fun v H' => zfj P ops K n (listed.setIfInBounds i true) (za3 F o.dst v) H'
    | none => False)))
theorem zhf {α : Type} {p : α → Prop} : ∀ {l : List α}, (∀ i ∈ l, p i) → zfK l p
 | [], _ => trivial
 | [i], h => h i (by simp)
 | i :: j :: l, h => ⟨h i (by simp), zhf fun k hk => h k (by simp [List.mem_cons.1 hk])⟩
theorem zno {ops : Array Oper} {listed : Array Bool} {i j : Nat} (hj : j ∈ Region.ready .any ops listed) (hne : j ≠ i) : j ∈ Region.ready .any ops (listed.setIfInBounds i true) := by
 obtain ⟨h1, o, ho, he⟩ := mem_ready.1 hj
 refine mem_ready.2 ⟨?_, o, ho, fun e hem hb => ?_⟩
 ·have : (listed.setIfInBounds i true)[j]? = listed[j]? := by rw [Array.getElem?_setIfInBounds]; rw [if_neg (fun h => hne h.symm)]
  rw [Array.getD_eq_getD_getElem?] at h1 ⊢
  rw [this]
  exact h1
 ·have h2 := he e hem hb
  rw [Array.getD_eq_getD_getElem?] at h2 ⊢
  rw [Array.getElem?_setIfInBounds]
  split
  ·rename_i h
   have hl : e.on < listed.size := by
    by_cases hl : e.on < listed.size
    ·exact hl
    ·rw [Array.getElem?_eq_none (by omega)] at h2
     cases h2
   subst h
   simp [hl]
  ·exact h2
theorem zs0 {ops : Array Oper} {listed : Array Bool} {i j : Nat} {o : Oper} (hi : i ∈ Region.ready .any ops listed) (hj : j ∈ Region.ready .any ops listed) (ho : ops[i]? = some o) : ¬ ∃ e ∈ o.after, Region.binds .any e = true ∧ e.on = j := by
 rintro ⟨e, he, hb, rfl⟩
 obtain ⟨_, o', ho', h1⟩ := mem_ready.1 hi
 obtain ⟨h2, _⟩ := mem_ready.1 hj
 rw [ho] at ho'
 obtain rfl := Option.some.inj ho'
 have h3 := h1 e he hb
 rw [Array.getD_eq_getD_getElem?] at h2 h3
 cases hx : listed[e.on]? with
 | none => rw [hx] at h3; cases h3
 | some b => rw [hx] at h2 h3; simp at h2 h3; rw [h2] at h3; cases h3
theorem zsc {ops : Array Oper} {listed : Array Bool} {i j : Nat} {oi oj : Oper} (hO : Ord ops) (hi : i ∈ Region.ready .any ops listed) (hj : j ∈ Region.ready .any ops listed) (hne : i ≠ j) (hoi : ops[i]? = some oi) (hoj : ops[j]? = some oj) (F : List AV) (v : AV) :
  ∀ x ∈ oi.op.operands, ev F x = ev (za3 F oj.dst v) x := by
 intro x hx
 cases x with
 | tmp t =>
  cases hd : oj.dst with
  | none => rfl
  | some d =>
   by_cases htd : t = d
   ·exfalso
    subst htd
    have hr : t ∈ zc5 ops oi := by
     simp only [zc5, List.mem_append, List.mem_filterMap]
     exact .inl ⟨.tmp t, by simpa using hx, rfl⟩
    by_cases hlt : j < i
    ·exact zs0 hi hj hoi (hO.before i j oi oj t hoi hoj hlt hd hr)
    ·exact zs0 hj hi hoj (hO.behind i j oi oj t hoi hoj (by omega) hd hr)
   ·simp only [ev, za3, List.getD_eq_getElem?_getD, List.getElem?_set]
    rw [if_neg (fun h => htd h.symm)]
 | _ => rfl
theorem zAQ {ops : Array Oper} {i j : Nat} {oi oj : Oper} (hO : Ord ops) (hne : i ≠ j) (hoi : ops[i]? = some oi) (hoj : ops[j]? = some oj) (F : List AV) (v u : AV) : za3 (za3 F oi.dst v) oj.dst u = za3 (za3 F oj.dst u) oi.dst v := by
 cases h1 : oi.dst with
 | none => rfl
 | some d =>
  cases h2 : oj.dst with
  | none => rfl
  | some e =>
   have hde : d ≠ e := fun h => hO.dst i j oi oj e hoi hoj hne h2 (by rw [h1, h])
   exact List.set_comm _ _ hde
theorem zA6 {ops : Array Oper} {K : List AV → zaa → Prop} (hO : Ord ops) (hN : ∀ (i : Nat) o, ops[i]? = some o → o.guard = none) (hT : ∀ (i : Nat) o, ops[i]? = some o → opT o.op = true) :
  ∀ (n : Nat) (listed : Array Bool) (F : List AV) (H : zaa) (i : Nat) (o : Oper), i ∈ Region.ready .any ops listed → ops[i]? = some o → opS o.op = true →
   aop P o F H (fun v H' => runT P ops K n (listed.setIfInBounds i true) (za3 F o.dst v) H') → runT P ops K (n + 1) listed F H := by
 intro n
 induction n with
 | zero =>
  intro listed F H i o hi ho hS h
  obtain ⟨v, hv, _⟩ := sil hS h
  have key : ∀ j ∈ Region.ready .any ops listed, j = i := fun j hj => by
   by_cases hne : j = i
   ·exact hne
   ·exfalso
    have hr := zno hj hne
    unfold runT at hv
    split at hv
    ·rename_i hnil; rw [hnil] at hr; cases hr
    ·exact hv
  unfold runT
  split
  ·rename_i hnil; rw [hnil] at hi; cases hi
  ·rename_i i0 is hr
   refine zhf fun j hj => ?_
   obtain rfl := key j (by rw [hr]; exact hj)
   simp only [ho, hN _ _ ho]
   exact h
 | succ n ih =>
  intro listed F H i o hi ho hS h
  obtain ⟨v, hv, hsil⟩ := sil hS h
  unfold runT
  split
  ·rename_i hnil; rw [hnil] at hi; cases hi
  ·rename_i i0 is hr
   refine zhf fun j hj => ?_
   have hj : j ∈ Region.ready .any ops listed := by rw [hr]; exact hj
   by_cases hne : j = i
   ·subst hne
    simp only [ho, hN _ _ ho]
    exact h
   ·obtain ⟨_, oj, hoj, _⟩ := mem_ready.1 hj
    simp only [hoj, hN _ _ hoj]
    have hr2 := zno hj hne
    unfold runT at hv
    split at hv
    ·rename_i hnil; rw [hnil] at hr2; cases hr2
    ·rename_i k0 ks hk
     have h1 := zhe hv j (by rw [← hk]; exact hr2)
     simp only [hoj, hN _ _ hoj] at h1
     rw [← zlS (zsc hO hj hi hne hoj ho F v)] at h1
     refine zlT (hT _ _ hoj) (fun u H' h2 => ?_) h1
     refine ih _ _ _ i o (zno hi (fun h => hne h.symm)) ho hS ?_
     refine hsil _ _ _ (zsc hO hi hj (fun h => hne h.symm) ho hoj F u) ?_
     rw [zAQ hO (fun h => hne h.symm) ho hoj F v u] at h2
     have e2 : (listed.setIfInBounds i true).setIfInBounds j true = (listed.setIfInBounds j true).setIfInBounds i true := Array.setIfInBounds_comm _ _ (fun h => hne h.symm)
     rw [e2] at h2
     exact h2
theorem zA4 {ops : Array Oper} {K : List AV → zaa → Prop} (hO : Ord ops) (hN : ∀ (i : Nat) o, ops[i]? = some o → o.guard = none) (hT : ∀ (i : Nat) o, ops[i]? = some o → opT o.op = true) :
  ∀ (n : Nat) (listed : Array Bool) (F : List AV) (H : zaa), zfj P ops K n listed F H → runT P ops K n listed F H := by
 intro n
 induction n with
 | zero => intro listed F H h; exact h
 | succ n ih =>
  intro listed F H h
  unfold zfj at h
  split at h
  ·rename_i hr
   unfold runT
   split
   ·exact h
   ·rename_i hr2; rw [hr] at hr2; cases hr2
  ·rename_i i0 is hr
   split at h
   ·rename_i j hj
    have hjm : j ∈ Region.ready .any ops listed := by rw [hr]; exact List.mem_of_find?_eq_some hj
    have hjs : znC ops j = true := List.find?_some hj
    split at h
    ·rename_i o ho
     unfold znC at hjs
     rw [ho] at hjs
     exact zA6 hO hN hT n listed F H j o hjm ho hjs (zlT (hT _ _ ho) (fun v H' h => ih _ _ _ h) h)
    ·exact h.elim
   ·unfold runT
    split
    ·rename_i hr2; rw [hr] at hr2; cases hr2
    ·rename_i k0 ks hr2
     rw [hr] at hr2
     obtain ⟨rfl, rfl⟩ := List.cons.inj hr2
     refine zhf fun j hj => ?_
     have h1 := zhe h j hj
     split at h1
     ·rename_i o ho
      simp only [ho, hN _ _ ho]
      exact zlT (hT _ _ ho) (fun v H' h => ih _ _ _ h) h1
     ·exact h1.elim
def okS (ops : Array Oper) : Bool := zdi ops && ops.toList.all fun o => o.guard.isNone && opT o.op
theorem zA5 {ops : Array Oper} {K : List AV → zaa → Prop} (h : okS ops = true) {n : Nat} {listed : Array Bool} {F : List AV} {H : zaa} (hs : zfj P ops K n listed F H) : runT P ops K n listed F H := by
 unfold okS at h
 rw [Bool.and_eq_true, List.all_eq_true] at h
 have mem : ∀ (i : Nat) o, ops[i]? = some o → o ∈ ops.toList := fun i o ho => List.mem_iff_getElem?.2 ⟨i, by simpa using ho⟩
 have h2 : ∀ (i : Nat) o, ops[i]? = some o → o.guard.isNone = true ∧ opT o.op = true := fun i o ho => by
  have := h.2 o (mem i o ho)
  simpa using this
 exact zA4 (zik h.1) (fun i o ho => by simpa using (h2 i o ho).1) (fun i o ho => (h2 i o ho).2) n listed F H hs
end Go.Abs
namespace Go.Proofs.YtjkkonpjecoieaaGreat
open Go Go.Abs
set_option maxRecDepth 100000
def zcM : Nat → List Bool
 | 13 => rl false [0,1,1,1,4,1,2,1,1,2,1,1,49,3,85]
 | 20 => rl false [7,1,5,1,1,1,2,1,83,3,48]
 | 27 => rl false [18,1,112,3,19]
 | 30 => rl false [18,1,3,1,108,3,4,2,13]
 | _ => []
noncomputable def zeJ : Code := Tryz.f17.body.getD .skip
noncomputable def zoH : List ResultVar := Tryz.f17.results.toList
def zjk (t0 t2 t7 t10 t12 t13 t15 t65 t66 t67 : AV) : List AV := t0 :: ux 1 (t2 :: ux 4 (t7 :: ux 2 (t10 :: ux 1 (t12 :: t13 :: ux 1 (t15 :: ux 49 (t65 :: t66 :: t67 :: ux 85 []))))))
def zFg : List Bool := zcM 13
noncomputable def zE9 : Code := zar [1, 1, 1, 1, 1, 1, 1, 1, 0, 1, 0, 0] zeJ
def zE6 (K : Kt) : AExit → List AV → zaa → Prop := zat tP zcM [1, 1, 1, 1, 1, 1, 1, 1, 0, 1, 0] zeJ (zay tP zoH K)
def zjn (t0 t2 t7 t10 t12 t13 t15 t65 t66 t67 : AV) (H : zaa) (K : Kt) : Prop := ALoop tP zE9 (zE6 K) (zjk t0 t2 t7 t10 t12 t13 t15 t65 t66 t67) H
def zjl (t7 t13 t15 t18 t102 t103 t104 : AV) : List AV := ux 7 (t7 :: ux 5 (t13 :: ux 1 (t15 :: ux 2 (t18 :: ux 83 (t102 :: t103 :: t104 :: ux 48 [])))))
def zFh : List Bool := zcM 20
noncomputable def zFa : Code := zar [1, 1, 1, 1, 1, 1, 1, 1, 1, 1, 0, 1, 0, 0, 1, 0, 0] zeJ
def zE7 (K : Kt) : AExit → List AV → zaa → Prop := zat tP zcM [1, 1, 1, 1, 1, 1, 1, 1, 1, 1, 0, 1, 0, 0, 1, 0] zeJ (zay tP zoH K)
def zvL (t7 t13 t15 t18 t102 t103 t104 : AV) (H : zaa) (K : Kt) : Prop := ALoop tP zFa (zE7 K) (zjl t7 t13 t15 t18 t102 t103 t104) H
def zgP (t18 t131 t132 t133 : AV) : List AV := ux 18 (t18 :: ux 112 (t131 :: t132 :: t133 :: ux 19 []))
def zvO : List Bool := zcM 27
noncomputable def zoG : Code := zar [1, 1, 1, 1, 1, 1, 1, 1, 1, 1, 1, 1, 0, 1, 0, 0] zeJ
def zvK (K : Kt) : AExit → List AV → zaa → Prop := zat tP zcM [1, 1, 1, 1, 1, 1, 1, 1, 1, 1, 1, 1, 0, 1, 0] zeJ (zay tP zoH K)
def zvM (t18 t131 t132 t133 : AV) (H : zaa) (K : Kt) : Prop := ALoop tP zoG (zvK K) (zgP t18 t131 t132 t133) H
def zjm (t18 t22 t131 t132 t133 t138 t139 : AV) : List AV := ux 18 (t18 :: ux 3 (t22 :: ux 108 (t131 :: t132 :: t133 :: ux 4 (t138 :: t139 :: ux 13 []))))
def zFi : List Bool := zcM 30
noncomputable def zFb : Code := zar [1, 1, 0, 0, 1, 1, 0, 0] zoG
def zE8 (K : Kt) (Kb27 : Lt) : AExit → List AV → zaa → Prop := zat tP zcM [1, 1, 0, 0, 1, 1, 0] zoG (zbF zvO Kb27 (zvK K))
def zvN (t18 t22 t131 t132 t133 t138 t139 : AV) (H : zaa) (K : Kt) (Kb27 : Lt) : Prop := ALoop tP zFb (zE8 K Kb27) (zjm t18 t22 t131 t132 t133 t138 t139) H
def zoF (t18 t22 t131 t132 t133 t138 t139 : AV) (H : zaa) (K : Kt) (Kb27 : Lt) (Kb30 : Lt) : Prop :=
 zac .lss false t139 t138 fun t140 =>
 zag t140
 (zaj 2 t22 t139 fun t146 =>
 zad true 2 t146 H fun t147 =>
 ACalls tP zhY [t147] H fun t148 H =>
 zaj 2 t22 t139 fun t149 =>
 zak 2 t149 t148 H fun H =>
 zac .add false t139 (.int .i64 1) fun t150 =>
 Kb30 (zjm t18 t22 t131 t132 t133 t138 t150) H)
 (zac .add false t133 (.int .i64 1) fun t151 =>
 Kb27 (zgP t18 t131 t132 t151) H)
def zoE (t18 t131 t132 t133 : AV) (H : zaa) (K : Kt) (Kb27 : Lt) : Prop :=
 zac .lss false t133 t132 fun t134 =>
 zag t134
 (zaj 1 t131 t133 fun t135 =>
 zad false 1 t135 H fun t136 =>
 zah 1 t136 fun t138 =>
 zvN t18 t136 t131 t132 t133 t138 (.int .i64 0) H K Kb27)
 (zaA [t18, (.int .i64 0)] (K · H))
def zgQ (t18 : AV) (H : zaa) (K : Kt) : Prop :=
 ACalls tP zAp [t18, (.fn zm4 [])] H fun t130 H =>
 zah 1 t18 fun t132 =>
 zvM t18 t18 t132 (.int .i64 0) H K
def zoD (t7 t13 t15 t18 t102 t103 t104 : AV) (H : zaa) (K : Kt) (Kb20 : Lt) : Prop :=
 zac .lss false t104 t103 fun t105 =>
 zag t105
 (zaj 1 t102 t104 fun t107 =>
 zad false 1 t107 H fun t108 =>
 zaf 1 t7 fun t111 =>
 zad false 1 t111 H fun t112 =>
 zaj 2 t112 (.int .i64 0) fun t113 =>
 zaf 1 t113 fun t114 =>
 zad false 1 t114 H fun t115 =>
 zaj 2 t115 t104 fun t117 =>
 zad true 2 t117 H fun t118 =>
 zaj 2 t15 t108 fun t119 =>
 zak 2 t119 t118 H fun H =>
 zac .add false t104 (.int .i64 1) fun t120 =>
 Kb20 (zjl t7 t13 t15 t18 t102 t103 t120) H)
 (zaf 1 t7 fun t124 =>
 zad false 1 t124 H fun t125 =>
 zaK 1 2 t125 (some (.int .i64 1)) none fun t126 =>
 ACalls tP zeA [t15, t13, t126] H fun t127 H =>
 zax zbJ 1 24 t18 t127 H fun t128 H =>
 zgQ t128 H K)
def zoC (t0 t2 t7 t10 t12 t13 t15 t65 t66 t67 : AV) (H : zaa) (K : Kt) (Kb13 : Lt) : Prop :=
 zac .lss false t67 t66 fun t68 =>
 zag t68
 (zaj 1 t65 t67 fun t69 =>
 zad false 1 t69 H fun t70 =>
 zaj 3 t10 t70 fun t77 =>
 zad true 3 t77 H fun t78 =>
 ACalls tP zmZ [t0, t78] H fun t79 H =>
 zav t79 0 fun t80 =>
 zav t79 1 fun t81 =>
 zaj 2 t15 t70 fun t82 =>
 zak 2 t82 t80 H fun H =>
 zac .add false t67 (.int .i64 1) fun t83 =>
 Kb13 (zjk t0 t2 t7 t10 t12 t13 t15 t65 t66 t83) H)
 (zaf 1 t7 fun t86 =>
 zad false 1 t86 H fun t87 =>
 ACalls tP zeA [t15, t13, t87] H fun t88 H =>
 zaf 1 t7 fun t89 =>
 zad false 1 t89 H fun t90 =>
 zah 1 t90 fun t91 =>
 zac .gtr false t91 (.int .i64 0) fun t92 =>
 zab t92 true H (fun K' => zaf 1 t7 (K' · H)) fun t94 H =>
 zab t92 true H (fun K' => zad false 1 t94 H (K' · H)) fun t95 H =>
 zab t92 true H (fun K' => zaj 2 t95 (.int .i64 0) (K' · H)) fun t96 H =>
 zab t92 true H (fun K' => zaf 0 t96 (K' · H)) fun t97 H =>
 zab t92 true H (fun K' => zad false 1 t97 H (K' · H)) fun t98 H =>
 zab t92 true H (fun K' => K' t2 H) fun t99 H =>
 zab t92 true H (fun K' => zac .eql false t98 t99 (K' · H)) fun t100 H =>
 zai t92 t100 (.bool false) fun t101 =>
 zag t101
 (zah 1 t12 fun t103 =>
 zvL t7 t13 t15 t88 t12 t103 (.int .i64 0) H K)
 (zgQ t88 H K))
def zvr (t0 t1 t2 t3 : AV) (H : zaa) (K : Kt) : Prop :=
 zap t1 H fun t5 H =>
 zap t3 H fun t7 H =>
 zad true 3 t5 H fun t25 =>
 zad true 2 t7 H fun t26 =>
 ACalls tP zm2 [t0, t25, t26] H fun t27 H =>
 aUn .not t27 fun t28 =>
 zag t28
 (zaA [.snil, (.int .i64 1)] (K · H))
 (zaf 0 t5 fun t29 =>
 zad false 1 t29 H fun t30 =>
 zac .neq false t30 (.int .i64 5) fun t31 =>
 zag t31
 (zaA [.snil, (.int .i64 6)] (K · H))
 (zac .lss false t2 (.int .i64 0) fun t33 =>
 zab t33 false H (fun K' => K' t2 H) fun t35 H =>
 zab t33 false H (fun K' => K' t0 H) fun t36 H =>
 zab t33 false H (fun K' => zaf 1 t5 (K' · H)) fun t37 H =>
 zab t33 false H (fun K' => zad false 1 t37 H (K' · H)) fun t38 H =>
 zab t33 false H (fun K' => zaj 3 t36 t38 (K' · H)) fun t39 H =>
 zab t33 false H (fun K' => zaf 2 t39 (K' · H)) fun t40 H =>
 zab t33 false H (fun K' => zad false 1 t40 H (K' · H)) fun t41 H =>
 zab t33 false H (fun K' => zah 1 t41 (K' · H)) fun t42 H =>
 zab t33 false H (fun K' => zac .geq false t35 t42 (K' · H)) fun t43 H =>
 zai t33 (.bool true) t43 fun t44 =>
 zag t44
 (zaA [.snil, (.int .i64 8)] (K · H))
 (zad true 3 t5 H fun t47 =>
 ACalls tP zfc [t0, t47, t2] H fun t49 H =>
 zav t49 0 fun t50 =>
 zav t49 1 fun t51 =>
 aUn .not t51 fun t53 =>
 zag t53
 (zaA [.snil, (.int .i64 0)] (K · H))
 (zad true 3 t5 H fun t56 =>
 ACalls tP zm3 [t0, t56, t2] H fun t58 H =>
 zav t58 0 fun t59 =>
 zav t58 1 fun t60 =>
 zav t58 2 fun t61 =>
 zah 1 t50 fun t63 =>
 zbe 32 [(.int .i64 0), .snil] t63 t63 H fun t64 H =>
 zah 1 t59 fun t66 =>
 zjn t0 t2 t7 t50 t59 t60 t64 t59 t66 (.int .i64 0) H K))))
theorem zFf {t18 t22 t131 t132 t133 t138 t139 : AV} {H : zaa} {K : Kt} {Kb27 : Lt} (Inv : Nat → AV → zaa → Prop) (n : Nat) (h0 : HSc H → Inv n t139 H)
  (round : Rd1 (fun t139 => zjm t18 t22 t131 t132 t133 t138 t139) (fun t139 => fun H Kb30 => zoF t18 t22 t131 t132 t133 t138 t139 H K Kb27 Kb30) H Inv) : zvN t18 t22 t131 t132 t133 t138 t139 H K Kb27 :=
 lp1 (M := zcM) zFi t139 (by kernel_rfl) Inv n h0 round
theorem zFe {t18 t131 t132 t133 : AV} {H : zaa} {K : Kt} (Inv : Nat → AV → zaa → Prop) (n : Nat) (h0 : HSc H → Inv n t133 H)
  (round : Rd1 (fun t133 => zgP t18 t131 t132 t133) (fun t133 => fun H Kb27 => zoE t18 t131 t132 t133 H K Kb27) H Inv) : zvM t18 t131 t132 t133 H K :=
 lp1 (M := zcM) zvO t133 (by kernel_rfl) Inv n h0 round
theorem zFd {t7 t13 t15 t18 t102 t103 t104 : AV} {H : zaa} {K : Kt} (Inv : Nat → AV → zaa → Prop) (n : Nat) (h0 : HSc H → Inv n t104 H)
  (round : Rd1 (fun t104 => zjl t7 t13 t15 t18 t102 t103 t104) (fun t104 => fun H Kb20 => zoD t7 t13 t15 t18 t102 t103 t104 H K Kb20) H Inv) : zvL t7 t13 t15 t18 t102 t103 t104 H K :=
 lp1 (M := zcM) zFh t104 (by kernel_rfl) Inv n h0 round
theorem zFc {t0 t2 t7 t10 t12 t13 t15 t65 t66 t67 : AV} {H : zaa} {K : Kt} (Inv : Nat → AV → zaa → Prop) (n : Nat) (h0 : HSc H → Inv n t67 H)
  (round : Rd1 (fun t67 => zjk t0 t2 t7 t10 t12 t13 t15 t65 t66 t67) (fun t67 => fun H Kb13 => zoC t0 t2 t7 t10 t12 t13 t15 t65 t66 t67 H K Kb13) H Inv) : zjn t0 t2 t7 t10 t12 t13 t15 t65 t66 t67 H K :=
 lp1 (M := zcM) zFg t67 (by kernel_rfl) Inv n h0 round
theorem zFj {t0 t1 t2 t3 : AV} {H : zaa} {K : Kt} (h : HSc H → zvr t0 t1 t2 t3 H K) : ACalls tP zgf [t0, t1, t2, t3] H K :=
 zam (M := zcM) Tryz.func17 (c := zeJ) (by kernel_rfl) (fun hs => Eq.mpr (by kernel_rfl) (h hs))
def zeQ : Nat → List Bool
 | 300004 => rl false [0,1]
 | 7 => rl false [0,3,4,1,13,2,24]
 | 200011 => rl false [0,14]
 | 100012 => rl false [0,3,4,1,13,2,24]
 | _ => []
noncomputable def zpW : Code := Tryz.f47.body.getD .skip
noncomputable def zJW : List ResultVar := Tryz.f47.results.toList
def zku (t0 t1 t2 t7 t21 t22 : AV) : List AV := t0 :: t1 :: t2 :: ux 4 (t7 :: ux 13 (t21 :: t22 :: ux 24 []))
def zxA : List Bool := zeQ 7
noncomputable def zkt : Code := zar [1, 1, 1, 0, 1, 0, 0] zpW
def zxx (K : Kt) : AExit → List AV → zaa → Prop := zat tP zeQ [1, 1, 1, 0, 1, 0] zpW (zay tP zJW K)
def zkv (t0 t1 t2 t7 t21 t22 : AV) (H : zaa) (K : Kt) : Prop := ALoop tP zkt (zxx K) (zku t0 t1 t2 t7 t21 t22) H
noncomputable def zxz : Code := zar [1, 1, 1] zkt
def zxy (K : Kt) (Kb7 : Lt) : AExit → List AV → zaa → Prop := zat tP zeQ [1, 1, 1] zkt (zbF zxA Kb7 (zxx K))
def zJT (t0 t1 t2 t7 t21 t22 : AV) (H : zaa) (K : Kt) (Kb7 : Lt) : Prop := AWp tP zxz (zxy K Kb7) (t0 :: t1 :: t2 :: ux 4 (t7 :: ux 13 (t21 :: t22 :: ux 24 []))) H
def zpX (t0 t1 t2 t7 t21 t22 : AV) (H : zaa) (K : Kt) (Kb7 : Lt) : Prop :=
 zac .add false t22 (.int .i64 1) fun t45 =>
 Kb7 (zku t0 t1 t2 t7 t21 t45) H
noncomputable def zpY : Array Oper := zs5 (zar [1, 1, 0, 0, 1, 1, 1] zkt)
def zpV (t0 t1 t2 t7 t21 t22 : AV) (H : zaa) (K : Kt) (Kb7 : Lt) : Prop :=
 zac .lss false t22 t21 fun t23 =>
 zag t23
 (ACalls tP zic [t0] H fun t26 H =>
 zae H (fun K' => K' t26 H) fun t27 =>
 zae H (fun K' => K' t1 H) fun t28 =>
 zae H (fun K' => zaj 1 t28 (.int .i64 0) (K' · H)) fun t29 =>
 zae H (fun K' => zal false 1 t29 H (K' · H)) fun t30 =>
 zae H (fun K' => K' t2 H) fun t31 =>
 zae H (fun K' => K' t22 H) fun t32 =>
 zae H (fun K' => zaK 1 2 t31 none (some t32) (K' · H)) fun t33 =>
 zae H (fun K' => zaC [(.int .i64 0), .snil] [(0, 1), (1, 1)] [(1, t33)] (K' · H)) fun t34 =>
 zae H (fun K' => zaj 2 t27 t30 (K' · H)) fun t35 =>
 zak 2 t35 t34 H fun H =>
 Go.Abs.runT tP zpY (fun F H => AWp tP zxz (zxy K Kb7) (zd2 (zeQ 100012) F) H) 10 (zec 0 10) (t0 :: t1 :: t2 :: ux 4 (t7 :: t22 :: t26 :: ux 11 (t21 :: t22 :: t23 :: t22 :: t0 :: t26 :: t27 :: t28 :: t29 :: t30 :: t31 :: t32 :: t33 :: t34 :: t35 :: ux 11 []))) H)
 (K t7 H)
def zks (t0 t1 t2 : AV) (H : zaa) (K : Kt) : Prop :=
 zah 1 t1 fun t11 =>
 zac .eql false t11 (.int .i64 0) fun t12 =>
 zag t12
 (zah 1 t2 fun t14 =>
 zac .gtr false t14 (.int .i64 0) fun t15 =>
 zag t15
 (K .snil H)
 (ACalls tP zic [t0] H fun t17 H =>
 zeW zbJ 1 1 [(0, t17)] H fun t18 H =>
 K t18 H))
 (zah 1 t2 fun t20 =>
 zac .add false t20 (.int .i64 1) fun t21 =>
 zkv t0 t1 t2 .snil t21 (.int .i64 0) H K)
theorem zJU {t0 t1 t2 t7 t21 t22 : AV} {H : zaa} {K : Kt} {Kb7 : Lt} (h : HSc H → zpX t0 t1 t2 t7 t21 t22 H K Kb7) : zJT t0 t1 t2 t7 t21 t22 H K Kb7 :=
 fun B w G a hH hF hd => zen (M := zeQ) _ _ _ _ (Eq.mpr (by kernel_rfl) (h hH.sc)) B w G a hH hF hd
theorem zJX (t0 t1 t2 t7 t22 t26 t21 t23 t27 t28 t29 t30 t31 t32 t33 t34 t35 : AV) (H : zaa) (KF : List AV → zaa → Prop) : zfj tP zpY KF 10 (zec 0 10) (t0 :: t1 :: t2 :: ux 4 (t7 :: t22 :: t26 :: ux 11 (t21 :: t22 :: t23 :: t22 :: t0 :: t26 :: t27 :: t28 :: t29 :: t30 :: t31 :: t32 :: t33 :: t34 :: t35 :: ux 11 []))) H = (
 (zaK 1 1 t1 (some (.int .i64 1)) none fun t39 =>
 zaK 1 2 t2 (some t22) none fun t42 =>
 ACalls tP zeA [t26, t39, t42] H fun t43 H =>
 zax zbJ 1 24 t7 t43 H fun t44 H =>
 KF (t0 :: t1 :: t2 :: ux 4 (t44 :: t22 :: t26 :: ux 11 (t21 :: t22 :: t23 :: t22 :: t0 :: t26 :: t27 :: t28 :: t29 :: t30 :: t31 :: t32 :: t33 :: t34 :: t35 :: t7 :: t26 :: t1 :: t39 :: t2 :: t22 :: t42 :: t43 :: t44 :: ux 2 []))) H) ∧ (zaK 1 2 t2 (some t22) none fun t42 =>
 zaK 1 1 t1 (some (.int .i64 1)) none fun t39 =>
 ACalls tP zeA [t26, t39, t42] H fun t43 H =>
 zax zbJ 1 24 t7 t43 H fun t44 H =>
 KF (t0 :: t1 :: t2 :: ux 4 (t44 :: t22 :: t26 :: ux 11 (t21 :: t22 :: t23 :: t22 :: t0 :: t26 :: t27 :: t28 :: t29 :: t30 :: t31 :: t32 :: t33 :: t34 :: t35 :: t7 :: t26 :: t1 :: t39 :: t2 :: t22 :: t42 :: t43 :: t44 :: ux 2 []))) H)) := by kernel_rfl
theorem zJY : okS zpY = true := by kernel_rfl
theorem zJV {t0 t1 t2 t7 t21 t22 : AV} {H : zaa} {K : Kt} (Inv : Nat → AV → AV → zaa → Prop) (n : Nat) (h0 : HSc H → Inv n t7 t22 H)
  (round : Rd2 (fun t7 => fun t22 => zku t0 t1 t2 t7 t21 t22) (fun t7 => fun t22 => fun H Kb7 => zpV t0 t1 t2 t7 t21 t22 H K Kb7) H Inv) : zkv t0 t1 t2 t7 t21 t22 H K :=
 lp2 (M := zeQ) zxA t7 t22 (by kernel_rfl) Inv n h0 round
theorem zxB {t0 t1 t2 : AV} {H : zaa} {K : Kt} (h : HSc H → zks t0 t1 t2 H K) : ACalls tP zeA [t0, t1, t2] H K :=
 zam (M := zeQ) Tryz.func47 (c := zpW) (by kernel_rfl) (fun hs => Eq.mpr (by kernel_rfl) (h hs))
def zM5 : Nat → List Bool
 | 300001 => rl false [0,1]
 | _ => []
noncomputable def zM6 : Code := Tryz.f92.body.getD .skip
def zlw (t0 : AV) (H : zaa) (K : Kt) : Prop :=
 zeZ true .eql t0 fun t4 =>
 zag t4
 (K .snil H)
 (zaz 2 [(.int .i64 0), .snil] 0 [] fun t5 =>
 zax zbK 2 32 t5 t0 H fun t7 H =>
 K t7 H)
theorem zM7 {t0 : AV} {H : zaa} {K : Kt} (h : HSc H → zlw t0 H K) : ACalls tP zic [t0] H K :=
 zam (M := zM5) Tryz.func92 (c := zM6) (by kernel_rfl) (fun hs => Eq.mpr (by kernel_rfl) (h hs))
end Go.Proofs.YtjkkonpjecoieaaGreat
namespace Go.Proofs.YtjkkonpjecoieaaGreat
open Go Go.Abs
set_option maxRecDepth 8000
def RowA (H : zaa) (a : AV) (n : Nat) (ds : List AV) : Prop :=
 ds.length = n * 2 ∧ ds.all AV.known = true ∧ ((∃ id, a = .ms id 0 n n ∧ H[id]? = some (.cells ds)) ∨ (0 < n ∧ ∃ id e, a = .ov id n ∧ H[id]? = some (.vec e 2 n ds)))
theorem RowA.app {H J : zaa} {a : AV} {n : Nat} {ds : List AV} (h : RowA H a n ds) : RowA (H ++ J) a n ds := by
 obtain ⟨h1, h2, h3⟩ := h
 refine ⟨h1, h2, ?_⟩
 rcases h3 with ⟨id, rfl, h⟩ | ⟨h0, id, e, rfl, h⟩
 ·exact .inl ⟨id, rfl, by rw [List.getElem?_append_left (List.getElem?_eq_some_iff.1 h).1]; exact h⟩
 ·exact .inr ⟨h0, id, e, rfl, by rw [List.getElem?_append_left (List.getElem?_eq_some_iff.1 h).1]; exact h⟩
theorem zt0 {H : zaa} {a : AV} {n : Nat} {ds : List AV} (hr : RowA H a n ds) (hn : n ≤ 1000000) (K : Kt) (h0 : n = 0 → K (.sl [] .none) H) (h1 : 0 < n → K (.ov H.length n) (H ++ [.vec zbK 2 n ds])) :
  ACalls tP zic [a] H K := by
 refine zM7 fun hs => ?_
 obtain ⟨hl, hk, hr⟩ := hr
 cases n with
 | zero =>
  rcases hr with ⟨id, rfl, h⟩ | ⟨h, _⟩
  ·have hds : ds = [] := by cases ds <;> simp_all
   subst hds
   simp [zlw, zeZ, zet, zaz, zbq, zaD, AV.pd, zax, zcd, h]
   exact h0 rfl
  ·omega
 | succ n =>
  have hkk := h1 (by omega)
  rcases hr with ⟨id, rfl, h⟩ | ⟨_, id, e, rfl, h⟩
  ·simp [zlw, zeZ, zet, zaz, zbq, zaD, AV.pd, zax, zcd, h]
   have ht : List.take ((n + 1) * 2) ds = ds := List.take_of_length_le (by omega)
   rw [ht]
   refine ⟨by omega, ⟨by simpa using hk, by omega, by omega, by omega⟩, hkk⟩
  ·simp [zlw, zeZ, zet, zaz, zbq, zaD, AV.pd, zax, zcd, h]
   refine ⟨⟨by simpa using hk, by omega, by omega, by omega⟩, hkk⟩
end Go.Proofs.YtjkkonpjecoieaaGreat
namespace Go.Proofs.YtjkkonpjecoieaaGreat
open Go Go.Abs
set_option maxRecDepth 100000
def zk7 : Nat → List Bool
 | 4 => rl false [2,2,6,3,12]
 | _ => []
noncomputable def zqx : Code := Tryz.f74.body.getD .skip
noncomputable def zLM : List ResultVar := Tryz.f74.results.toList
def zk8 (t2 t3 t10 t11 t12 : AV) : List AV := ux 2 (t2 :: t3 :: ux 6 (t10 :: t11 :: t12 :: ux 12 []))
def zLK : List Bool := zk7 4
noncomputable def zLI : Code := zar [1, 1, 0, 1, 0, 1, 0, 0] zqx
def zLH (K : Kt) : AExit → List AV → zaa → Prop := zat tP zk7 [1, 1, 0, 1, 0, 1, 0] zqx (zay tP zLM K)
def zla (t2 t3 t10 t11 t12 : AV) (H : zaa) (K : Kt) : Prop := ALoop tP zLI (zLH K) (zk8 t2 t3 t10 t11 t12) H
def zk9 (t2 t3 : AV) (H : zaa) (K : Kt) : Prop :=
 zad true 2 t3 H fun t24 =>
 zak 2 t2 t24 H fun H =>
 zad true 2 t2 H fun r0 =>
 K r0 H
def zqw (t2 t3 t10 t11 t12 : AV) (H : zaa) (K : Kt) (Kb4 : Lt) : Prop :=
 zac .lss false t12 t11 fun t13 =>
 zag t13
 (zaj 3 t10 t12 fun t14 =>
 zad true 3 t14 H fun t15 =>
 zaw [(.int .i64 0), (.int .i64 0), .snil] H fun t5 H =>
 zak 3 t5 t15 H fun H =>
 zae H (fun K' => zaf 1 t3 (K' · H)) fun t16 =>
 zae H (fun K' => zal false 1 t16 H (K' · H)) fun t17 =>
 zae H (fun K' => zal true 3 t5 H (K' · H)) fun t18 =>
 zaE H (fun H K' => ACalls tP zh2 [t18] H K') fun t19 =>
 zae H (fun K' => zaz 2 [(.int .i64 0), .snil] 1 [(0, t19)] (K' · H)) fun t20 =>
 zax zbK 2 32 t17 t20 H fun t21 H =>
 zae H (fun K' => zaf 1 t3 (K' · H)) fun t22 =>
 zak 1 t22 t21 H fun H =>
 zac .add false t12 (.int .i64 1) fun t23 =>
 Kb4 (zk8 t2 t3 t10 t11 t23) H)
 (zk9 t2 t3 H K)
def zye (t0 : AV) (H : zaa) (K : Kt) : Prop :=
 zap t0 H fun t1 H =>
 zaw [(.int .i64 0), .snil] H fun t2 H =>
 zaw [(.int .i64 0), .snil] H fun t3 H =>
 zaf 0 t1 fun t6 =>
 zad false 1 t6 H fun t7 =>
 zac .eql false t7 (.int .i64 6) fun t8 =>
 zag t8
 (zaf 2 t1 fun t9 =>
 zad false 1 t9 H fun t10 =>
 zah 1 t10 fun t11 =>
 zla t2 t3 t10 t11 (.int .i64 0) H K)
 (zk9 t2 t3 H K)
theorem zLJ {t2 t3 t10 t11 t12 : AV} {H : zaa} {K : Kt} (Inv : Nat → AV → zaa → Prop) (n : Nat) (h0 : HSc H → Inv n t12 H)
  (round : Rd1 (fun t12 => zk8 t2 t3 t10 t11 t12) (fun t12 => fun H Kb4 => zqw t2 t3 t10 t11 t12 H K Kb4) H Inv) : zla t2 t3 t10 t11 t12 H K :=
 lp1 (M := zk7) zLK t12 (by kernel_rfl) Inv n h0 round
theorem zLL {t0 : AV} {H : zaa} {K : Kt} (h : HSc H → zye t0 H K) : ACalls tP zh2 [t0] H K :=
 zam (M := zk7) Tryz.func74 (c := zqx) (by kernel_rfl) (fun hs => Eq.mpr (by kernel_rfl) (h hs))
def zky : Nat → List Bool
 | 3 => rl false [2,2,6,3,12]
 | _ => []
noncomputable def zp3 : Code := Tryz.f52.body.getD .skip
noncomputable def zKg : List ResultVar := Tryz.f52.results.toList
def zkz (t2 t3 t10 t11 t12 : AV) : List AV := ux 2 (t2 :: t3 :: ux 6 (t10 :: t11 :: t12 :: ux 12 []))
def zKe : List Bool := zky 3
noncomputable def zKc : Code := zar [1, 1, 0, 1, 0, 0] zp3
def zKb (K : Kt) : AExit → List AV → zaa → Prop := zat tP zky [1, 1, 0, 1, 0] zp3 (zay tP zKg K)
def zkA (t2 t3 t10 t11 t12 : AV) (H : zaa) (K : Kt) : Prop := ALoop tP zKc (zKb K) (zkz t2 t3 t10 t11 t12) H
def zp2 (t2 t3 t10 t11 t12 : AV) (H : zaa) (K : Kt) (Kb3 : Lt) : Prop :=
 zac .lss false t12 t11 fun t13 =>
 zag t13
 (zaj 2 t10 t12 fun t14 =>
 zad true 2 t14 H fun t15 =>
 zaw [(.int .i64 0), .snil] H fun t5 H =>
 zak 2 t5 t15 H fun H =>
 zae H (fun K' => zaf 1 t3 (K' · H)) fun t16 =>
 zae H (fun K' => zal false 1 t16 H (K' · H)) fun t17 =>
 zae H (fun K' => zal true 2 t5 H (K' · H)) fun t18 =>
 zaE H (fun H K' => ACalls tP zhY [t18] H K') fun t19 =>
 zae H (fun K' => zaz 2 [(.int .i64 0), .snil] 1 [(0, t19)] (K' · H)) fun t20 =>
 zax zbK 2 32 t17 t20 H fun t21 H =>
 zae H (fun K' => zaf 1 t3 (K' · H)) fun t22 =>
 zak 1 t22 t21 H fun H =>
 zac .add false t12 (.int .i64 1) fun t23 =>
 Kb3 (zkz t2 t3 t10 t11 t23) H)
 (zad true 2 t3 H fun t24 =>
 zak 2 t2 t24 H fun H =>
 zad true 2 t2 H fun r0 =>
 K r0 H)
def zxG (t0 : AV) (H : zaa) (K : Kt) : Prop :=
 zap t0 H fun t1 H =>
 zaw [(.int .i64 0), .snil] H fun t2 H =>
 zaf 0 t1 fun t6 =>
 zad false 1 t6 H fun t7 =>
 zaC [(.int .i64 0), .snil] [(0, 1), (1, 1)] [(0, t7)] fun t8 =>
 zaw [(.int .i64 0), .snil] H fun t3 H =>
 zak 2 t3 t8 H fun H =>
 zaf 1 t1 fun t9 =>
 zad false 1 t9 H fun t10 =>
 zah 1 t10 fun t11 =>
 zkA t2 t3 t10 t11 (.int .i64 0) H K
theorem zKd {t2 t3 t10 t11 t12 : AV} {H : zaa} {K : Kt} (Inv : Nat → AV → zaa → Prop) (n : Nat) (h0 : HSc H → Inv n t12 H)
  (round : Rd1 (fun t12 => zkz t2 t3 t10 t11 t12) (fun t12 => fun H Kb3 => zp2 t2 t3 t10 t11 t12 H K Kb3) H Inv) : zkA t2 t3 t10 t11 t12 H K :=
 lp1 (M := zky) zKe t12 (by kernel_rfl) Inv n h0 round
theorem zKf {t0 : AV} {H : zaa} {K : Kt} (h : HSc H → zxG t0 H K) : ACalls tP zhY [t0] H K :=
 zam (M := zky) Tryz.func52 (c := zp3) (by kernel_rfl) (fun hs => Eq.mpr (by kernel_rfl) (h hs))
def zNe (_ : Nat) : List Bool := []
noncomputable def zNf : Code := Tryz.f96.body.getD .skip
def zyC (t0 t1 : AV) (H : zaa) (K : Kt) : Prop :=
 ACalls tP zhG [t0] H fun t8 H =>
 ACalls tP zhG [t1] H fun t10 H =>
 zag t8
 (zag t10
 (K (.int .i64 0) H)
 (K (.int .i64 (-1)) H))
 (zag t10
 (K (.int .i64 1) H)
 (zac .lss false t0 t1 fun t16 =>
 zag t16
 (K (.int .i64 (-1)) H)
 (zac .gtr false t0 t1 fun t19 =>
 zag t19
 (K (.int .i64 1) H)
 (K (.int .i64 0) H))))
theorem zNg {t0 t1 : AV} {H : zaa} {K : Kt} (h : HSc H → zyC t0 t1 H K) : ACalls tP zid [t0, t1] H K :=
 zam (M := zNe) Tryz.func96 (c := zNf) (by kernel_rfl) (fun hs => Eq.mpr (by kernel_rfl) (h hs))
def zlx : Nat → List Bool
 | 3 => rl false [3,1,2,3,9]
 | _ => []
noncomputable def zq3 : Code := Tryz.f95.body.getD .skip
noncomputable def zNd : List ResultVar := Tryz.f95.results.toList
def zlz (t3 t6 t7 t8 : AV) : List AV := ux 3 (t3 :: ux 2 (t6 :: t7 :: t8 :: ux 9 []))
def zNb : List Bool := zlx 3
noncomputable def zM9 : Code := zar [1, 1, 0, 1, 0, 0] zq3
def zM8 (K : Kt) : AExit → List AV → zaa → Prop := zat tP zlx [1, 1, 0, 1, 0] zq3 (zay tP zNd K)
def zyB (t3 t6 t7 t8 : AV) (H : zaa) (K : Kt) : Prop := ALoop tP zM9 (zM8 K) (zlz t3 t6 t7 t8) H
def zly (t3 t6 t7 t8 : AV) (H : zaa) (K : Kt) (Kb3 : Lt) : Prop :=
 zac .lss false t8 t7 fun t9 =>
 zag t9
 (zaj 1 t6 t8 fun t10 =>
 zad false 1 t10 H fun t11 =>
 zac .neq false t11 t3 fun t14 =>
 zag t14
 (K t11 H)
 (zac .add false t8 (.int .i64 1) fun t16 =>
 Kb3 (zlz t3 t6 t7 t16) H))
 (K t3 H)
def zyA (t0 : AV) (H : zaa) (K : Kt) : Prop :=
 zah 1 t0 fun t7 =>
 zyB (.int .i64 0) t0 t7 (.int .i64 0) H K
theorem zNa {t3 t6 t7 t8 : AV} {H : zaa} {K : Kt} (Inv : Nat → AV → zaa → Prop) (n : Nat) (h0 : HSc H → Inv n t8 H)
  (round : Rd1 (fun t8 => zlz t3 t6 t7 t8) (fun t8 => fun H Kb3 => zly t3 t6 t7 t8 H K Kb3) H Inv) : zyB t3 t6 t7 t8 H K :=
 lp1 (M := zlx) zNb t8 (by kernel_rfl) Inv n h0 round
theorem zNc {t0 : AV} {H : zaa} {K : Kt} (h : HSc H → zyA t0 H K) : ACalls tP zna [t0] H K :=
 zam (M := zlx) Tryz.func95 (c := zq3) (by kernel_rfl) (fun hs => Eq.mpr (by kernel_rfl) (h hs))
def zEb (_ : Nat) : List Bool := []
noncomputable def zEc : Code := Tryz.f142.body.getD .skip
def zvh (t0 : AV) (H : zaa) (K : Kt) : Prop :=
 zac .neq false t0 t0 fun t5 =>
 K t5 H
theorem zEd {t0 : AV} {H : zaa} {K : Kt} (h : HSc H → zvh t0 H K) : ACalls tP zhG [t0] H K :=
 zam (M := zEb) Tryz.func142 (c := zEc) (by kernel_rfl) (fun hs => Eq.mpr (by kernel_rfl) (h hs))
def zJ8 (_ : Nat) : List Bool := []
noncomputable def zJ9 : Code := Tryz.f51.body.getD .skip
def zxF (t0 t1 : AV) (H : zaa) (K : Kt) : Prop :=
 zap t0 H fun t2 H =>
 zap t1 H fun t3 H =>
 zae H (fun K' => zaf 0 t2 (K' · H)) fun t6 =>
 zae H (fun K' => zal false 1 t6 H (K' · H)) fun t7 =>
 zae H (fun K' => zaf 0 t3 (K' · H)) fun t8 =>
 zae H (fun K' => zal false 1 t8 H (K' · H)) fun t9 =>
 zaE H (fun H K' => ACalls tP zid [t7, t9] H K') fun t10 =>
 zae H (fun K' => zaf 1 t2 (K' · H)) fun t11 =>
 zae H (fun K' => zal false 1 t11 H (K' · H)) fun t12 =>
 zae H (fun K' => zah 1 t12 (K' · H)) fun t13 =>
 zae H (fun K' => zaf 1 t3 (K' · H)) fun t14 =>
 zae H (fun K' => zal false 1 t14 H (K' · H)) fun t15 =>
 zae H (fun K' => zah 1 t15 (K' · H)) fun t16 =>
 zaE H (fun H K' => ACalls tP zid [t13, t16] H K') fun t17 =>
 zae H (fun K' => zaz 1 [(.int .i64 0)] 2 [(0, t10), (1, t17)] (K' · H)) fun t18 =>
 zaE H (fun H K' => ACalls tP zna [t18] H K') fun t19 =>
 zae H (fun K' => K' t19 H) fun t5 =>
 zac .neq false t5 (.int .i64 0) fun t21 =>
 zag t21
 (K t5 H)
 (zaf 1 t2 fun t23 =>
 zad false 1 t23 H fun t24 =>
 zaf 1 t3 fun t25 =>
 zad false 1 t25 H fun t26 =>
 ACalls tP zhX [t24, t26, (.fn zfd [])] H fun t27 H =>
 K t27 H)
theorem zKa {t0 t1 : AV} {H : zaa} {K : Kt} (h : HSc H → zxF t0 t1 H K) : ACalls tP zfd [t0, t1] H K :=
 zam (M := zJ8) Tryz.func51 (c := zJ9) (by kernel_rfl) (fun hs => Eq.mpr (by kernel_rfl) (h hs))
def zkw : Nat → List Bool
 | 2 => rl false [0,3,8,3,25]
 | _ => []
noncomputable def zp1 : Code := Tryz.f50.body.getD .skip
noncomputable def zJ7 : List ResultVar := Tryz.f50.results.toList
def zkx (t0 t1 t2 t11 t12 t13 : AV) : List AV := t0 :: t1 :: t2 :: ux 8 (t11 :: t12 :: t13 :: ux 25 [])
def zJ5 : List Bool := zkw 2
noncomputable def zJ3 : Code := zar [1, 0, 1, 0, 0] zp1
def zJ2 (K : Kt) : AExit → List AV → zaa → Prop := zat tP zkw [1, 0, 1, 0] zp1 (zay tP zJ7 K)
def zxE (t0 t1 t2 t11 t12 t13 : AV) (H : zaa) (K : Kt) : Prop := ALoop tP zJ3 (zJ2 K) (zkx t0 t1 t2 t11 t12 t13) H
def zp0 (t0 t1 t2 t11 t12 t13 : AV) (H : zaa) (K : Kt) (Kb2 : Lt) : Prop :=
 zac .lss false t13 t12 fun t14 =>
 zag t14
 (zaj 2 t11 t13 fun t16 =>
 zad true 2 t16 H fun t17 =>
 zaw [(.int .i64 0), .snil] H fun t8 H =>
 zak 2 t8 t17 H fun H =>
 zah 1 t1 fun t20 =>
 zac .geq false t13 t20 fun t21 =>
 zag t21
 (K (.int .i64 1) H)
 (zaj 2 t1 t13 fun t24 =>
 zad true 2 t24 H fun t25 =>
 zaw [(.int .i64 0), .snil] H fun t9 H =>
 zak 2 t9 t25 H fun H =>
 zad true 2 t8 H fun t27 =>
 zad true 2 t9 H fun t28 =>
 aCallV tP t2 [t27, t28] H fun t29 H =>
 zac .neq false t29 (.int .i64 0) fun t31 =>
 zag t31
 (K t29 H)
 (zac .add false t13 (.int .i64 1) fun t33 =>
 Kb2 (zkx t0 t1 t2 t11 t12 t33) H)))
 (zah 1 t0 fun t35 =>
 zah 1 t1 fun t37 =>
 zac .lss false t35 t37 fun t38 =>
 zag t38
 (K (.int .i64 (-1)) H)
 (K (.int .i64 0) H))
def zxD (t0 t1 t2 : AV) (H : zaa) (K : Kt) : Prop :=
 zah 1 t0 fun t12 =>
 zxE t0 t1 t2 t0 t12 (.int .i64 0) H K
theorem zJ4 {t0 t1 t2 t11 t12 t13 : AV} {H : zaa} {K : Kt} (Inv : Nat → AV → zaa → Prop) (n : Nat) (h0 : HSc H → Inv n t13 H)
  (round : Rd1 (fun t13 => zkx t0 t1 t2 t11 t12 t13) (fun t13 => fun H Kb2 => zp0 t0 t1 t2 t11 t12 t13 H K Kb2) H Inv) : zxE t0 t1 t2 t11 t12 t13 H K :=
 lp1 (M := zkw) zJ5 t13 (by kernel_rfl) Inv n h0 round
theorem zJ6 {t0 t1 t2 : AV} {H : zaa} {K : Kt} (h : HSc H → zxD t0 t1 t2 H K) : ACalls tP zhX [t0, t1, t2] H K :=
 zam (M := zkw) Tryz.func50 (c := zp1) (by kernel_rfl) (fun hs => Eq.mpr (by kernel_rfl) (h hs))
def zkn : Nat → List Bool
 | 7 => rl false [6,2,22,3,16]
 | _ => []
noncomputable def zpU : Code := Tryz.f46.body.getD .skip
noncomputable def zJR : List ResultVar := Tryz.f46.results.toList
def zkp (t6 t7 t30 t31 t32 : AV) : List AV := ux 6 (t6 :: t7 :: ux 22 (t30 :: t31 :: t32 :: ux 16 []))
def zJP : List Bool := zkn 7
noncomputable def zJN : Code := zar [1, 1, 1, 0, 1, 0, 0] zpU
def zJM (K : Kt) : AExit → List AV → zaa → Prop := zat tP zkn [1, 1, 1, 0, 1, 0] zpU (zay tP zJR K)
def zkr (t6 t7 t30 t31 t32 : AV) (H : zaa) (K : Kt) : Prop := ALoop tP zJN (zJM K) (zkp t6 t7 t30 t31 t32) H
def zxw (t6 t7 t30 t31 t32 : AV) (H : zaa) (K : Kt) (Kb7 : Lt) : Prop :=
 zac .add false t32 (.int .i64 1) fun t46 =>
 Kb7 (zkp t6 t7 t30 t31 t46) H
def zkq (t6 t7 t30 t31 t32 : AV) (H : zaa) (K : Kt) (Kb7 : Lt) : Prop :=
 zxw t6 t7 t30 t31 t32 H K Kb7
def zko (t6 t7 t30 t31 t32 : AV) (H : zaa) (K : Kt) (Kb7 : Lt) : Prop :=
 zac .lss false t32 t31 fun t33 =>
 zag t33
 (zaj 1 t30 t32 fun t35 =>
 zad false 1 t35 H fun t36 =>
 zag t36
 (zaz 1 [(.int .i64 0)] 1 [(0, t32)] fun t40 =>
 zax zbg 1 8 t7 t40 H fun t41 H =>
 zkq t6 t41 t30 t31 t32 H K Kb7)
 (zaz 1 [(.int .i64 0)] 1 [(0, t32)] fun t44 =>
 zax zbg 1 8 t6 t44 H fun t45 H =>
 zkq t45 t7 t30 t31 t32 H K Kb7))
 (zaA [t6, t7, (.bool true)] (K · H))
def zxv (t0 t1 t2 : AV) (H : zaa) (K : Kt) : Prop :=
 zap t1 H fun t4 H =>
 zad true 3 t4 H fun t14 =>
 ACalls tP zgr [t0, t14] H fun t15 H =>
 aUn .not t15 fun t16 =>
 zag t16
 (zaA [.snil, .snil, (.bool false)] (K · H))
 (zad true 3 t4 H fun t19 =>
 ACalls tP zfc [t0, t19, t2] H fun t21 H =>
 zav t21 0 fun t22 =>
 zav t21 1 fun t23 =>
 aUn .not t23 fun t25 =>
 zag t25
 (zaA [.snil, .snil, (.bool false)] (K · H))
 (zaf 1 t4 fun t27 =>
 zad false 1 t27 H fun t28 =>
 ACalls tP zdz [t0, t28, t2] H fun t30 H =>
 zah 1 t30 fun t31 =>
 zkr .snil .snil t30 t31 (.int .i64 0) H K))
theorem zJO {t6 t7 t30 t31 t32 : AV} {H : zaa} {K : Kt} (Inv : Nat → AV → AV → AV → zaa → Prop) (n : Nat) (h0 : HSc H → Inv n t6 t7 t32 H)
  (round : Rd3 (fun t6 => fun t7 => fun t32 => zkp t6 t7 t30 t31 t32) (fun t6 => fun t7 => fun t32 => fun H Kb7 => zko t6 t7 t30 t31 t32 H K Kb7) H Inv) : zkr t6 t7 t30 t31 t32 H K :=
 lp3 (M := zkn) zJP t6 t7 t32 (by kernel_rfl) Inv n h0 round
theorem zJQ {t0 t1 t2 : AV} {H : zaa} {K : Kt} (h : HSc H → zxv t0 t1 t2 H K) : ACalls tP zm3 [t0, t1, t2] H K :=
 zam (M := zkn) Tryz.func46 (c := zpU) (by kernel_rfl) (fun hs => Eq.mpr (by kernel_rfl) (h hs))
def zIz (_ : Nat) : List Bool := []
noncomputable def zIA : Code := Tryz.f31.body.getD .skip
def zw5 (t0 t1 : AV) (H : zaa) (K : Kt) : Prop :=
 zap t1 H fun t3 H =>
 zaw [(.int .i64 0), .snil] H fun t4 H =>
 zad true 3 t3 H fun t7 =>
 ACalls tP zgr [t0, t7] H fun t8 H =>
 aUn .not t8 fun t9 =>
 zag t9
 (zaC [(.int .i64 0), .snil] [(0, 1), (1, 1)] [] fun t10 =>
 zak 2 t4 t10 H fun H =>
 zad true 2 t4 H fun r0 =>
 zaA [r0, (.bool false)] (K · H))
 (zad true 3 t3 H fun t11 =>
 ACalls tP zh2 [t11] H fun t12 H =>
 zak 2 t4 t12 H fun H =>
 zad true 2 t4 H fun r0 =>
 zaA [r0, (.bool true)] (K · H))
theorem zIB {t0 t1 : AV} {H : zaa} {K : Kt} (h : HSc H → zw5 t0 t1 H K) : ACalls tP zmZ [t0, t1] H K :=
 zam (M := zIz) Tryz.func31 (c := zIA) (by kernel_rfl) (fun hs => Eq.mpr (by kernel_rfl) (h hs))
def zNB (_ : Nat) : List Bool := []
noncomputable def zNC : Code := Tryz.f101.body.getD .skip
def zyK (t0 t1 t2 : AV) (H : zaa) (K : Kt) : Prop :=
 zap t1 H fun t4 H =>
 zad true 3 t4 H fun t13 =>
 ACalls tP zhH [t0, t13, t2] H fun t15 H =>
 zav t15 0 fun t16 =>
 zav t15 1 fun t17 =>
 zav t15 2 fun t18 =>
 zaA [t16, t17] (K · H)
theorem zND {t0 t1 t2 : AV} {H : zaa} {K : Kt} (h : HSc H → zyK t0 t1 t2 H K) : ACalls tP znd [t0, t1, t2] H K :=
 zam (M := zNB) Tryz.func101 (c := zNC) (by kernel_rfl) (fun hs => Eq.mpr (by kernel_rfl) (h hs))
def zJZ (_ : Nat) : List Bool := []
noncomputable def zJ0 : Code := Tryz.f49.body.getD .skip
def zxC (t0 t1 : AV) (H : zaa) (K : Kt) : Prop :=
 ACalls tP zhX [t0, t1, (.fn zfd [])] H fun t7 H =>
 K t7 H
theorem zJ1 {t0 t1 : AV} {H : zaa} {K : Kt} (h : HSc H → zxC t0 t1 H K) : ACalls tP zm4 [t0, t1] H K :=
 zam (M := zJZ) Tryz.func49 (c := zJ0) (by kernel_rfl) (fun hs => Eq.mpr (by kernel_rfl) (h hs))
def zIg (_ : Nat) : List Bool := []
noncomputable def zIh : Code := Tryz.f24.body.getD .skip
def zwN (H : zaa) (K : Kt) : Prop :=
 zaC [(.str []), .snil] [(0, 1), (1, 1)] [(0, (.str [67]))] fun t4 =>
 zaz 2 [(.str []), .snil] 1 [(0, t4)] fun t5 =>
 zaC [(.str []), (.int .i64 0), .snil] [(0, 1), (1, 1), (2, 1)] [(0, (.str [68])), (2, t5)] fun t6 =>
 zaz 3 [(.str []), (.int .i64 0), .snil] 1 [(0, t6)] fun t7 =>
 zaC [(.int .i64 0), (.int .i64 0), .snil] [(0, 1), (1, 1), (2, 1)] [(0, (.int .i64 5))] fun t10 =>
 zaC [(.int .i64 0), .snil] [(0, 1), (1, 1)] [] fun t11 =>
 zaz 2 [(.int .i64 0), .snil] 1 [(0, t11)] fun t12 =>
 zaC [(.int .i64 0), .snil] [(0, 1), (1, 1)] [(1, t12)] fun t13 =>
 ACalls tP zgf [t7, t10, (.int .i64 0), t13] H fun t14 H =>
 zav t14 0 fun t15 =>
 zav t14 1 fun t16 =>
 zac .eql false t16 (.int .i64 0) fun t18 =>
 zab t18 true H (fun K' => K' t15 H) fun t20 H =>
 zab t18 true H (fun K' => zah 1 t20 (K' · H)) fun t21 H =>
 zab t18 true H (fun K' => zac .eql false t21 (.int .i64 1) (K' · H)) fun t22 H =>
 zai t18 t22 (.bool false) fun t23 =>
 zab t23 true H (fun K' => K' t15 H) fun t25 H =>
 zab t23 true H (fun K' => zaj 1 t25 (.int .i64 0) (K' · H)) fun t26 H =>
 zab t23 true H (fun K' => zad false 1 t26 H (K' · H)) fun t27 H =>
 zab t23 true H (fun K' => zah 1 t27 (K' · H)) fun t28 H =>
 zab t23 true H (fun K' => zac .eql false t28 (.int .i64 0) (K' · H)) fun t29 H =>
 zai t23 t29 (.bool false) fun t30 =>
 K t30 H
theorem zIi {H : zaa} {K : Kt} (h : HSc H → zwN H K) : ACalls tP zmU [] H K :=
 zam (M := zIg) Tryz.func24 (c := zIh) (by kernel_rfl) (fun hs => Eq.mpr (by kernel_rfl) (h hs))
def zNF (_ : Nat) : List Bool := []
noncomputable def zNG : Code := Tryz.f11.body.getD .skip
def zq9 (t0 t1 : AV) (H : zaa) (K : Kt) : Prop :=
 zap t1 H fun t3 H =>
 ACalls tP zmX [t0] H fun t6 H =>
 zab t6 true H (fun K' => zad true 3 t3 H (K' · H)) fun t8 H =>
 zab t6 true H (fun K' => ACalls tP zmY [t8] H K') fun t9 H =>
 zai t6 t9 (.bool false) fun t10 =>
 K t10 H
theorem zNH {t0 t1 : AV} {H : zaa} {K : Kt} (h : HSc H → zq9 t0 t1 H K) : ACalls tP zm9 [t0, t1] H K :=
 zam (M := zNF) Tryz.func11 (c := zNG) (by kernel_rfl) (fun hs => Eq.mpr (by kernel_rfl) (h hs))
end Go.Proofs.YtjkkonpjecoieaaGreat
namespace Go.Proofs.YtjkkonpjecoieaaGreat
open Go Go.Abs
set_option maxRecDepth 8000
theorem zc3 (v : IT) : ∃ a b, v.cs = [a, b] ∧ a.known = true ∧ b.known = true := by
 obtain ⟨n, ks⟩ := v; exact ⟨_, _, rfl, rfl, rfl⟩
theorem zrL {v : IT} {k : AV → Prop} : zaz 2 [.int .i64 0, .snil] 1 [(0, .agg v.cs)] k = k (.sl [v.cs] .full) := by
 cases v
 exact propext Iff.rfl
theorem zz1 {l : List IT} {i : Nat} (h : i < l.length) : IT.css (l.take (i + 1)) = IT.css (l.take i) ++ [(l[i]).cs] := by
 rw [IT.css_map, IT.css_map, List.take_succ_eq_append_getElem h, List.map_append]
 rfl
theorem zKh : ∀ (m : Nat) (v : IT), v.nodes ≤ m → v.nodes ≤ 1000000 → ∀ (H : zaa) (K : Kt), K (.agg v.cs) H → ACalls tP zhY [.agg v.cs] H K := by
 intro m
 induction m with
 | zero => intro v h; have := v.nodes_pos; omega
 | succ m ih =>
  intro v hm hb H K hK
  obtain ⟨n, ks⟩ := v
  have hll := IT.len_le ks
  have hnn : (IT.mk n ks).nodes = IT.nodesL ks + 1 := by simp [IT.nodes]
  refine ACalls.out (zKf fun hs => ?_)
  simp [zxG, IT.cs, zaC, za6, AV.known, Nat.add_assoc]
  unfold zkA
  refine ALoop.ownC (H.length + 2) 1 zbK 2 (cs := [.int .i64 n, .snil]) (by simp) rfl ?_
  have hset : (H ++ [AB.cells [.int .i64 n, .sl (IT.css ks) .none], .cells [.int .i64 0, .snil], .cells [.int .i64 n, .snil]]).set (H.length + 2) (.cells ([AV.int .i64 n, .snil].set 1 (.sl [] (.own (H ++ [AB.cells [.int .i64 n, .sl (IT.css ks) .none], .cells [.int .i64 0, .snil], .cells [.int .i64 n, .snil]]).length)))) ++ [.perm zbK 2 0] =
    H ++ [.cells [.int .i64 n, .sl (IT.css ks) .none], .cells [.int .i64 0, .snil], .cells [.int .i64 n, .sl [] (.own (H.length + 3))], .perm zbK 2 0] := by simp [List.set_append_right]
  rw [hset]
  show zkA (.ptr (H.length + 1) 0) (.ptr (H.length + 2) 0) (.sl (IT.css ks) .none) (.int .i64 ks.length) (.int .i64 0) _ (Out H.length K)
  have hsc : ∀ i, HSc (H ++ [.cells [.int .i64 n, .sl (IT.css ks) .none], .cells [.int .i64 0, .snil], .cells [.int .i64 n, .sl (IT.css (ks.take i)) (.own (H.length + 3))], .perm zbK 2 i]) := fun i => hs.append (by simp [AB.sc, AV.scA, AV.scB])
  refine zKd (Inv := fun q t12 H' => ∃ i : Nat, i ≤ ks.length ∧ q = ks.length - i ∧ t12 = .int .i64 i ∧
   H' = H ++ [.cells [.int .i64 n, .sl (IT.css ks) .none], .cells [.int .i64 0, .snil], .cells [.int .i64 n, .sl (IT.css (ks.take i)) (.own (H.length + 3))], .perm zbK 2 i]) ks.length ?_ ?_
  ·intro _; exact ⟨0, by omega, by omega, rfl, by simp [IT.css]⟩
  ·rintro q t12 H' ⟨i, hi, rfl, rfl, rfl⟩ hsc' hlen hsF Kb hKb
   by_cases hlt : i < ks.length
   ·obtain ⟨x, y, hvx, hx, hy⟩ := zc3 ks[i]
    have hkn := IT.kid_lt (n := n) hlt
    simp [zp2, hlt, hvx, hx, hy]
    rw [← hvx]
    refine zaF (.agg (ks[i]).cs) (fun J => ih ks[i] (by omega) (by omega) _ _ ⟨rfl, rfl⟩) ?_
    rw [zrL]
    simp [zax, zaW, zaN, Nat.min_eq_left hi, AV.known, List.set_append_right]
    refine ⟨⟨by omega, by omega⟩, ?_⟩
    rw [zas (by omega) (by omega)]
    rw [← zz1 hlt]
    refine hKb _ _ ⟨ks.length - (i + 1), by omega, Back.at (J := [.cells (ks[i]).cs]) (H2 := H ++ [.cells [.int .i64 n, .sl (IT.css ks) .none], .cells [.int .i64 0, .snil], .cells [.int .i64 n, .sl (IT.css (ks.take (i + 1))) (.own (H.length + 3))], .perm zbK 2 (i + 1)]) (by simp) (by simp) (hsc _) ?_ ⟨_, rfl, i + 1, by omega, rfl, by simp, rfl⟩⟩
    simp [zkz, AV.sc, AV.scV, AV.scA, AV.scB]
   ·obtain rfl : i = ks.length := by omega
    rw [List.take_length] at *
    simp [zp2, AV.known, List.set_append_right]
    exact Out.at rfl (Nat.le_refl _) hs (WkV.agg (ds := [.int .i64 n, .sl (IT.css ks) .none]) ⟨.refl _, .sl _ _, trivial⟩) rfl (by simp [AV.scV, AV.scA, AV.scB]) (by simpa [IT.cs] using hK)
mutual
def za7 : VT → IT
 | .mk k _ ks => .mk 0 (if k = 6 then zbx ks else [])
def zbx : List VT → List IT
 | [] => []
 | t :: ts => za7 t :: zbx ts
end
theorem zgL : ∀ ts : List VT, zbx ts = ts.map za7
 | [] => by simp [zbx]
 | t :: ts => by simp [zbx, zgL ts]
theorem zLN : ∀ (m : Nat) (v : VT), v.nodes ≤ m → v.nodes ≤ 1000000 → ∀ (H : zaa) (K : Kt), K (.agg (za7 v).cs) H → ACalls tP zh2 [.agg v.cs] H K := by
 intro m
 induction m with
 | zero => intro v h; have := v.nodes_pos; omega
 | succ m ih =>
  intro v hm hb H K hK
  obtain ⟨k, n, ks⟩ := v
  have hll := VT.len_le ks
  have hnn : (VT.mk k n ks).nodes = VT.nodesL ks + 1 := by simp [VT.nodes]
  refine ACalls.out (zLL fun hs => ?_)
  simp [zye, VT.cs, zaC, za6, AV.known, Nat.add_assoc]
  by_cases hk6 : k = 6
  ·have hK : K (.agg [.int .i64 0, .sl (IT.css (zbx ks)) .none]) H := by simpa [za7, hk6, IT.cs] using hK
   simp [hk6]
   subst hk6
   unfold zla
   refine ALoop.ownC (H.length + 2) 1 zbK 2 (cs := [.int .i64 0, .snil]) (by simp) rfl ?_
   have hset : (H ++ [AB.cells [.int .i64 6, .int .i64 n, .sl (VT.css ks) .none], .cells [.int .i64 0, .snil], .cells [.int .i64 0, .snil]]).set (H.length + 2) (.cells ([AV.int .i64 0, .snil].set 1 (.sl [] (.own (H ++ [AB.cells [.int .i64 6, .int .i64 n, .sl (VT.css ks) .none], .cells [.int .i64 0, .snil], .cells [.int .i64 0, .snil]]).length)))) ++ [.perm zbK 2 0] =
     H ++ [.cells [.int .i64 6, .int .i64 n, .sl (VT.css ks) .none], .cells [.int .i64 0, .snil], .cells [.int .i64 0, .sl [] (.own (H.length + 3))], .perm zbK 2 0] := by simp [List.set_append_right]
   rw [hset]
   show zla (.ptr (H.length + 1) 0) (.ptr (H.length + 2) 0) (.sl (VT.css ks) .none) (.int .i64 ks.length) (.int .i64 0) _ (Out H.length K)
   have hsc : ∀ i, HSc (H ++ [.cells [.int .i64 6, .int .i64 n, .sl (VT.css ks) .none], .cells [.int .i64 0, .snil], .cells [.int .i64 0, .sl (IT.css (zbx (ks.take i))) (.own (H.length + 3))], .perm zbK 2 i]) := fun i => hs.append (by simp [AB.sc, AV.scA, AV.scB])
   refine zLJ (Inv := fun q t12 H' => ∃ i : Nat, i ≤ ks.length ∧ q = ks.length - i ∧ t12 = .int .i64 i ∧
    H' = H ++ [.cells [.int .i64 6, .int .i64 n, .sl (VT.css ks) .none], .cells [.int .i64 0, .snil], .cells [.int .i64 0, .sl (IT.css (zbx (ks.take i))) (.own (H.length + 3))], .perm zbK 2 i]) ks.length ?_ ?_
   ·intro _; exact ⟨0, by omega, by omega, rfl, by simp [zbx, IT.css]⟩
   ·rintro q t12 H' ⟨i, hi, rfl, rfl, rfl⟩ hsc' hlen hsF Kb hKb
    by_cases hlt : i < ks.length
    ·obtain ⟨x, y, z, hvx, hx, hy, hz⟩ := zaM ks[i]
     have hkn := VT.kid_lt (k := 6) (n := n) hlt
     have hzl : (zbx (ks.take i)).length = i := by simp [zgL, Nat.min_eq_left hi]
     simp [zqw, hlt, hvx, hx, hy, hz]
     rw [← hvx]
     refine zaF (.agg (za7 ks[i]).cs) (fun J => ih ks[i] (by omega) (by omega) _ _ ⟨rfl, rfl⟩) ?_
     rw [zrL]
     simp [zax, zaW, zaN, hzl, AV.known, List.set_append_right]
     refine ⟨⟨by omega, by omega⟩, ?_⟩
     rw [zas (by omega) (by omega)]
     have hst : IT.css (zbx (ks.take i)) ++ [(za7 ks[i]).cs] = IT.css (zbx (ks.take (i + 1))) := by
      rw [zgL, zgL, List.take_succ_eq_append_getElem hlt, IT.css_map, IT.css_map, List.map_append, List.map_append]
      rfl
     rw [hst]
     refine hKb _ _ ⟨ks.length - (i + 1), by omega, Back.at (J := [.cells (ks[i]).cs]) (H2 := H ++ [.cells [.int .i64 6, .int .i64 n, .sl (VT.css ks) .none], .cells [.int .i64 0, .snil], .cells [.int .i64 0, .sl (IT.css (zbx (ks.take (i + 1)))) (.own (H.length + 3))], .perm zbK 2 (i + 1)]) (by simp) (by simp) (hsc _) ?_ ⟨_, rfl, i + 1, by omega, rfl, by simp, rfl⟩⟩
     simp [zk8, AV.sc, AV.scV, AV.scA, AV.scB]
    ·obtain rfl : i = ks.length := by omega
     rw [List.take_length] at *
     simp [zqw, zk9, AV.known, List.set_append_right]
     exact Out.at rfl (Nat.le_refl _) hs (WkV.agg (ds := [.int .i64 0, .sl (IT.css (zbx ks)) .none]) ⟨.refl _, .sl _ _, trivial⟩) rfl (by simp [AV.scV, AV.scA, AV.scB]) hK
  ·have hK : K (.agg [.int .i64 0, .sl [] .none]) H := by simpa [za7, hk6, IT.cs, IT.css] using hK
   have hb : (k == 6) = false := by simpa using hk6
   simp [hb, zk9, AV.known, List.set_append_right]
   exact Out.at rfl (Nat.le_refl _) hs (WkV.agg (ds := [.int .i64 0, .sl [] .none]) ⟨.refl _, .snil, trivial⟩) rfl (by simp [AV.scV, AV.scA, AV.scB]) hK
end Go.Proofs.YtjkkonpjecoieaaGreat
