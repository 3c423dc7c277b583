import Derived.Test.YtacebbdfgbfgiaaGreatKV1
import Derived.Test.YtacebbdfgbfgiaaGreatIT
import Derived.Test.YtacebbdfgbfgiaaGreatAbsL
import Derived.Test.YtacebbdfgbfgiaaGreatKNum
import Derived.Test.YtacebbdfgbfgiaaGreatProg
import Derived.KernelRfl
import Derived.Test.YtacebbdfgbfgiaaGreatAbsQ1
set_option linter.unusedSimpArgs false
set_option linter.unusedVariables false
namespace Go.Proofs.YtacebbdfgbfgiaaGreat
open Go Go.Abs
def pick : List VT → List Bool → List VT
 | x :: l, b :: bs => if b then pick l bs else x :: pick l bs
 | _, _ => []
def zbg (data : List Dat) (t : VT) (c : Int) : Option (List VT) := (zaJ data t c).map fun l => pick l ((zk5 data t.num.toNat).getD c.toNat [])
mutual
def zbK (data : List Dat) : IT → VT → Int × Bool
 | .mk n ks, t =>
  if t.kind = 6 then (if n = 0 then (if t.kids.length = ks.length then zbn data ks t.kids 0 else (0, false)) else (0, false))
  else if t.kind = 7 then (n, decide (0 ≤ n) && decide (n ≤ 6) && decide (ks.length = 0))
  else if t.kind = 5 then (if n = 0 then zb3 data ks t 0 else (0, false))
  else (0, decide (n = 0) && decide (ks.length = 0))
def zbn (data : List Dat) : List IT → List VT → Int → Int × Bool
 | [], _, a => (a, decide (a ≤ 6))
 | v :: vs, ts, a => match ts with
  | t :: ts => if (zbK data v t).2 then zbn data vs ts (a + (zbK data v t).1) else (0, false)
  | [] => (0, false)
def zb3 (data : List Dat) : List IT → VT → Int → Int × Bool
 | [], _, a => (a, true)
 | .mk c ks :: es, t, a => match zbg data t c with
  | none => (0, false)
  | some ps => if ps.length = ks.length then
    (if (zbn data ks ps 0).2 && decide (a + (1 + (zbn data ks ps 0).1) ≤ 6) then zb3 data es t (a + (1 + (zbn data ks ps 0).1)) else (0, false))
   else (0, false)
end
mutual
def rdV (data : List Dat) : IT → VT → Int
 | .mk n ks, t =>
  if t.kind = 6 then (if n = 0 then (if t.kids.length = ks.length then rdA data ks t.kids 0 else -1) else -1)
  else if t.kind = 7 then (if 0 ≤ n ∧ n ≤ 6 ∧ ks.length = 0 then n else -1)
  else if t.kind = 5 then (if n = 0 ∧ ks.length ≤ 6 then rdE data ks t 0 else -1)
  else (if n = 0 ∧ ks.length = 0 then 0 else -1)
def rdA (data : List Dat) : List IT → List VT → Int → Int
 | [], _, a => a
 | v :: vs, ts, a => match ts with
  | t :: ts => if rdV data v t < 0 ∨ a + rdV data v t > 6 then -1 else rdA data vs ts (a + rdV data v t)
  | [] => -1
def rdE (data : List Dat) : List IT → VT → Int → Int
 | [], _, a => a
 | .mk c ks :: es, t, a => if c < 0 ∨ 8 ≤ c then -1 else match zbg data t c with
  | none => -1
  | some ps => if ps.length = ks.length then
    (if rdA data ks ps 0 < 0 ∨ a + 1 + rdA data ks ps 0 > 6 then -1 else rdE data es t (a + (1 + rdA data ks ps 0)))
   else -1
end
theorem zpD {data : List Dat} (h8 : ∀ D ∈ data, D.cons.length ≤ 8) {t : VT} {c : Int} {ps : List VT} (h : zbg data t c = some ps) : 0 ≤ c ∧ c < 8 := by
 unfold zbg at h
 cases hf : zaJ data t c with
 | none => rw [hf] at h; cases h
 | some l =>
  obtain ⟨_, k1, k2, hn, hc, _⟩ := zfl hf
  have := h8 _ (List.getElem_mem hn)
  omega
def agr (m : Int × Bool) (r : Int) : Prop := (m.2 = true → m.1 = r ∧ 0 ≤ r ∧ r ≤ 6) ∧ (m.2 = false → r = -1)
theorem zc4 : agr (0, false) (-1) := ⟨fun h => (by cases h), fun _ => rfl⟩
mutual
theorem ze6 {data : List Dat} (h8 : ∀ D ∈ data, D.cons.length ≤ 8) : ∀ (v : IT) (t : VT), agr (zbK data v t) (rdV data v t)
 | .mk n ks, t => by
  have hA := (zgj h8 ks t.kids 0 (by omega)).1 (by omega)
  have hE := zjU h8 ks t 0 (by omega) (by omega)
  unfold zbK rdV
  split
  ·split
   ·split
    ·exact hA
    ·exact zc4
   ·exact zc4
  ·split
   ·refine ⟨fun h => ?_, fun h => ?_⟩
    ·simp at h
     rw [if_pos ⟨h.1.1, h.1.2, by simpa using h.2⟩]
     exact ⟨rfl, h.1.1, h.1.2⟩
    ·rw [if_neg]
     rintro ⟨h1, h2, h3⟩
     simp [h1, h2, h3] at h
   ·split
    ·by_cases hn : n = 0
     ·simp only [hn, if_true, true_and]
      by_cases hl : ks.length ≤ 6
      ·rw [if_pos hl]; exact hE.1
      ·rw [if_neg hl]
       refine ⟨fun h => ?_, fun _ => rfl⟩
       have := hE.2 h
       omega
     ·simp only [hn, if_false, false_and]
      exact zc4
    ·refine ⟨fun h => ?_, fun h => ?_⟩
     ·simp at h
      simp [h]
     ·rw [if_neg]
      rintro ⟨h1, h2⟩
      simp [h1, h2] at h
theorem zgj {data : List Dat} (h8 : ∀ D ∈ data, D.cons.length ≤ 8) : ∀ (vs : List IT) (ts : List VT) (a : Int), 0 ≤ a → (a ≤ 6 → agr (zbn data vs ts a) (rdA data vs ts a)) ∧ (6 < a → (zbn data vs ts a).2 = false)
 | [], ts, a, ha => by
  simp only [zbn, rdA]
  exact ⟨fun h => ⟨fun _ => ⟨rfl, ha, h⟩, fun h2 => by simp at h2; omega⟩, fun h => by simp; omega⟩
 | v :: vs, ts, a, ha => by
  match ts with
  | [] => simp only [zbn, rdA]; exact ⟨fun _ => zc4, fun _ => by trivial⟩
  | t :: ts =>
   obtain ⟨g1, g2⟩ := ze6 h8 v t
   simp only [zbn, rdA]
   cases hb : (zbK data v t).2 with
   | false =>
    rw [g2 hb]
    simp
    exact fun _ => zc4
   | true =>
    obtain ⟨e1, e2, e3⟩ := g1 hb
    rw [e1]
    have hn := zgj h8 vs ts (a + rdV data v t) (by omega)
    simp only [if_true]
    refine ⟨fun h => ?_, fun h => hn.2 (by omega)⟩
    by_cases h6 : a + rdV data v t > 6
    ·rw [if_pos (.inr h6)]
     exact ⟨fun h => (by rw [hn.2 (by omega)] at h; cases h), fun _ => rfl⟩
    ·rw [if_neg (by omega)]
     exact hn.1 (by omega)
theorem zjU {data : List Dat} (h8 : ∀ D ∈ data, D.cons.length ≤ 8) : ∀ (es : List IT) (t : VT) (a : Int), 0 ≤ a → a ≤ 6 → agr (zb3 data es t a) (rdE data es t a) ∧ ((zb3 data es t a).2 = true → a + es.length ≤ 6)
 | [], t, a, h0, h6 => by
  simp only [zb3, rdE]
  exact ⟨⟨fun _ => ⟨rfl, h0, h6⟩, fun h => by cases h⟩, fun _ => by simpa using h6⟩
 | .mk c ks :: es, t, a, h0, h6 => by
  simp only [zb3, rdE]
  cases hp : zbg data t c with
  | none => simp only [ite_self]; exact ⟨zc4, fun h => by cases h⟩
  | some ps =>
   obtain ⟨c0, c8⟩ := zpD h8 hp
   rw [if_neg (show ¬(c < 0 ∨ 8 ≤ c) by omega)]
   simp only
   by_cases hl : ps.length = ks.length
   ·simp only [hl, if_true]
    obtain ⟨g1, g2⟩ := (zgj h8 ks ps 0 (by omega)).1 (by omega)
    cases hb : (zbn data ks ps 0).2 with
    | false =>
     rw [g2 hb]
     simp
     exact zc4
    | true =>
     obtain ⟨e1, e2, e3⟩ := g1 hb
     rw [e1]
     by_cases hh : a + (1 + rdA data ks ps 0) ≤ 6
     ·have hn := zjU h8 es t (a + (1 + rdA data ks ps 0)) (by omega) hh
      rw [if_neg (show ¬(rdA data ks ps 0 < 0 ∨ a + 1 + rdA data ks ps 0 > 6) by omega)]
      simp only [hh, decide_true, Bool.and_self, if_true]
      refine ⟨hn.1, fun h => ?_⟩
      have := hn.2 h
      simp only [List.length_cons]
      omega
     ·rw [if_pos (show rdA data ks ps 0 < 0 ∨ a + 1 + rdA data ks ps 0 > 6 by omega)]
      simp [hh]
      exact zc4
   ·simp only [hl, if_false]
    exact ⟨zc4, fun h => by cases h⟩
end
end Go.Proofs.YtacebbdfgbfgiaaGreat
namespace Go.Abs
open Go
def fill : List IT → List Nat → List IT → List IT
 | row, p :: ps, x :: xs => fill (row.set p x) ps xs
 | row, _, _ => row
@[simp] theorem zIq (row xs : List IT) : fill row [] xs = row := by cases xs <;> rfl
@[simp] theorem zdu : ∀ (row : List IT) (ps : List Nat) (xs : List IT), (fill row ps xs).length = row.length
 | row, p :: ps, x :: xs => by rw [fill, zdu]; simp
 | row, [], _ => by simp [fill]
 | row, _ :: _, [] => by simp [fill]
theorem zke : ∀ (ps : List Nat) (row xs : List IT) (q : Nat), q ∉ ps → (fill row ps xs)[q]? = row[q]?
 | [], row, xs, q, _ => by simp
 | p :: ps, row, [], q, _ => by simp [fill]
 | p :: ps, row, x :: xs, q, h => by
  simp only [List.mem_cons, not_or] at h
  rw [fill, zke ps _ _ _ h.2, List.getElem?_set_ne (fun e => h.1 e.symm)]
theorem zkc : ∀ (ps : List Nat) (row xs : List IT), ps.Nodup → xs.length = ps.length → (∀ p ∈ ps, p < row.length) → ∀ (k : Nat) (hk : k < ps.length) (hx : k < xs.length), (fill row ps xs)[ps[k]]? = some xs[k]
 | [], row, xs, _, _, _, k, hk, _ => by simp at hk
 | p :: ps, row, [], _, hl, _, k, _, hx => by simp at hx
 | p :: ps, row, x :: xs, h, hl, hp, k, hk, hx => by
  rw [List.nodup_cons] at h
  rw [fill]
  cases k with
  | zero =>
   simp only [List.getElem_cons_zero]
   rw [zke ps _ _ _ h.1, List.getElem?_set_self (hp p (by simp))]
  | succ k =>
   simp only [List.getElem_cons_succ]
   exact zkc ps _ xs h.2 (by simpa using hl) (fun q hq => by simpa using hp q (by simp [hq])) k (by simpa using hk) (by simpa using hx)
def zcV : List IT → Nat → List (List (List IT))
 | l, 0 => if l.isEmpty then [[]] else []
 | l, n + 1 => (List.range (l.length + 1)).flatMap fun k => (zcV (l.drop k) n).map fun r => l.take k :: r
def za7 : List IT → List Nat → List IT → List (List IT)
 | row, [], l => if l.isEmpty then [row] else []
 | row, p :: ps, l => (List.range (l.length + 1)).flatMap fun n => za7 (row.set p (.mk 0 (l.take n))) ps (l.drop n)
theorem zgr : ∀ (ps : List Nat) (row l : List IT), za7 row ps l = (zcV l ps.length).map fun r => fill row ps (r.map (IT.mk 0))
 | [], row, l => by
  simp only [za7, List.length_nil, zcV]
  split <;> simp
 | p :: ps, row, l => by
  simp only [za7, List.length_cons, zcV, List.map_flatMap, List.map_map]
  congr 1
  funext n
  rw [zgr]
  rfl
theorem zp6 : ∀ (r : List (List IT)), r ∈ zcV r.flatten r.length
 | [] => by simp [zcV]
 | x :: r => by
  simp only [List.length_cons, zcV, List.mem_flatMap, List.mem_map, List.flatten_cons]
  refine ⟨x.length, by simp; omega, r, ?_, by simp⟩
  simpa using zp6 r
theorem zkg {α β : Type} {N : Nat} (f : α → List β) : ∀ (l : List α), (∀ a ∈ l, (f a).length ≤ N) → (l.flatMap f).length ≤ l.length * N
 | [], _ => by simp
 | a :: l, h => by
  rw [List.flatMap_cons, List.length_append, List.length_cons, Nat.succ_mul]
  have h1 := h a (by simp)
  have h2 := zkg f l (fun b hb => h b (by simp [hb]))
  omega
theorem zp5 : ∀ (n : Nat) (l : List IT), (zcV l n).length ≤ (l.length + 1) ^ n
 | 0, l => by simp only [zcV]; split <;> simp
 | n + 1, l => by
  rw [zcV, Nat.pow_succ, Nat.mul_comm]
  refine Nat.le_trans (zkg (N := (l.length + 1) ^ n) _ _ fun k _ => ?_) (by simp)
  rw [List.length_map]
  refine Nat.le_trans (zp5 n _) (Nat.pow_le_pow_left ?_ _)
  simp
def rle (x y : List IT) : Prop := ¬ IT.cmpL y x < 0
mutual
theorem IT.same_eq : ∀ v w : IT, IT.same v w = true → v = w
 | .mk n ks, .mk n' ks', h => by
  simp only [IT.same, Bool.and_eq_true, beq_iff_eq] at h
  rw [h.1, IT.sameL_eq ks ks' h.2]
theorem IT.sameL_eq : ∀ v w : List IT, IT.sameL v w = true → v = w
 | [], [], _ => rfl
 | v :: vs, w :: ws, h => by
  simp only [IT.sameL, Bool.and_eq_true] at h
  rw [IT.same_eq v w h.1, IT.sameL_eq vs ws h.2]
 | [], _ :: _, h => by simp [IT.sameL] at h
 | _ :: _, [], h => by simp [IT.sameL] at h
end
end Go.Abs
namespace Go.Proofs.YtacebbdfgbfgiaaGreat
open Go Go.Abs
variable {data : List Dat}
theorem zvK {h8 : ∀ D ∈ data, D.cons.length ≤ 8} (v : IT) (t : VT) : -1 ≤ rdV data v t ∧ rdV data v t ≤ 6 := by
 obtain ⟨h1, h2⟩ := ze6 h8 v t
 cases hb : (zbK data v t).2 with
 | true => have := h1 hb; omega
 | false => have := h2 hb; omega
def ad (a r : Int) : Int := if r < 0 then -1 else if a + r > 6 then -1 else a + r
theorem zes {a r : Int} (h : 0 ≤ r) (h2 : a + r ≤ 6) : ad a r = a + r := by unfold ad; rw [if_neg (by omega), if_neg (by omega)]
theorem zch {a r : Int} (h : r < 0 ∨ a + r > 6) : ad a r = -1 := by
 unfold ad
 by_cases h1 : r < 0
 ·rw [if_pos h1]
 ·rw [if_neg h1, if_pos (by omega)]
theorem zuh {a b r : Int} (hb : 0 ≤ b) (ha : 0 ≤ a) : ad (a + b) r = ad a (ad b r) := by
 by_cases h1 : r < 0 ∨ b + r > 6
 ·rw [zch (a := b) h1, zch (a := a) (.inl (by omega)), zch (by omega)]
 ·rw [zes (a := b) (by omega) (by omega)]
  by_cases h2 : a + (b + r) > 6
  ·rw [zch (.inr h2), zch (.inr (by omega))]
  ·rw [zes (by omega) (by omega), zes (by omega) (by omega), Int.add_assoc]
theorem zfQ (c : Int) (ks es : List IT) (t : VT) (a : Int) : rdE data (.mk c ks :: es) t a = if c < 0 ∨ 8 ≤ c then -1 else match zbg data t c with
  | none => -1
  | some ps => if ps.length = ks.length then (if rdA data ks ps 0 < 0 ∨ a + 1 + rdA data ks ps 0 > 6 then -1 else rdE data es t (a + (1 + rdA data ks ps 0))) else -1 := by simp only [rdE] <;> rfl
theorem zk3 : ∀ (es : List IT) (t : VT) (a : Int), 0 ≤ a → rdE data es t a = -1 ∨ a + es.length ≤ rdE data es t a
 | [], _, a, h => by simp [rdE]
 | .mk c ks :: es, t, a, h => by
  rw [zfQ]
  by_cases hc : c < 0 ∨ 8 ≤ c
  ·rw [if_pos hc]; exact .inl rfl
  ·rw [if_neg hc]
   cases zbg data t c with
   | none => exact .inl rfl
   | some ps =>
    simp only
    by_cases hl : ps.length = ks.length
    ·rw [if_pos hl]
     by_cases h0 : rdA data ks ps 0 < 0 ∨ a + 1 + rdA data ks ps 0 > 6
     ·rw [if_pos h0]; exact .inl rfl
     ·rw [if_neg h0]
      rcases zk3 es t (a + (1 + rdA data ks ps 0)) (by omega) with h2 | h2
      ·exact .inl h2
      ·right; simp only [List.length_cons]; omega
    ·rw [if_neg hl]; exact .inl rfl
theorem zk2 : ∀ (es : List IT) (t : VT) (a : Int), 0 ≤ a → a ≤ 6 → rdE data es t a = ad a (rdE data es t 0)
 | [], _, a, h, h6 => by simp only [rdE]; rw [zes (by omega) (by omega), Int.add_zero]
 | .mk c ks :: es, t, a, h, h6 => by
  rw [zfQ, zfQ]
  by_cases hc : c < 0 ∨ 8 ≤ c
  ·rw [if_pos hc, if_pos hc, zch (.inl (by omega))]
  ·rw [if_neg hc, if_neg hc]
   cases zbg data t c with
   | none => exact (zch (a := a) (r := -1) (.inl (by omega))).symm
   | some ps =>
    simp only
    by_cases hl : ps.length = ks.length
    ·rw [if_pos hl, if_pos hl]
     by_cases h0 : rdA data ks ps 0 < 0 ∨ 0 + 1 + rdA data ks ps 0 > 6
     ·rw [if_pos h0, if_pos (by omega), zch (.inl (by omega))]
     ·rw [if_neg h0, zk2 es t (0 + (1 + rdA data ks ps 0)) (by omega) (by omega), Int.zero_add]
      have g2 := zk3 (data := data) es t 0 (by omega)
      by_cases h3 : a + 1 + rdA data ks ps 0 > 6
      ·rw [if_pos (Or.inr h3)]
       generalize rdE data es t 0 = r at *
       by_cases h4 : r < 0 ∨ (1 + rdA data ks ps 0) + r > 6
       ·rw [zch h4, zch (.inl (by omega))]
       ·rw [zes (a := 1 + rdA data ks ps 0) (by omega) (by omega), zch (.inr (by omega))]
      ·rw [if_neg (by omega), zk2 es t _ (by omega) (by omega), zuh (by omega) h]
    ·rw [if_neg hl, if_neg hl, zch (.inl (by omega))]
theorem zvI {h8 : ∀ D ∈ data, D.cons.length ≤ 8} (es : List IT) (t : VT) : rdE data es t 0 ≤ 6 := by
 have h := (zjU h8 es t 0 (by omega) (by omega)).1
 cases hb : (zb3 data es t 0).2 with
 | true => have := h.1 hb; omega
 | false => have := h.2 hb; omega
theorem zpR (h8 : ∀ D ∈ data, D.cons.length ≤ 8) : ∀ (xs ys : List IT) (t : VT) (a : Int), 0 ≤ a → a ≤ 6 → rdE data (xs ++ ys) t a = (if rdE data xs t a < 0 then -1 else rdE data ys t (rdE data xs t a))
 | [], ys, t, a, h, _ => by
  rw [List.nil_append, if_neg (by simp only [rdE]; omega)]
  simp only [rdE]
 | .mk c ks :: es, ys, t, a, h, h6 => by
  rw [List.cons_append, zfQ, zfQ]
  by_cases hc : c < 0 ∨ 8 ≤ c
  ·rw [if_pos hc]; simp [hc]
  ·rw [if_neg hc]
   simp only [if_neg hc]
   cases zbg data t c with
   | none => simp
   | some ps =>
    simp only
    by_cases hl : ps.length = ks.length
    ·simp only [if_pos hl]
     by_cases h0 : rdA data ks ps 0 < 0 ∨ a + 1 + rdA data ks ps 0 > 6
     ·simp only [if_pos h0]; simp
     ·simp only [if_neg h0]
      exact zpR h8 es ys t _ (by omega) (by omega)
    ·simp only [if_neg hl]; simp
theorem zpS (h8 : ∀ D ∈ data, D.cons.length ≤ 8) (t : VT) : ∀ (rs : List (List IT)) (a : Int), 0 ≤ a → a ≤ 6 → (∀ r ∈ rs, 0 ≤ rdE data r t 0) →
  rdE data rs.flatten t a = (if a + (rs.map fun r => rdE data r t 0).sum > 6 then -1 else a + (rs.map fun r => rdE data r t 0).sum)
 | [], a, h, h6, _ => by
  simp only [List.flatten_nil, List.map_nil, List.sum_nil, rdE]
  rw [if_neg (by omega), Int.add_zero]
 | r :: rs, a, h, h6, hr => by
  have h1 := hr r (by simp)
  have hs : ∀ l : List (List IT), (∀ r ∈ l, 0 ≤ rdE data r t 0) → 0 ≤ (l.map fun r => rdE data r t 0).sum := by
   intro l
   induction l with
   | nil => intro _; simp
   | cons x l ih => intro hx; have := ih (fun r h => hx r (by simp [h])); have := hx x (by simp); simp; omega
  have h2 := hs rs (fun r h => hr r (by simp [h]))
  rw [List.flatten_cons, zpR h8 _ _ _ _ h h6, zk2 r t a h h6]
  simp only [List.map_cons, List.sum_cons]
  by_cases h3 : a + rdE data r t 0 > 6
  ·rw [zch (.inr h3), if_pos (by omega), if_pos (by omega)]
  ·rw [zes h1 (by omega), if_neg (by omega), zpS h8 t rs _ (by omega) (by omega) (fun r h => hr r (by simp [h])), Int.add_assoc]
end Go.Proofs.YtacebbdfgbfgiaaGreat
namespace Go.Abs
open Go Go.RowKit
variable {P : Program}
def zpv : Code → Array Oper
 | .region _ ops _ => ops
 | .seq a _ => zpv a
 | _ => #[]
def opS : Op → Bool
 | .move _ => true
 | .fieldAddr _ _ _ => true
 | _ => false
def opT : Op → Bool
 | .move _ => true
 | .assign _ => true
 | .fieldAddr _ _ _ => true
 | .indexAddr _ _ _ => true
 | .load _ _ => true
 | .store _ _ _ => true
 | .buildSlice _ _ _ => true
 | .slice _ _ _ _ none => true
 | .call c => (match c.callee with
  | .builtin .append => true
  | .value (.func _) => true
  | _ => false)
 | _ => false
theorem ACalls.monoZ {H : zaa} {f : FuncId} {args : List AV} {K K' : AV → zaa → Prop} (h : ACalls P f args H K) (hk : ∀ r H', K r H' → K' r H') : ACalls P f args H K' :=
 fun B w G vs hH hv => (h B w G vs hH hv).mono fun _ _ ⟨v, r, H', G', h1, h2, h3, h4, h5⟩ => ⟨v, r, H', G', h1, h2, h3, h4, hk _ _ h5⟩
theorem zdj {x : Option AV} {d : Nat} {K K' : Nat → Prop} (hk : ∀ n, K n → K' n) (h : zbk x d K) : zbk x d K' := by
 unfold zbk at h ⊢
 split at h
 ·exact hk _ h
 ·exact ⟨h.1, hk _ h.2⟩
 ·exact h
theorem zn9 {u esz : Nat} {x : AV} {lo hi : Option AV} {K K' : AV → Prop} (hk : ∀ v, K v → K' v) (h : zaH u esz x lo hi K) : zaH u esz x lo hi K' := by
 unfold zaH at h ⊢
 split at h
 ·exact zdj (fun _ => zdj fun _ h => ⟨h.1, hk _ h.2⟩) h
 ·exact zdj (fun _ => zdj fun _ h => ⟨h.1, hk _ h.2⟩) h
 ·exact zdj (fun _ => zdj fun _ h => ⟨h.1, hk _ h.2⟩) h
 ·exact zdj (fun _ => zdj fun _ h => ⟨h.1, hk _ h.2⟩) h
 ·exact h
theorem zjZ {o : Oper} {F : List AV} {H : zaa} {K K' : AV → zaa → Prop} (hT : opT o.op = true) (hk : ∀ v H', K v H' → K' v H') (h : aop P o F H K) : aop P o F H K' := by
 obtain ⟨dst, op, type, pos, after, guard⟩ := o
 cases op <;> simp only [opT] at hT <;> first | exact absurd hT (by decide) | skip
 case move x => exact hk _ _ h
 case assign x => exact hk _ _ h
 case fieldAddr s x i =>
  simp only [aop, isM, zbx] at h ⊢
  split at h
  ·split at h
   ·unfold zaf at h ⊢
    split at h
    ·exact hk _ _ h
    ·exact h
   ·exact h
  ·exact h
 case slice t x lo hi m =>
  cases m with
  | some m => exact absurd hT (by simp)
  | none =>
   simp only [aop, isM, zbx] at h ⊢
   split at h
   ·exact zn9 (fun v => hk v _) h
   ·split at h
    ·exact zn9 (fun v => hk v _) h
    ·exact h
   ·exact h
 case indexAddr t x i =>
  simp only [aop, isM, zbx] at h ⊢
  split at h
  ·unfold zai at h ⊢
   split at h
   ·exact hk _ _ h
   ·exact h
  ·exact h
 case load t a =>
  simp only [aop, isM, zbx] at h ⊢
  split at h
  ·unfold zad at h ⊢
   split at h
   ·unfold za1 at h ⊢
    split at h
    ·exact ⟨h.1, hk _ _ h.2⟩
    ·split at h
     ·exact hk _ _ h
     ·exact h
   ·exact h
  ·exact h
 case store t a x =>
  simp only [aop, isM, zbx] at h ⊢
  split at h
  ·unfold zak at h ⊢
   split at h
   ·exact hk _ _ h
   ·exact h
  ·exact h
 case buildSlice t n ps =>
  simp only [aop, isM, zbx] at h ⊢
  split at h
  ·split at h
   ·unfold zay at h ⊢
    split at h
    ·split at h
     ·exact hk _ _ h
     ·exact h
    ·exact h
   ·exact h
  ·exact h
 case call c =>
  obtain ⟨callee, args, ats⟩ := c
  simp only [aop, isM, zbx] at h ⊢
  cases callee with
  | invoke _ _ => exact absurd hT (by simp)
  | value f =>
   cases f with
   | func g =>
    simp only [ev, aCallV] at h ⊢
    split at h
    ·exact ACalls.monoZ h hk
    ·exact h
   | _ => exact absurd hT (by simp)
  | builtin b =>
   cases b <;> (try (simp at hT; done))
   case append =>
    simp only [zdk] at h ⊢
    split at h
    ·split at h
     ·split at h
      ·exact zn4 hk h
      ·exact h
     ·exact h
    ·exact h
theorem sil {o : Oper} {F : List AV} {H : zaa} {K : AV → zaa → Prop} (hS : opS o.op = true) (h : aop P o F H K) :
  ∃ v, K v H ∧ ∀ (F' : List AV) (H' : zaa) (K' : AV → zaa → Prop), (∀ x ∈ o.op.operands, ev F x = ev F' x) → K' v H' → aop P o F' H' K' := by
 have hc := fun (F' : List AV) (H' : zaa) (K' : AV → zaa → Prop) (hx : ∀ x ∈ o.op.operands, ev F x = ev F' x) => (zjY (P := P) (H := H') (K := K') hx)
 obtain ⟨dst, op, type, pos, after, guard⟩ := o
 cases op <;> simp only [opS] at hS <;> first | exact absurd hS (by decide) | skip
 case move x =>
  refine ⟨ev F x, h, fun F' H' K' hx hk => ?_⟩
  rw [← hc F' H' K' hx]
  exact hk
 case fieldAddr s x i =>
  simp only [aop, isM, zbx] at h
  split at h
  ·rename_i f hf
   split at h
   ·rename_i n hn
    unfold zaf at h
    split at h
    ·rename_i v hv
     refine ⟨v, h, fun F' H' K' hx hk => ?_⟩
     rw [← hc F' H' K' hx]
     simp only [aop, isM, zbx, hf, hn, zaf, hv]
     exact hk
    ·exact h.elim
   ·exact h.elim
  ·exact h.elim
def zld (ops : Array Oper) (i : Nat) : Bool := match ops[i]? with
 | some o => opS o.op
 | none => false
def zeK (P : Program) (ops : Array Oper) (K : List AV → zaa → Prop) : Nat → Array Bool → List AV → zaa → Prop
 | 0, listed, F, H => (match Region.ready .any ops listed with
  | [] => K F H
  | _ => False)
 | n + 1, listed, F, H => (match Region.ready .any ops listed with
  | [] => K F H
  | i :: is => (match (i :: is).find? (zld ops) with
   | some j => (match ops[j]? with
    | some o => aop P o F H fun v H' => zeK P ops K n (listed.setIfInBounds j true) (zaT F o.dst v) H'
    | none => False)
   | none => ze8 (i :: is) fun i => (match ops[i]? with
    | some o => aop P o F H fun v H' => zeK P ops K n (listed.setIfInBounds i true) (zaT F o.dst v) H'
    | none => False)))
theorem zgn {α : Type} {p : α → Prop} : ∀ {l : List α}, (∀ i ∈ l, p i) → ze8 l p
 | [], _ => trivial
 | [i], h => h i (by simp)
 | i :: j :: l, h => ⟨h i (by simp), zgn fun k hk => h k (by simp [List.mem_cons.1 hk])⟩
theorem zk4 {ops : Array Oper} {listed : Array Bool} {i j : Nat} (hj : j ∈ Region.ready .any ops listed) (hne : j ≠ i) : j ∈ Region.ready .any ops (listed.setIfInBounds i true) := by
 obtain ⟨h1, o, ho, he⟩ := mem_ready.1 hj
 refine mem_ready.2 ⟨?_, o, ho, fun e hem hb => ?_⟩
 ·have : (listed.setIfInBounds i true)[j]? = listed[j]? := by rw [Array.getElem?_setIfInBounds]; rw [if_neg (fun h => hne h.symm)]
  rw [Array.getD_eq_getD_getElem?] at h1 ⊢
  rw [this]
  exact h1
 ·have h2 := he e hem hb
  rw [Array.getD_eq_getD_getElem?] at h2 ⊢
  rw [Array.getElem?_setIfInBounds]
  split
  ·rename_i h
   have hl : e.on < listed.size := by
    by_cases hl : e.on < listed.size
    ·exact hl
    ·rw [Array.getElem?_eq_none (by omega)] at h2
     cases h2
   subst h
   simp [hl]
  ·exact h2
theorem zpq {ops : Array Oper} {listed : Array Bool} {i j : Nat} {o : Oper} (hi : i ∈ Region.ready .any ops listed) (hj : j ∈ Region.ready .any ops listed) (ho : ops[i]? = some o) : ¬ ∃ e ∈ o.after, Region.binds .any e = true ∧ e.on = j := by
 rintro ⟨e, he, hb, rfl⟩
 obtain ⟨_, o', ho', h1⟩ := mem_ready.1 hi
 obtain ⟨h2, _⟩ := mem_ready.1 hj
 rw [ho] at ho'
 obtain rfl := Option.some.inj ho'
 have h3 := h1 e he hb
 rw [Array.getD_eq_getD_getElem?] at h2 h3
 cases hx : listed[e.on]? with
 | none => rw [hx] at h3; cases h3
 | some b => rw [hx] at h2 h3; simp at h2 h3; rw [h2] at h3; cases h3
theorem zoJ {ops : Array Oper} {listed : Array Bool} {i j : Nat} {oi oj : Oper} (hO : Ord ops) (hi : i ∈ Region.ready .any ops listed) (hj : j ∈ Region.ready .any ops listed) (hne : i ≠ j) (hoi : ops[i]? = some oi) (hoj : ops[j]? = some oj) (F : List AV) (v : AV) :
  ∀ x ∈ oi.op.operands, ev F x = ev (zaT F oj.dst v) x := by
 intro x hx
 cases x with
 | tmp t =>
  cases hd : oj.dst with
  | none => rfl
  | some d =>
   by_cases htd : t = d
   ·exfalso
    subst htd
    have hr : t ∈ zcE ops oi := by
     simp only [zcE, List.mem_append, List.mem_filterMap]
     exact .inl ⟨.tmp t, by simpa using hx, rfl⟩
    by_cases hlt : j < i
    ·exact zpq hi hj hoi (hO.before i j oi oj t hoi hoj hlt hd hr)
    ·exact zpq hj hi hoj (hO.behind i j oi oj t hoi hoj (by omega) hd hr)
   ·simp only [ev, zaT, List.getD_eq_getElem?_getD, List.getElem?_set]
    rw [if_neg (fun h => htd h.symm)]
 | _ => rfl
theorem zvH {ops : Array Oper} {i j : Nat} {oi oj : Oper} (hO : Ord ops) (hne : i ≠ j) (hoi : ops[i]? = some oi) (hoj : ops[j]? = some oj) (F : List AV) (v u : AV) : zaT (zaT F oi.dst v) oj.dst u = zaT (zaT F oj.dst u) oi.dst v := by
 cases h1 : oi.dst with
 | none => rfl
 | some d =>
  cases h2 : oj.dst with
  | none => rfl
  | some e =>
   have hde : d ≠ e := fun h => hO.dst i j oi oj e hoi hoj hne h2 (by rw [h1, h])
   exact List.set_comm _ _ hde
theorem zvS {ops : Array Oper} {K : List AV → zaa → Prop} (hO : Ord ops) (hN : ∀ (i : Nat) o, ops[i]? = some o → o.guard = none) (hT : ∀ (i : Nat) o, ops[i]? = some o → opT o.op = true) :
  ∀ (n : Nat) (listed : Array Bool) (F : List AV) (H : zaa) (i : Nat) (o : Oper), i ∈ Region.ready .any ops listed → ops[i]? = some o → opS o.op = true →
   aop P o F H (fun v H' => runT P ops K n (listed.setIfInBounds i true) (zaT F o.dst v) H') → runT P ops K (n + 1) listed F H := by
 intro n
 induction n with
 | zero =>
  intro listed F H i o hi ho hS h
  obtain ⟨v, hv, _⟩ := sil hS h
  have key : ∀ j ∈ Region.ready .any ops listed, j = i := fun j hj => by
   by_cases hne : j = i
   ·exact hne
   ·exfalso
    have hr := zk4 hj hne
    unfold runT at hv
    split at hv
    ·rename_i hnil; rw [hnil] at hr; cases hr
    ·exact hv
  unfold runT
  split
  ·rename_i hnil; rw [hnil] at hi; cases hi
  ·rename_i i0 is hr
   refine zgn fun j hj => ?_
   obtain rfl := key j (by rw [hr]; exact hj)
   simp only [ho, hN _ _ ho]
   exact h
 | succ n ih =>
  intro listed F H i o hi ho hS h
  obtain ⟨v, hv, hsil⟩ := sil hS h
  unfold runT
  split
  ·rename_i hnil; rw [hnil] at hi; cases hi
  ·rename_i i0 is hr
   refine zgn fun j hj => ?_
   have hj : j ∈ Region.ready .any ops listed := by rw [hr]; exact hj
   by_cases hne : j = i
   ·subst hne
    simp only [ho, hN _ _ ho]
    exact h
   ·obtain ⟨_, oj, hoj, _⟩ := mem_ready.1 hj
    simp only [hoj, hN _ _ hoj]
    have hr2 := zk4 hj hne
    unfold runT at hv
    split at hv
    ·rename_i hnil; rw [hnil] at hr2; cases hr2
    ·rename_i k0 ks hk
     have h1 := zgm hv j (by rw [← hk]; exact hr2)
     simp only [hoj, hN _ _ hoj] at h1
     rw [← zjY (zoJ hO hj hi hne hoj ho F v)] at h1
     refine zjZ (hT _ _ hoj) (fun u H' h2 => ?_) h1
     refine ih _ _ _ i o (zk4 hi (fun h => hne h.symm)) ho hS ?_
     refine hsil _ _ _ (zoJ hO hi hj (fun h => hne h.symm) ho hoj F u) ?_
     rw [zvH hO (fun h => hne h.symm) ho hoj F v u] at h2
     have e2 : (listed.setIfInBounds i true).setIfInBounds j true = (listed.setIfInBounds j true).setIfInBounds i true := Array.setIfInBounds_comm _ _ (fun h => hne h.symm)
     rw [e2] at h2
     exact h2
theorem zvQ {ops : Array Oper} {K : List AV → zaa → Prop} (hO : Ord ops) (hN : ∀ (i : Nat) o, ops[i]? = some o → o.guard = none) (hT : ∀ (i : Nat) o, ops[i]? = some o → opT o.op = true) :
  ∀ (n : Nat) (listed : Array Bool) (F : List AV) (H : zaa), zeK P ops K n listed F H → runT P ops K n listed F H := by
 intro n
 induction n with
 | zero => intro listed F H h; exact h
 | succ n ih =>
  intro listed F H h
  unfold zeK at h
  split at h
  ·rename_i hr
   unfold runT
   split
   ·exact h
   ·rename_i hr2; rw [hr] at hr2; cases hr2
  ·rename_i i0 is hr
   split at h
   ·rename_i j hj
    have hjm : j ∈ Region.ready .any ops listed := by rw [hr]; exact List.mem_of_find?_eq_some hj
    have hjs : zld ops j = true := List.find?_some hj
    split at h
    ·rename_i o ho
     unfold zld at hjs
     rw [ho] at hjs
     exact zvS hO hN hT n listed F H j o hjm ho hjs (zjZ (hT _ _ ho) (fun v H' h => ih _ _ _ h) h)
    ·exact h.elim
   ·unfold runT
    split
    ·rename_i hr2; rw [hr] at hr2; cases hr2
    ·rename_i k0 ks hr2
     rw [hr] at hr2
     obtain ⟨rfl, rfl⟩ := List.cons.inj hr2
     refine zgn fun j hj => ?_
     have h1 := zgm h j hj
     split at h1
     ·rename_i o ho
      simp only [ho, hN _ _ ho]
      exact zjZ (hT _ _ ho) (fun v H' h => ih _ _ _ h) h1
     ·exact h1.elim
def okS (ops : Array Oper) : Bool := zc9 ops && ops.toList.all fun o => o.guard.isNone && opT o.op
theorem zvR {ops : Array Oper} {K : List AV → zaa → Prop} (h : okS ops = true) {n : Nat} {listed : Array Bool} {F : List AV} {H : zaa} (hs : zeK P ops K n listed F H) : runT P ops K n listed F H := by
 unfold okS at h
 rw [Bool.and_eq_true, List.all_eq_true] at h
 have mem : ∀ (i : Nat) o, ops[i]? = some o → o ∈ ops.toList := fun i o ho => List.mem_iff_getElem?.2 ⟨i, by simpa using ho⟩
 have h2 : ∀ (i : Nat) o, ops[i]? = some o → o.guard.isNone = true ∧ opT o.op = true := fun i o ho => by
  have := h.2 o (mem i o ho)
  simpa using this
 exact zvQ (zha h.1) (fun i o ho => by simpa using (h2 i o ho).1) (fun i o ho => (h2 i o ho).2) n listed F H hs
end Go.Abs
namespace Go.Proofs.YtacebbdfgbfgiaaGreat
open Go Go.Abs
set_option maxRecDepth 100000
def zCm : Nat → List Bool
 | 300001 => rl false [0,1]
 | _ => []
noncomputable def zCn : Code := Tryz.f55.body.getD .skip
def zi1 (t0 : AV) (H : zaa) (K : Kt) : Prop :=
 zer true .eql t0 fun t4 =>
 zag t4
 (K .snil H)
 (zay 2 [(.int .i64 0), .snil] 0 [] fun t5 =>
 zat zaw 2 32 t5 t0 H fun t7 H =>
 K t7 H)
theorem zCo {t0 : AV} {H : zaa} {K : Kt} (h : HSc H → zi1 t0 H K) : ACalls tP zgR [t0] H K :=
 zao (M := zCm) Tryz.func55 (c := zCn) (by kernel_rfl) (fun hs => Eq.mpr (by kernel_rfl) (h hs))
def zcm : Nat → List Bool
 | 13 => rl false [0,1,1,1,4,1,2,1,1,2,1,1,49,3,85]
 | 20 => rl false [7,1,5,1,1,1,2,1,83,3,48]
 | 27 => rl false [18,1,112,3,19]
 | 30 => rl false [18,1,3,1,108,3,4,2,13]
 | _ => []
noncomputable def zem : Code := Tryz.f10.body.getD .skip
noncomputable def znH : List ResultVar := Tryz.f10.results.toList
def zjH (t0 t2 t7 t10 t12 t13 t15 t65 t66 t67 : AV) : List AV := t0 :: ux 1 (t2 :: ux 4 (t7 :: ux 2 (t10 :: ux 1 (t12 :: t13 :: ux 1 (t15 :: ux 49 (t65 :: t66 :: t67 :: ux 85 []))))))
def zEF : List Bool := zcm 13
noncomputable def zEy : Code := zap [1, 1, 1, 1, 1, 1, 1, 1, 0, 1, 0, 0] zem
def zEv (K : Kt) : AExit → List AV → zaa → Prop := zaq tP zcm [1, 1, 1, 1, 1, 1, 1, 1, 0, 1, 0] zem (zax tP znH K)
def zjK (t0 t2 t7 t10 t12 t13 t15 t65 t66 t67 : AV) (H : zaa) (K : Kt) : Prop := ALoop tP zEy (zEv K) (zjH t0 t2 t7 t10 t12 t13 t15 t65 t66 t67) H
def zjI (t7 t13 t15 t18 t102 t103 t104 : AV) : List AV := ux 7 (t7 :: ux 5 (t13 :: ux 1 (t15 :: ux 2 (t18 :: ux 83 (t102 :: t103 :: t104 :: ux 48 [])))))
def zEG : List Bool := zcm 20
noncomputable def zEz : Code := zap [1, 1, 1, 1, 1, 1, 1, 1, 1, 1, 0, 1, 0, 0, 1, 0, 0] zem
def zEw (K : Kt) : AExit → List AV → zaa → Prop := zaq tP zcm [1, 1, 1, 1, 1, 1, 1, 1, 1, 1, 0, 1, 0, 0, 1, 0] zem (zax tP znH K)
def ztj (t7 t13 t15 t18 t102 t103 t104 : AV) (H : zaa) (K : Kt) : Prop := ALoop tP zEz (zEw K) (zjI t7 t13 t15 t18 t102 t103 t104) H
def zf9 (t18 t131 t132 t133 : AV) : List AV := ux 18 (t18 :: ux 112 (t131 :: t132 :: t133 :: ux 19 []))
def ztm : List Bool := zcm 27
noncomputable def znG : Code := zap [1, 1, 1, 1, 1, 1, 1, 1, 1, 1, 1, 1, 0, 1, 0, 0] zem
def zti (K : Kt) : AExit → List AV → zaa → Prop := zaq tP zcm [1, 1, 1, 1, 1, 1, 1, 1, 1, 1, 1, 1, 0, 1, 0] zem (zax tP znH K)
def ztk (t18 t131 t132 t133 : AV) (H : zaa) (K : Kt) : Prop := ALoop tP znG (zti K) (zf9 t18 t131 t132 t133) H
def zjJ (t18 t22 t131 t132 t133 t138 t139 : AV) : List AV := ux 18 (t18 :: ux 3 (t22 :: ux 108 (t131 :: t132 :: t133 :: ux 4 (t138 :: t139 :: ux 13 []))))
def zEH : List Bool := zcm 30
noncomputable def zEA : Code := zap [1, 1, 0, 0, 1, 1, 0, 0] znG
def zEx (K : Kt) (Kb27 : Lt) : AExit → List AV → zaa → Prop := zaq tP zcm [1, 1, 0, 0, 1, 1, 0] znG (zbH ztm Kb27 (zti K))
def ztl (t18 t22 t131 t132 t133 t138 t139 : AV) (H : zaa) (K : Kt) (Kb27 : Lt) : Prop := ALoop tP zEA (zEx K Kb27) (zjJ t18 t22 t131 t132 t133 t138 t139) H
def znF (t18 t22 t131 t132 t133 t138 t139 : AV) (H : zaa) (K : Kt) (Kb27 : Lt) (Kb30 : Lt) : Prop :=
 zac .lss false t139 t138 fun t140 =>
 zag t140
 (zai 2 t22 t139 fun t146 =>
 zad true 2 t146 H fun t147 =>
 ACalls tP zfC [t147] H fun t148 H =>
 zai 2 t22 t139 fun t149 =>
 zak 2 t149 t148 H fun H =>
 zac .add false t139 (.int .i64 1) fun t150 =>
 Kb30 (zjJ t18 t22 t131 t132 t133 t138 t150) H)
 (zac .add false t133 (.int .i64 1) fun t151 =>
 Kb27 (zf9 t18 t131 t132 t151) H)
def znE (t18 t131 t132 t133 : AV) (H : zaa) (K : Kt) (Kb27 : Lt) : Prop :=
 zac .lss false t133 t132 fun t134 =>
 zag t134
 (zai 1 t131 t133 fun t135 =>
 zad false 1 t135 H fun t136 =>
 zah 1 t136 fun t138 =>
 ztl t18 t136 t131 t132 t133 t138 (.int .i64 0) H K Kb27)
 (zau [t18, (.int .i64 0)] (K · H))
def zga (t18 : AV) (H : zaa) (K : Kt) : Prop :=
 ACalls tP zvl [t18, (.fn zkF [])] H fun t130 H =>
 zah 1 t18 fun t132 =>
 ztk t18 t18 t132 (.int .i64 0) H K
def znD (t7 t13 t15 t18 t102 t103 t104 : AV) (H : zaa) (K : Kt) (Kb20 : Lt) : Prop :=
 zac .lss false t104 t103 fun t105 =>
 zag t105
 (zai 1 t102 t104 fun t107 =>
 zad false 1 t107 H fun t108 =>
 zaf 1 t7 fun t111 =>
 zad false 1 t111 H fun t112 =>
 zai 2 t112 (.int .i64 0) fun t113 =>
 zaf 1 t113 fun t114 =>
 zad false 1 t114 H fun t115 =>
 zai 2 t115 t104 fun t117 =>
 zad true 2 t117 H fun t118 =>
 zai 2 t15 t108 fun t119 =>
 zak 2 t119 t118 H fun H =>
 zac .add false t104 (.int .i64 1) fun t120 =>
 Kb20 (zjI t7 t13 t15 t18 t102 t103 t120) H)
 (zaf 1 t7 fun t124 =>
 zad false 1 t124 H fun t125 =>
 zaH 1 2 t125 (some (.int .i64 1)) none fun t126 =>
 ACalls tP zd2 [t15, t13, t126] H fun t127 H =>
 zat zbm 1 24 t18 t127 H fun t128 H =>
 zga t128 H K)
def znC (t0 t2 t7 t10 t12 t13 t15 t65 t66 t67 : AV) (H : zaa) (K : Kt) (Kb13 : Lt) : Prop :=
 zac .lss false t67 t66 fun t68 =>
 zag t68
 (zai 1 t65 t67 fun t69 =>
 zad false 1 t69 H fun t70 =>
 zai 3 t10 t70 fun t77 =>
 zad true 3 t77 H fun t78 =>
 ACalls tP zfB [t0, t78] H fun t79 H =>
 zar t79 0 fun t80 =>
 zar t79 1 fun t81 =>
 zai 2 t15 t70 fun t82 =>
 zak 2 t82 t80 H fun H =>
 zac .add false t67 (.int .i64 1) fun t83 =>
 Kb13 (zjH t0 t2 t7 t10 t12 t13 t15 t65 t66 t83) H)
 (zaf 1 t7 fun t86 =>
 zad false 1 t86 H fun t87 =>
 ACalls tP zd2 [t15, t13, t87] H fun t88 H =>
 zaf 1 t7 fun t89 =>
 zad false 1 t89 H fun t90 =>
 zah 1 t90 fun t91 =>
 zac .gtr false t91 (.int .i64 0) fun t92 =>
 zab t92 true H (fun K' => zaf 1 t7 (K' · H)) fun t94 H =>
 zab t92 true H (fun K' => zad false 1 t94 H (K' · H)) fun t95 H =>
 zab t92 true H (fun K' => zai 2 t95 (.int .i64 0) (K' · H)) fun t96 H =>
 zab t92 true H (fun K' => zaf 0 t96 (K' · H)) fun t97 H =>
 zab t92 true H (fun K' => zad false 1 t97 H (K' · H)) fun t98 H =>
 zab t92 true H (fun K' => K' t2 H) fun t99 H =>
 zab t92 true H (fun K' => zac .eql false t98 t99 (K' · H)) fun t100 H =>
 zaj t92 t100 (.bool false) fun t101 =>
 zag t101
 (zah 1 t12 fun t103 =>
 ztj t7 t13 t15 t88 t12 t103 (.int .i64 0) H K)
 (zga t88 H K))
def zq8 (t0 t1 t2 t3 : AV) (H : zaa) (K : Kt) : Prop :=
 zas t1 H fun t5 H =>
 zas t3 H fun t7 H =>
 zad true 3 t5 H fun t25 =>
 zad true 2 t7 H fun t26 =>
 ACalls tP zkE [t0, t25, t26] H fun t27 H =>
 aUn .not t27 fun t28 =>
 zag t28
 (zau [.snil, (.int .i64 1)] (K · H))
 (zaf 0 t5 fun t29 =>
 zad false 1 t29 H fun t30 =>
 zac .neq false t30 (.int .i64 5) fun t31 =>
 zag t31
 (zau [.snil, (.int .i64 6)] (K · H))
 (zac .lss false t2 (.int .i64 0) fun t33 =>
 zab t33 false H (fun K' => K' t2 H) fun t35 H =>
 zab t33 false H (fun K' => K' t0 H) fun t36 H =>
 zab t33 false H (fun K' => zaf 1 t5 (K' · H)) fun t37 H =>
 zab t33 false H (fun K' => zad false 1 t37 H (K' · H)) fun t38 H =>
 zab t33 false H (fun K' => zai 3 t36 t38 (K' · H)) fun t39 H =>
 zab t33 false H (fun K' => zaf 2 t39 (K' · H)) fun t40 H =>
 zab t33 false H (fun K' => zad false 1 t40 H (K' · H)) fun t41 H =>
 zab t33 false H (fun K' => zah 1 t41 (K' · H)) fun t42 H =>
 zab t33 false H (fun K' => zac .geq false t35 t42 (K' · H)) fun t43 H =>
 zaj t33 (.bool true) t43 fun t44 =>
 zag t44
 (zau [.snil, (.int .i64 8)] (K · H))
 (zad true 3 t5 H fun t47 =>
 ACalls tP zeD [t0, t47, t2] H fun t49 H =>
 zar t49 0 fun t50 =>
 zar t49 1 fun t51 =>
 aUn .not t51 fun t53 =>
 zag t53
 (zau [.snil, (.int .i64 0)] (K · H))
 (zad true 3 t5 H fun t56 =>
 ACalls tP zgH [t0, t56, t2] H fun t58 H =>
 zar t58 0 fun t59 =>
 zar t58 1 fun t60 =>
 zar t58 2 fun t61 =>
 zah 1 t50 fun t63 =>
 zbw 32 [(.int .i64 0), .snil] t63 t63 H fun t64 H =>
 zah 1 t59 fun t66 =>
 zjK t0 t2 t7 t50 t59 t60 t64 t59 t66 (.int .i64 0) H K))))
theorem zEE {t18 t22 t131 t132 t133 t138 t139 : AV} {H : zaa} {K : Kt} {Kb27 : Lt} (Inv : Nat → AV → zaa → Prop) (n : Nat) (h0 : HSc H → Inv n t139 H)
  (round : Rd1 (fun t139 => zjJ t18 t22 t131 t132 t133 t138 t139) (fun t139 => fun H Kb30 => znF t18 t22 t131 t132 t133 t138 t139 H K Kb27 Kb30) H Inv) : ztl t18 t22 t131 t132 t133 t138 t139 H K Kb27 :=
 lp1 (M := zcm) zEH t139 (by kernel_rfl) Inv n h0 round
theorem zED {t18 t131 t132 t133 : AV} {H : zaa} {K : Kt} (Inv : Nat → AV → zaa → Prop) (n : Nat) (h0 : HSc H → Inv n t133 H)
  (round : Rd1 (fun t133 => zf9 t18 t131 t132 t133) (fun t133 => fun H Kb27 => znE t18 t131 t132 t133 H K Kb27) H Inv) : ztk t18 t131 t132 t133 H K :=
 lp1 (M := zcm) ztm t133 (by kernel_rfl) Inv n h0 round
theorem zEC {t7 t13 t15 t18 t102 t103 t104 : AV} {H : zaa} {K : Kt} (Inv : Nat → AV → zaa → Prop) (n : Nat) (h0 : HSc H → Inv n t104 H)
  (round : Rd1 (fun t104 => zjI t7 t13 t15 t18 t102 t103 t104) (fun t104 => fun H Kb20 => znD t7 t13 t15 t18 t102 t103 t104 H K Kb20) H Inv) : ztj t7 t13 t15 t18 t102 t103 t104 H K :=
 lp1 (M := zcm) zEG t104 (by kernel_rfl) Inv n h0 round
theorem zEB {t0 t2 t7 t10 t12 t13 t15 t65 t66 t67 : AV} {H : zaa} {K : Kt} (Inv : Nat → AV → zaa → Prop) (n : Nat) (h0 : HSc H → Inv n t67 H)
  (round : Rd1 (fun t67 => zjH t0 t2 t7 t10 t12 t13 t15 t65 t66 t67) (fun t67 => fun H Kb13 => znC t0 t2 t7 t10 t12 t13 t15 t65 t66 t67 H K Kb13) H Inv) : zjK t0 t2 t7 t10 t12 t13 t15 t65 t66 t67 H K :=
 lp1 (M := zcm) zEF t67 (by kernel_rfl) Inv n h0 round
theorem zEI {t0 t1 t2 t3 : AV} {H : zaa} {K : Kt} (h : HSc H → zq8 t0 t1 t2 t3 H K) : ACalls tP zfJ [t0, t1, t2, t3] H K :=
 zao (M := zcm) Tryz.func10 (c := zem) (by kernel_rfl) (fun hs => Eq.mpr (by kernel_rfl) (h hs))
def zeh : Nat → List Bool
 | 300004 => rl false [0,1]
 | 7 => rl false [0,3,4,1,13,2,24]
 | 200011 => rl false [0,14]
 | 100012 => rl false [0,3,4,1,13,2,24]
 | _ => []
noncomputable def zmp : Code := Tryz.f31.body.getD .skip
noncomputable def zAC : List ResultVar := Tryz.f31.results.toList
def ziv (t0 t1 t2 t7 t21 t22 : AV) : List AV := t0 :: t1 :: t2 :: ux 4 (t7 :: ux 13 (t21 :: t22 :: ux 24 []))
def zr4 : List Bool := zeh 7
noncomputable def ziu : Code := zap [1, 1, 1, 0, 1, 0, 0] zmp
def zr1 (K : Kt) : AExit → List AV → zaa → Prop := zaq tP zeh [1, 1, 1, 0, 1, 0] zmp (zax tP zAC K)
def ziw (t0 t1 t2 t7 t21 t22 : AV) (H : zaa) (K : Kt) : Prop := ALoop tP ziu (zr1 K) (ziv t0 t1 t2 t7 t21 t22) H
noncomputable def zr3 : Code := zap [1, 1, 1] ziu
def zr2 (K : Kt) (Kb7 : Lt) : AExit → List AV → zaa → Prop := zaq tP zeh [1, 1, 1] ziu (zbH zr4 Kb7 (zr1 K))
def zAz (t0 t1 t2 t7 t21 t22 : AV) (H : zaa) (K : Kt) (Kb7 : Lt) : Prop := AWp tP zr3 (zr2 K Kb7) (t0 :: t1 :: t2 :: ux 4 (t7 :: ux 13 (t21 :: t22 :: ux 24 []))) H
def zmq (t0 t1 t2 t7 t21 t22 : AV) (H : zaa) (K : Kt) (Kb7 : Lt) : Prop :=
 zac .add false t22 (.int .i64 1) fun t45 =>
 Kb7 (ziv t0 t1 t2 t7 t21 t45) H
noncomputable def zmr : Array Oper := zpv (zap [1, 1, 0, 0, 1, 1, 1] ziu)
def zmo (t0 t1 t2 t7 t21 t22 : AV) (H : zaa) (K : Kt) (Kb7 : Lt) : Prop :=
 zac .lss false t22 t21 fun t23 =>
 zag t23
 (ACalls tP zgR [t0] H fun t26 H =>
 zae H (fun K' => K' t26 H) fun t27 =>
 zae H (fun K' => K' t1 H) fun t28 =>
 zae H (fun K' => zai 1 t28 (.int .i64 0) (K' · H)) fun t29 =>
 zae H (fun K' => zam false 1 t29 H (K' · H)) fun t30 =>
 zae H (fun K' => K' t2 H) fun t31 =>
 zae H (fun K' => K' t22 H) fun t32 =>
 zae H (fun K' => zaH 1 2 t31 none (some t32) (K' · H)) fun t33 =>
 zae H (fun K' => zal [(.int .i64 0), .snil] [(0, 1), (1, 1)] [(1, t33)] (K' · H)) fun t34 =>
 zae H (fun K' => zai 2 t27 t30 (K' · H)) fun t35 =>
 zak 2 t35 t34 H fun H =>
 Go.Abs.runT tP zmr (fun F H => AWp tP zr3 (zr2 K Kb7) (zdx (zeh 100012) F) H) 10 (zdG 0 10) (t0 :: t1 :: t2 :: ux 4 (t7 :: t22 :: t26 :: ux 11 (t21 :: t22 :: t23 :: t22 :: t0 :: t26 :: t27 :: t28 :: t29 :: t30 :: t31 :: t32 :: t33 :: t34 :: t35 :: ux 11 []))) H)
 (K t7 H)
def zit (t0 t1 t2 : AV) (H : zaa) (K : Kt) : Prop :=
 zah 1 t1 fun t11 =>
 zac .eql false t11 (.int .i64 0) fun t12 =>
 zag t12
 (zah 1 t2 fun t14 =>
 zac .gtr false t14 (.int .i64 0) fun t15 =>
 zag t15
 (K .snil H)
 (ACalls tP zgR [t0] H fun t17 H =>
 zcL zbm 1 1 [(0, t17)] H fun t18 H =>
 K t18 H))
 (zah 1 t2 fun t20 =>
 zac .add false t20 (.int .i64 1) fun t21 =>
 ziw t0 t1 t2 .snil t21 (.int .i64 0) H K)
theorem zAA {t0 t1 t2 t7 t21 t22 : AV} {H : zaa} {K : Kt} {Kb7 : Lt} (h : HSc H → zmq t0 t1 t2 t7 t21 t22 H K Kb7) : zAz t0 t1 t2 t7 t21 t22 H K Kb7 :=
 fun B w G a hH hF hd => zdR (M := zeh) _ _ _ _ (Eq.mpr (by kernel_rfl) (h hH.sc)) B w G a hH hF hd
theorem zAD (t0 t1 t2 t7 t22 t26 t21 t23 t27 t28 t29 t30 t31 t32 t33 t34 t35 : AV) (H : zaa) (KF : List AV → zaa → Prop) : zeK tP zmr KF 10 (zdG 0 10) (t0 :: t1 :: t2 :: ux 4 (t7 :: t22 :: t26 :: ux 11 (t21 :: t22 :: t23 :: t22 :: t0 :: t26 :: t27 :: t28 :: t29 :: t30 :: t31 :: t32 :: t33 :: t34 :: t35 :: ux 11 []))) H = (
 (zaH 1 1 t1 (some (.int .i64 1)) none fun t39 =>
 zaH 1 2 t2 (some t22) none fun t42 =>
 ACalls tP zd2 [t26, t39, t42] H fun t43 H =>
 zat zbm 1 24 t7 t43 H fun t44 H =>
 KF (t0 :: t1 :: t2 :: ux 4 (t44 :: t22 :: t26 :: ux 11 (t21 :: t22 :: t23 :: t22 :: t0 :: t26 :: t27 :: t28 :: t29 :: t30 :: t31 :: t32 :: t33 :: t34 :: t35 :: t7 :: t26 :: t1 :: t39 :: t2 :: t22 :: t42 :: t43 :: t44 :: ux 2 []))) H) ∧ (zaH 1 2 t2 (some t22) none fun t42 =>
 zaH 1 1 t1 (some (.int .i64 1)) none fun t39 =>
 ACalls tP zd2 [t26, t39, t42] H fun t43 H =>
 zat zbm 1 24 t7 t43 H fun t44 H =>
 KF (t0 :: t1 :: t2 :: ux 4 (t44 :: t22 :: t26 :: ux 11 (t21 :: t22 :: t23 :: t22 :: t0 :: t26 :: t27 :: t28 :: t29 :: t30 :: t31 :: t32 :: t33 :: t34 :: t35 :: t7 :: t26 :: t1 :: t39 :: t2 :: t22 :: t42 :: t43 :: t44 :: ux 2 []))) H)) := by kernel_rfl
theorem zAE : okS zmr = true := by kernel_rfl
theorem zAB {t0 t1 t2 t7 t21 t22 : AV} {H : zaa} {K : Kt} (Inv : Nat → AV → AV → zaa → Prop) (n : Nat) (h0 : HSc H → Inv n t7 t22 H)
  (round : Rd2 (fun t7 => fun t22 => ziv t0 t1 t2 t7 t21 t22) (fun t7 => fun t22 => fun H Kb7 => zmo t0 t1 t2 t7 t21 t22 H K Kb7) H Inv) : ziw t0 t1 t2 t7 t21 t22 H K :=
 lp2 (M := zeh) zr4 t7 t22 (by kernel_rfl) Inv n h0 round
theorem zr5 {t0 t1 t2 : AV} {H : zaa} {K : Kt} (h : HSc H → zit t0 t1 t2 H K) : ACalls tP zd2 [t0, t1, t2] H K :=
 zao (M := zeh) Tryz.func31 (c := zmp) (by kernel_rfl) (fun hs => Eq.mpr (by kernel_rfl) (h hs))
def zio : Nat → List Bool
 | 7 => rl false [6,2,22,3,16]
 | _ => []
noncomputable def zmm : Code := Tryz.f29.body.getD .skip
noncomputable def zAw : List ResultVar := Tryz.f29.results.toList
def ziq (t6 t7 t30 t31 t32 : AV) : List AV := ux 6 (t6 :: t7 :: ux 22 (t30 :: t31 :: t32 :: ux 16 []))
def zAu : List Bool := zio 7
noncomputable def zAs : Code := zap [1, 1, 1, 0, 1, 0, 0] zmm
def zAr (K : Kt) : AExit → List AV → zaa → Prop := zaq tP zio [1, 1, 1, 0, 1, 0] zmm (zax tP zAw K)
def zis (t6 t7 t30 t31 t32 : AV) (H : zaa) (K : Kt) : Prop := ALoop tP zAs (zAr K) (ziq t6 t7 t30 t31 t32) H
def zrX (t6 t7 t30 t31 t32 : AV) (H : zaa) (K : Kt) (Kb7 : Lt) : Prop :=
 zac .add false t32 (.int .i64 1) fun t46 =>
 Kb7 (ziq t6 t7 t30 t31 t46) H
def zir (t6 t7 t30 t31 t32 : AV) (H : zaa) (K : Kt) (Kb7 : Lt) : Prop :=
 zrX t6 t7 t30 t31 t32 H K Kb7
def zip (t6 t7 t30 t31 t32 : AV) (H : zaa) (K : Kt) (Kb7 : Lt) : Prop :=
 zac .lss false t32 t31 fun t33 =>
 zag t33
 (zai 1 t30 t32 fun t35 =>
 zad false 1 t35 H fun t36 =>
 zag t36
 (zay 1 [(.int .i64 0)] 1 [(0, t32)] fun t40 =>
 zat za2 1 8 t7 t40 H fun t41 H =>
 zir t6 t41 t30 t31 t32 H K Kb7)
 (zay 1 [(.int .i64 0)] 1 [(0, t32)] fun t44 =>
 zat za2 1 8 t6 t44 H fun t45 H =>
 zir t45 t7 t30 t31 t32 H K Kb7))
 (zau [t6, t7, (.bool true)] (K · H))
def zrW (t0 t1 t2 : AV) (H : zaa) (K : Kt) : Prop :=
 zas t1 H fun t4 H =>
 zad true 3 t4 H fun t14 =>
 ACalls tP zfH [t0, t14] H fun t15 H =>
 aUn .not t15 fun t16 =>
 zag t16
 (zau [.snil, .snil, (.bool false)] (K · H))
 (zad true 3 t4 H fun t19 =>
 ACalls tP zeD [t0, t19, t2] H fun t21 H =>
 zar t21 0 fun t22 =>
 zar t21 1 fun t23 =>
 aUn .not t23 fun t25 =>
 zag t25
 (zau [.snil, .snil, (.bool false)] (K · H))
 (zaf 1 t4 fun t27 =>
 zad false 1 t27 H fun t28 =>
 ACalls tP zcD [t0, t28, t2] H fun t30 H =>
 zah 1 t30 fun t31 =>
 zis .snil .snil t30 t31 (.int .i64 0) H K))
theorem zAt {t6 t7 t30 t31 t32 : AV} {H : zaa} {K : Kt} (Inv : Nat → AV → AV → AV → zaa → Prop) (n : Nat) (h0 : HSc H → Inv n t6 t7 t32 H)
  (round : Rd3 (fun t6 => fun t7 => fun t32 => ziq t6 t7 t30 t31 t32) (fun t6 => fun t7 => fun t32 => fun H Kb7 => zip t6 t7 t30 t31 t32 H K Kb7) H Inv) : zis t6 t7 t30 t31 t32 H K :=
 lp3 (M := zio) zAu t6 t7 t32 (by kernel_rfl) Inv n h0 round
theorem zAv {t0 t1 t2 : AV} {H : zaa} {K : Kt} (h : HSc H → zrW t0 t1 t2 H K) : ACalls tP zgH [t0, t1, t2] H K :=
 zao (M := zio) Tryz.func29 (c := zmm) (by kernel_rfl) (fun hs => Eq.mpr (by kernel_rfl) (h hs))
def zBx (_ : Nat) : List Bool := []
noncomputable def zBy : Code := Tryz.f47.body.getD .skip
def zsm (t0 t1 t2 : AV) (H : zaa) (K : Kt) : Prop :=
 zas t1 H fun t4 H =>
 zad true 3 t4 H fun t10 =>
 ACalls tP zfD [t0, t10] H fun t11 H =>
 aUn .not t11 fun t12 =>
 zag t12
 (zau [.snil, .snil, (.bool false)] (K · H))
 (zad true 3 t4 H fun t14 =>
 ACalls tP zgY [t0, t14, t2] H fun t16 H =>
 zar t16 0 fun t17 =>
 zar t16 1 fun t18 =>
 zar t16 2 fun t19 =>
 zau [t17, t18, t19] (K · H))
theorem zBz {t0 t1 t2 : AV} {H : zaa} {K : Kt} (h : HSc H → zsm t0 t1 t2 H K) : ACalls tP zkH [t0, t1, t2] H K :=
 zao (M := zBx) Tryz.func47 (c := zBy) (by kernel_rfl) (fun hs => Eq.mpr (by kernel_rfl) (h hs))
def zcY : Nat → List Bool
 | 15 => rl false [0,1,1,2,1,1,2,1,3,1,1,1,64,3,68]
 | 27 => rl false [3,1,4,1,10,1,1,1,91,3,34]
 | 300031 => rl false [0,1]
 | 33 => rl false [3,1,4,1,15,1,107,3,15]
 | _ => []
noncomputable def zee : Code := Tryz.f21.body.getD .skip
noncomputable def zl2 : List ResultVar := Tryz.f21.results.toList
def zh8 (t0 t2 t3 t5 t8 t12 t14 t79 t80 t81 : AV) : List AV := t0 :: ux 1 (t2 :: t3 :: ux 1 (t5 :: ux 2 (t8 :: ux 3 (t12 :: ux 1 (t14 :: ux 64 (t79 :: t80 :: t81 :: ux 68 []))))))
def zzw : List Bool := zcY 15
noncomputable def zzq : Code := zap [1, 1, 1, 1, 1, 1, 1, 1, 0, 1, 0, 0] zee
def zzn (K : Kt) : AExit → List AV → zaa → Prop := zaq tP zcY [1, 1, 1, 1, 1, 1, 1, 1, 0, 1, 0] zee (zax tP zl2 K)
def zrC (t0 t2 t3 t5 t8 t12 t14 t79 t80 t81 : AV) (H : zaa) (K : Kt) : Prop := ALoop tP zzq (zzn K) (zh8 t0 t2 t3 t5 t8 t12 t14 t79 t80 t81) H
def zh9 (t3 t8 t19 t21 t113 t114 t115 : AV) : List AV := ux 3 (t3 :: ux 4 (t8 :: ux 10 (t19 :: ux 1 (t21 :: ux 91 (t113 :: t114 :: t115 :: ux 34 [])))))
def zzx : List Bool := zcY 27
noncomputable def zzr : Code := zap [1, 1, 1, 1, 1, 1, 1, 1, 1, 1, 1, 1, 0, 1, 0, 0] zee
def zzo (K : Kt) : AExit → List AV → zaa → Prop := zaq tP zcY [1, 1, 1, 1, 1, 1, 1, 1, 1, 1, 1, 1, 0, 1, 0] zee (zax tP zl2 K)
def zf1 (t3 t8 t19 t21 t113 t114 t115 : AV) (H : zaa) (K : Kt) : Prop := ALoop tP zzr (zzo K) (zh9 t3 t8 t19 t21 t113 t114 t115) H
def zia (t3 t8 t24 t132 t133 t134 : AV) : List AV := ux 3 (t3 :: ux 4 (t8 :: ux 15 (t24 :: ux 107 (t132 :: t133 :: t134 :: ux 15 []))))
def zzy : List Bool := zcY 33
noncomputable def zzs : Code := zap [1, 1, 1, 1, 1, 1, 1, 1, 1, 1, 1, 1, 1, 1, 0, 1, 0, 0] zee
def zzp (K : Kt) : AExit → List AV → zaa → Prop := zaq tP zcY [1, 1, 1, 1, 1, 1, 1, 1, 1, 1, 1, 1, 1, 1, 0, 1, 0] zee (zax tP zl2 K)
def zrD (t3 t8 t24 t132 t133 t134 : AV) (H : zaa) (K : Kt) : Prop := ALoop tP zzs (zzp K) (zia t3 t8 t24 t132 t133 t134) H
def zl1 (t3 t8 t24 t132 t133 t134 : AV) (H : zaa) (K : Kt) (Kb33 : Lt) : Prop :=
 zac .lss false t134 t133 fun t135 =>
 zag t135
 (zai 1 t132 t134 fun t136 =>
 zad false 1 t136 H fun t137 =>
 zae H (fun K' => zaf 1 t24 (K' · H)) fun t138 =>
 zae H (fun K' => zam false 1 t138 H (K' · H)) fun t139 =>
 zae H (fun K' => K' t3 H) fun t140 =>
 zae H (fun K' => K' t137 H) fun t141 =>
 zae H (fun K' => zai 2 t140 t141 (K' · H)) fun t142 =>
 zae H (fun K' => zaf 1 t142 (K' · H)) fun t143 =>
 zae H (fun K' => zam false 1 t143 H (K' · H)) fun t144 =>
 zat zaw 2 32 t139 t144 H fun t145 H =>
 zae H (fun K' => zaf 1 t24 (K' · H)) fun t146 =>
 zak 1 t146 t145 H fun H =>
 zac .add false t134 (.int .i64 1) fun t147 =>
 Kb33 (zia t3 t8 t24 t132 t133 t147) H)
 (zad true 2 t24 H fun t148 =>
 ACalls tP zfC [t148] H fun t149 H =>
 zak 2 t8 t149 H fun H =>
 zad true 2 t8 H fun r0 =>
 zau [r0, (.int .i64 0)] (K · H))
def zl0 (t3 t8 t19 t21 t113 t114 t115 : AV) (H : zaa) (K : Kt) (Kb27 : Lt) : Prop :=
 zac .lss false t115 t114 fun t116 =>
 zag t116
 (zai 1 t113 t115 fun t117 =>
 zad false 1 t117 H fun t118 =>
 zae H (fun K' => zaf 1 t21 (K' · H)) fun t119 =>
 zae H (fun K' => zam false 1 t119 H (K' · H)) fun t120 =>
 zae H (fun K' => K' t3 H) fun t121 =>
 zae H (fun K' => K' t118 H) fun t122 =>
 zae H (fun K' => zai 2 t121 t122 (K' · H)) fun t123 =>
 zae H (fun K' => zam true 2 t123 H (K' · H)) fun t124 =>
 zae H (fun K' => zay 2 [(.int .i64 0), .snil] 1 [(0, t124)] (K' · H)) fun t125 =>
 zat zaw 2 32 t120 t125 H fun t126 H =>
 zae H (fun K' => zaf 1 t21 (K' · H)) fun t127 =>
 zak 1 t127 t126 H fun H =>
 zac .add false t115 (.int .i64 1) fun t128 =>
 Kb27 (zh9 t3 t8 t19 t21 t113 t114 t128) H)
 (zad true 2 t21 H fun t129 =>
 zcL zaw 2 1 [(0, t129)] H fun t130 H =>
 zal [(.int .i64 0), .snil] [(0, 1), (1, 1)] [(1, t130)] fun t131 =>
 zav [(.int .i64 0), .snil] H fun t24 H =>
 zak 2 t24 t131 H fun H =>
 zah 1 t19 fun t133 =>
 zrD t3 t8 t24 t19 t133 (.int .i64 0) H K)
def zh7 (t0 t2 t3 t5 t8 t12 t14 t79 t80 t81 : AV) (H : zaa) (K : Kt) (Kb15 : Lt) : Prop :=
 zac .lss false t81 t80 fun t82 =>
 zag t82
 (zai 2 t79 t81 fun t84 =>
 zad true 2 t84 H fun t85 =>
 zav [(.int .i64 0), .snil] H fun t16 H =>
 zak 2 t16 t85 H fun H =>
 zae H (fun K' => K' t0 H) fun t86 =>
 zae H (fun K' => K' t12 H) fun t87 =>
 zae H (fun K' => K' t81 H) fun t88 =>
 zae H (fun K' => zai 3 t87 t88 (K' · H)) fun t89 =>
 zae H (fun K' => zam true 3 t89 H (K' · H)) fun t90 =>
 zae H (fun K' => zam true 2 t16 H (K' · H)) fun t91 =>
 zbq H (fun H K' => ACalls tP zgN [t86, t90, t91] H K') fun t92 =>
 zae H (fun K' => K' t92 H) fun t17 =>
 zac .lss false t17 (.int .i64 0) fun t94 =>
 zag t94
 (zal [(.int .i64 0), .snil] [(0, 1), (1, 1)] [] fun t95 =>
 zak 2 t8 t95 H fun H =>
 zad true 2 t8 H fun r0 =>
 zau [r0, (.int .i64 1)] (K · H))
 (zac .add false t14 t17 fun t98 =>
 zac .add false t81 (.int .i64 1) fun t99 =>
 Kb15 (zh8 t0 t2 t3 t5 t8 t12 t98 t79 t80 t99) H))
 (zac .gtr false t14 (.int .i64 6) fun t101 =>
 zag t101
 (zal [(.int .i64 0), .snil] [(0, 1), (1, 1)] [] fun t102 =>
 zak 2 t8 t102 H fun H =>
 zad true 2 t8 H fun r0 =>
 zau [r0, (.int .i64 13)] (K · H))
 (zad true 3 t5 H fun t105 =>
 ACalls tP zgH [t0, t105, t2] H fun t107 H =>
 zar t107 0 fun t108 =>
 zar t107 1 fun t109 =>
 zar t107 2 fun t110 =>
 zal [(.int .i64 0), .snil] [(0, 1), (1, 1)] [(0, t2)] fun t112 =>
 zav [(.int .i64 0), .snil] H fun t21 H =>
 zak 2 t21 t112 H fun H =>
 zah 1 t108 fun t114 =>
 zf1 t3 t8 t109 t21 t108 t114 (.int .i64 0) H K))
def zrB (t0 t1 t2 t3 : AV) (H : zaa) (K : Kt) : Prop :=
 zas t1 H fun t5 H =>
 zav [(.int .i64 0), .snil] H fun t8 H =>
 zad true 3 t5 H fun t29 =>
 ACalls tP zfB [t0, t29] H fun t30 H =>
 zar t30 0 fun t31 =>
 zar t30 1 fun t32 =>
 zav [(.int .i64 0), .snil] H fun t10 H =>
 zak 2 t10 t31 H fun H =>
 aUn .not t32 fun t34 =>
 zag t34
 (zal [(.int .i64 0), .snil] [(0, 1), (1, 1)] [] fun t35 =>
 zak 2 t8 t35 H fun H =>
 zad true 2 t8 H fun r0 =>
 zau [r0, (.int .i64 1)] (K · H))
 (zaf 0 t5 fun t36 =>
 zad false 1 t36 H fun t37 =>
 zac .neq false t37 (.int .i64 5) fun t38 =>
 zag t38
 (zal [(.int .i64 0), .snil] [(0, 1), (1, 1)] [] fun t39 =>
 zak 2 t8 t39 H fun H =>
 zad true 2 t8 H fun r0 =>
 zau [r0, (.int .i64 6)] (K · H))
 (zac .lss false t2 (.int .i64 0) fun t41 =>
 zab t41 false H (fun K' => K' t2 H) fun t43 H =>
 zab t41 false H (fun K' => K' t0 H) fun t44 H =>
 zab t41 false H (fun K' => zaf 1 t5 (K' · H)) fun t45 H =>
 zab t41 false H (fun K' => zad false 1 t45 H (K' · H)) fun t46 H =>
 zab t41 false H (fun K' => zai 3 t44 t46 (K' · H)) fun t47 H =>
 zab t41 false H (fun K' => zaf 2 t47 (K' · H)) fun t48 H =>
 zab t41 false H (fun K' => zad false 1 t48 H (K' · H)) fun t49 H =>
 zab t41 false H (fun K' => zah 1 t49 (K' · H)) fun t50 H =>
 zab t41 false H (fun K' => zac .geq false t43 t50 (K' · H)) fun t51 H =>
 zaj t41 (.bool true) t51 fun t52 =>
 zag t52
 (zal [(.int .i64 0), .snil] [(0, 1), (1, 1)] [] fun t53 =>
 zak 2 t8 t53 H fun H =>
 zad true 2 t8 H fun r0 =>
 zau [r0, (.int .i64 8)] (K · H))
 (zah 1 t3 fun t55 =>
 zaf 1 t5 fun t57 =>
 zad false 1 t57 H fun t58 =>
 zai 3 t0 t58 fun t59 =>
 zaf 2 t59 fun t60 =>
 zad false 1 t60 H fun t61 =>
 zai 2 t61 t2 fun t63 =>
 zaf 1 t63 fun t64 =>
 zad false 1 t64 H fun t65 =>
 zah 1 t65 fun t66 =>
 zac .neq false t55 t66 fun t67 =>
 zag t67
 (zal [(.int .i64 0), .snil] [(0, 1), (1, 1)] [] fun t68 =>
 zak 2 t8 t68 H fun H =>
 zad true 2 t8 H fun r0 =>
 zau [r0, (.int .i64 5)] (K · H))
 (zad true 3 t5 H fun t71 =>
 ACalls tP zeD [t0, t71, t2] H fun t73 H =>
 zar t73 0 fun t74 =>
 zar t73 1 fun t75 =>
 aUn .not t75 fun t77 =>
 zag t77
 (zal [(.int .i64 0), .snil] [(0, 1), (1, 1)] [] fun t78 =>
 zak 2 t8 t78 H fun H =>
 zad true 2 t8 H fun r0 =>
 zau [r0, (.int .i64 1)] (K · H))
 (zah 1 t3 fun t80 =>
 zrC t0 t2 t3 t5 t8 t74 (.int .i64 1) t3 t80 (.int .i64 0) H K)))))
theorem zzv {t3 t8 t24 t132 t133 t134 : AV} {H : zaa} {K : Kt} (Inv : Nat → AV → zaa → Prop) (n : Nat) (h0 : HSc H → Inv n t134 H)
  (round : Rd1 (fun t134 => zia t3 t8 t24 t132 t133 t134) (fun t134 => fun H Kb33 => zl1 t3 t8 t24 t132 t133 t134 H K Kb33) H Inv) : zrD t3 t8 t24 t132 t133 t134 H K :=
 lp1 (M := zcY) zzy t134 (by kernel_rfl) Inv n h0 round
theorem zzu {t3 t8 t19 t21 t113 t114 t115 : AV} {H : zaa} {K : Kt} (Inv : Nat → AV → zaa → Prop) (n : Nat) (h0 : HSc H → Inv n t115 H)
  (round : Rd1 (fun t115 => zh9 t3 t8 t19 t21 t113 t114 t115) (fun t115 => fun H Kb27 => zl0 t3 t8 t19 t21 t113 t114 t115 H K Kb27) H Inv) : zf1 t3 t8 t19 t21 t113 t114 t115 H K :=
 lp1 (M := zcY) zzx t115 (by kernel_rfl) Inv n h0 round
theorem zzt {t0 t2 t3 t5 t8 t12 t14 t79 t80 t81 : AV} {H : zaa} {K : Kt} (Inv : Nat → AV → AV → zaa → Prop) (n : Nat) (h0 : HSc H → Inv n t14 t81 H)
  (round : Rd2 (fun t14 => fun t81 => zh8 t0 t2 t3 t5 t8 t12 t14 t79 t80 t81) (fun t14 => fun t81 => fun H Kb15 => zh7 t0 t2 t3 t5 t8 t12 t14 t79 t80 t81 H K Kb15) H Inv) : zrC t0 t2 t3 t5 t8 t12 t14 t79 t80 t81 H K :=
 lp2 (M := zcY) zzw t14 t81 (by kernel_rfl) Inv n h0 round
theorem zzz {t0 t1 t2 t3 : AV} {H : zaa} {K : Kt} (h : HSc H → zrB t0 t1 t2 t3 H K) : ACalls tP zfA [t0, t1, t2, t3] H K :=
 zao (M := zcY) Tryz.func21 (c := zee) (by kernel_rfl) (fun hs => Eq.mpr (by kernel_rfl) (h hs))
def zcZ : Nat → List Bool
 | 13 => rl false [0,1,1,2,1,1,2,1,1,1,60,2,68]
 | 21 => rl false [0,1,2,1,1,1,2,1,5,1,1,1,81,3,40]
 | 300025 => rl false [0,1]
 | 27 => rl false [0,1,2,1,1,1,2,1,10,1,97,3,21]
 | _ => []
noncomputable def zef : Code := Tryz.f22.body.getD .skip
noncomputable def zl7 : List ResultVar := Tryz.f22.results.toList
def zib (t0 t2 t3 t5 t8 t10 t71 t72 : AV) : List AV := t0 :: ux 1 (t2 :: t3 :: ux 1 (t5 :: ux 2 (t8 :: ux 1 (t10 :: ux 60 (t71 :: t72 :: ux 68 [])))))
def zzJ : List Bool := zcZ 13
noncomputable def zzD : Code := zap [1, 1, 1, 1, 1, 1, 1, 0, 1, 0, 0] zef
def zzA (K : Kt) : AExit → List AV → zaa → Prop := zaq tP zcZ [1, 1, 1, 1, 1, 1, 1, 0, 1, 0] zef (zax tP zl7 K)
def zrF (t0 t2 t3 t5 t8 t10 t71 t72 : AV) (H : zaa) (K : Kt) : Prop := ALoop tP zzD (zzA K) (zib t0 t2 t3 t5 t8 t10 t71 t72) H
def zic (t0 t3 t5 t8 t14 t16 t98 t99 t100 : AV) : List AV := t0 :: ux 2 (t3 :: ux 1 (t5 :: ux 2 (t8 :: ux 5 (t14 :: ux 1 (t16 :: ux 81 (t98 :: t99 :: t100 :: ux 40 []))))))
def zzK : List Bool := zcZ 21
noncomputable def zzE : Code := zap [1, 1, 1, 1, 1, 1, 1, 1, 1, 1, 0, 1, 0, 0] zef
def zzB (K : Kt) : AExit → List AV → zaa → Prop := zaq tP zcZ [1, 1, 1, 1, 1, 1, 1, 1, 1, 1, 0, 1, 0] zef (zax tP zl7 K)
def zf2 (t0 t3 t5 t8 t14 t16 t98 t99 t100 : AV) (H : zaa) (K : Kt) : Prop := ALoop tP zzE (zzB K) (zic t0 t3 t5 t8 t14 t16 t98 t99 t100) H
def zid (t0 t3 t5 t8 t19 t117 t118 t119 : AV) : List AV := t0 :: ux 2 (t3 :: ux 1 (t5 :: ux 2 (t8 :: ux 10 (t19 :: ux 97 (t117 :: t118 :: t119 :: ux 21 [])))))
def zzL : List Bool := zcZ 27
noncomputable def zzF : Code := zap [1, 1, 1, 1, 1, 1, 1, 1, 1, 1, 1, 1, 0, 1, 0, 0] zef
def zzC (K : Kt) : AExit → List AV → zaa → Prop := zaq tP zcZ [1, 1, 1, 1, 1, 1, 1, 1, 1, 1, 1, 1, 0, 1, 0] zef (zax tP zl7 K)
def zrG (t0 t3 t5 t8 t19 t117 t118 t119 : AV) (H : zaa) (K : Kt) : Prop := ALoop tP zzF (zzC K) (zid t0 t3 t5 t8 t19 t117 t118 t119) H
def zl6 (t0 t3 t5 t8 t19 t117 t118 t119 : AV) (H : zaa) (K : Kt) (Kb27 : Lt) : Prop :=
 zac .lss false t119 t118 fun t120 =>
 zag t120
 (zai 1 t117 t119 fun t121 =>
 zad false 1 t121 H fun t122 =>
 zae H (fun K' => zaf 1 t19 (K' · H)) fun t123 =>
 zae H (fun K' => zam false 1 t123 H (K' · H)) fun t124 =>
 zae H (fun K' => K' t3 H) fun t125 =>
 zae H (fun K' => K' t122 H) fun t126 =>
 zae H (fun K' => zai 2 t125 t126 (K' · H)) fun t127 =>
 zae H (fun K' => zaf 1 t127 (K' · H)) fun t128 =>
 zae H (fun K' => zam false 1 t128 H (K' · H)) fun t129 =>
 zat zaw 2 32 t124 t129 H fun t130 H =>
 zae H (fun K' => zaf 1 t19 (K' · H)) fun t131 =>
 zak 1 t131 t130 H fun H =>
 zac .add false t119 (.int .i64 1) fun t132 =>
 Kb27 (zid t0 t3 t5 t8 t19 t117 t118 t132) H)
 (zad true 3 t5 H fun t134 =>
 zad true 2 t19 H fun t135 =>
 ACalls tP zgJ [t0, t134, t135] H fun t136 H =>
 aUn .not t136 fun t137 =>
 zag t137
 (zal [(.int .i64 0), .snil] [(0, 1), (1, 1)] [] fun t138 =>
 zak 2 t8 t138 H fun H =>
 zad true 2 t8 H fun r0 =>
 zau [r0, (.int .i64 13)] (K · H))
 (zad true 2 t19 H fun t139 =>
 ACalls tP zgM [t139] H fun t140 H =>
 zak 2 t8 t140 H fun H =>
 zad true 2 t8 H fun r0 =>
 zau [r0, (.int .i64 0)] (K · H)))
def zl5 (t0 t3 t5 t8 t14 t16 t98 t99 t100 : AV) (H : zaa) (K : Kt) (Kb21 : Lt) : Prop :=
 zac .lss false t100 t99 fun t101 =>
 zag t101
 (zai 1 t98 t100 fun t102 =>
 zad false 1 t102 H fun t103 =>
 zae H (fun K' => zaf 1 t16 (K' · H)) fun t104 =>
 zae H (fun K' => zam false 1 t104 H (K' · H)) fun t105 =>
 zae H (fun K' => K' t3 H) fun t106 =>
 zae H (fun K' => K' t103 H) fun t107 =>
 zae H (fun K' => zai 2 t106 t107 (K' · H)) fun t108 =>
 zae H (fun K' => zam true 2 t108 H (K' · H)) fun t109 =>
 zae H (fun K' => zay 2 [(.int .i64 0), .snil] 1 [(0, t109)] (K' · H)) fun t110 =>
 zat zaw 2 32 t105 t110 H fun t111 H =>
 zae H (fun K' => zaf 1 t16 (K' · H)) fun t112 =>
 zak 1 t112 t111 H fun H =>
 zac .add false t100 (.int .i64 1) fun t113 =>
 Kb21 (zic t0 t3 t5 t8 t14 t16 t98 t99 t113) H)
 (zad true 2 t16 H fun t114 =>
 zcL zaw 2 1 [(0, t114)] H fun t115 H =>
 zal [(.int .i64 0), .snil] [(0, 1), (1, 1)] [(1, t115)] fun t116 =>
 zav [(.int .i64 0), .snil] H fun t19 H =>
 zak 2 t19 t116 H fun H =>
 zah 1 t14 fun t118 =>
 zrG t0 t3 t5 t8 t19 t14 t118 (.int .i64 0) H K)
def zl4 (t0 t2 t3 t5 t8 t10 t71 t72 : AV) (H : zaa) (K : Kt) (Kb13 : Lt) : Prop :=
 zac .lss false t72 t71 fun t73 =>
 zag t73
 (zae H (fun K' => K' t0 H) fun t75 =>
 zae H (fun K' => K' t10 H) fun t76 =>
 zae H (fun K' => K' t72 H) fun t77 =>
 zae H (fun K' => zai 3 t76 t77 (K' · H)) fun t78 =>
 zae H (fun K' => zam true 3 t78 H (K' · H)) fun t79 =>
 zae H (fun K' => K' t3 H) fun t80 =>
 zae H (fun K' => K' t72 H) fun t81 =>
 zae H (fun K' => zai 2 t80 t81 (K' · H)) fun t82 =>
 zae H (fun K' => zam true 2 t82 H (K' · H)) fun t83 =>
 zbq H (fun H K' => ACalls tP zgJ [t75, t79, t83] H K') fun t84 =>
 zae H (fun K' => aUn .not t84 (K' · H)) fun t85 =>
 zag t85
 (zal [(.int .i64 0), .snil] [(0, 1), (1, 1)] [] fun t86 =>
 zak 2 t8 t86 H fun H =>
 zad true 2 t8 H fun r0 =>
 zau [r0, (.int .i64 1)] (K · H))
 (zac .add false t72 (.int .i64 1) fun t87 =>
 Kb13 (zib t0 t2 t3 t5 t8 t10 t71 t87) H))
 (zad true 3 t5 H fun t90 =>
 ACalls tP zkH [t0, t90, t2] H fun t92 H =>
 zar t92 0 fun t93 =>
 zar t92 1 fun t94 =>
 zar t92 2 fun t95 =>
 zal [(.int .i64 0), .snil] [(0, 1), (1, 1)] [(0, t2)] fun t97 =>
 zav [(.int .i64 0), .snil] H fun t16 H =>
 zak 2 t16 t97 H fun H =>
 zah 1 t93 fun t99 =>
 zf2 t0 t3 t5 t8 t94 t16 t93 t99 (.int .i64 0) H K)
def zrE (t0 t1 t2 t3 : AV) (H : zaa) (K : Kt) : Prop :=
 zas t1 H fun t5 H =>
 zav [(.int .i64 0), .snil] H fun t8 H =>
 zad true 3 t5 H fun t23 =>
 ACalls tP zfD [t0, t23] H fun t24 H =>
 aUn .not t24 fun t25 =>
 zag t25
 (zal [(.int .i64 0), .snil] [(0, 1), (1, 1)] [] fun t26 =>
 zak 2 t8 t26 H fun H =>
 zad true 2 t8 H fun r0 =>
 zau [r0, (.int .i64 1)] (K · H))
 (zaf 0 t5 fun t27 =>
 zad false 1 t27 H fun t28 =>
 zac .neq false t28 (.int .i64 5) fun t29 =>
 zag t29
 (zal [(.int .i64 0), .snil] [(0, 1), (1, 1)] [] fun t30 =>
 zak 2 t8 t30 H fun H =>
 zad true 2 t8 H fun r0 =>
 zau [r0, (.int .i64 6)] (K · H))
 (zac .lss false t2 (.int .i64 0) fun t32 =>
 zab t32 false H (fun K' => K' t2 H) fun t34 H =>
 zab t32 false H (fun K' => K' t0 H) fun t35 H =>
 zab t32 false H (fun K' => zaf 1 t5 (K' · H)) fun t36 H =>
 zab t32 false H (fun K' => zad false 1 t36 H (K' · H)) fun t37 H =>
 zab t32 false H (fun K' => zai 3 t35 t37 (K' · H)) fun t38 H =>
 zab t32 false H (fun K' => zaf 2 t38 (K' · H)) fun t39 H =>
 zab t32 false H (fun K' => zad false 1 t39 H (K' · H)) fun t40 H =>
 zab t32 false H (fun K' => zah 1 t40 (K' · H)) fun t41 H =>
 zab t32 false H (fun K' => zac .geq false t34 t41 (K' · H)) fun t42 H =>
 zaj t32 (.bool true) t42 fun t43 =>
 zag t43
 (zal [(.int .i64 0), .snil] [(0, 1), (1, 1)] [] fun t44 =>
 zak 2 t8 t44 H fun H =>
 zad true 2 t8 H fun r0 =>
 zau [r0, (.int .i64 8)] (K · H))
 (zah 1 t3 fun t46 =>
 zaf 1 t5 fun t48 =>
 zad false 1 t48 H fun t49 =>
 zai 3 t0 t49 fun t50 =>
 zaf 2 t50 fun t51 =>
 zad false 1 t51 H fun t52 =>
 zai 2 t52 t2 fun t54 =>
 zaf 1 t54 fun t55 =>
 zad false 1 t55 H fun t56 =>
 zah 1 t56 fun t57 =>
 zac .neq false t46 t57 fun t58 =>
 zag t58
 (zal [(.int .i64 0), .snil] [(0, 1), (1, 1)] [] fun t59 =>
 zak 2 t8 t59 H fun H =>
 zad true 2 t8 H fun r0 =>
 zau [r0, (.int .i64 5)] (K · H))
 (zad true 3 t5 H fun t62 =>
 ACalls tP zfw [t0, t62, t2] H fun t64 H =>
 zar t64 0 fun t65 =>
 zar t64 1 fun t66 =>
 aUn .not t66 fun t68 =>
 zag t68
 (zal [(.int .i64 0), .snil] [(0, 1), (1, 1)] [] fun t69 =>
 zak 2 t8 t69 H fun H =>
 zad true 2 t8 H fun r0 =>
 zau [r0, (.int .i64 1)] (K · H))
 (zah 1 t3 fun t71 =>
 zrF t0 t2 t3 t5 t8 t65 t71 (.int .i64 0) H K)))))
theorem zzI {t0 t3 t5 t8 t19 t117 t118 t119 : AV} {H : zaa} {K : Kt} (Inv : Nat → AV → zaa → Prop) (n : Nat) (h0 : HSc H → Inv n t119 H)
  (round : Rd1 (fun t119 => zid t0 t3 t5 t8 t19 t117 t118 t119) (fun t119 => fun H Kb27 => zl6 t0 t3 t5 t8 t19 t117 t118 t119 H K Kb27) H Inv) : zrG t0 t3 t5 t8 t19 t117 t118 t119 H K :=
 lp1 (M := zcZ) zzL t119 (by kernel_rfl) Inv n h0 round
theorem zzH {t0 t3 t5 t8 t14 t16 t98 t99 t100 : AV} {H : zaa} {K : Kt} (Inv : Nat → AV → zaa → Prop) (n : Nat) (h0 : HSc H → Inv n t100 H)
  (round : Rd1 (fun t100 => zic t0 t3 t5 t8 t14 t16 t98 t99 t100) (fun t100 => fun H Kb21 => zl5 t0 t3 t5 t8 t14 t16 t98 t99 t100 H K Kb21) H Inv) : zf2 t0 t3 t5 t8 t14 t16 t98 t99 t100 H K :=
 lp1 (M := zcZ) zzK t100 (by kernel_rfl) Inv n h0 round
theorem zzG {t0 t2 t3 t5 t8 t10 t71 t72 : AV} {H : zaa} {K : Kt} (Inv : Nat → AV → zaa → Prop) (n : Nat) (h0 : HSc H → Inv n t72 H)
  (round : Rd1 (fun t72 => zib t0 t2 t3 t5 t8 t10 t71 t72) (fun t72 => fun H Kb13 => zl4 t0 t2 t3 t5 t8 t10 t71 t72 H K Kb13) H Inv) : zrF t0 t2 t3 t5 t8 t10 t71 t72 H K :=
 lp1 (M := zcZ) zzJ t72 (by kernel_rfl) Inv n h0 round
theorem zzM {t0 t1 t2 t3 : AV} {H : zaa} {K : Kt} (h : HSc H → zrE t0 t1 t2 t3 H K) : ACalls tP zgF [t0, t1, t2, t3] H K :=
 zao (M := zcZ) Tryz.func22 (c := zef) (by kernel_rfl) (fun hs => Eq.mpr (by kernel_rfl) (h hs))
end Go.Proofs.YtacebbdfgbfgiaaGreat
namespace Go.Proofs.YtacebbdfgbfgiaaGreat
open Go Go.Abs
set_option maxRecDepth 8000
def RowA (H : zaa) (a : AV) (n : Nat) (ds : List AV) : Prop :=
 ds.length = n * 2 ∧ ds.all AV.known = true ∧ ((∃ id, a = .ms id 0 n n ∧ H[id]? = some (.cells ds)) ∨ (0 < n ∧ ∃ id e, a = .ov id n ∧ H[id]? = some (.vec e 2 n ds)))
theorem RowA.app {H J : zaa} {a : AV} {n : Nat} {ds : List AV} (h : RowA H a n ds) : RowA (H ++ J) a n ds := by
 obtain ⟨h1, h2, h3⟩ := h
 refine ⟨h1, h2, ?_⟩
 rcases h3 with ⟨id, rfl, h⟩ | ⟨h0, id, e, rfl, h⟩
 ·exact .inl ⟨id, rfl, by rw [List.getElem?_append_left (List.getElem?_eq_some_iff.1 h).1]; exact h⟩
 ·exact .inr ⟨h0, id, e, rfl, by rw [List.getElem?_append_left (List.getElem?_eq_some_iff.1 h).1]; exact h⟩
theorem zqe {H : zaa} {a : AV} {n : Nat} {ds : List AV} (hr : RowA H a n ds) (hn : n ≤ 1000000) (K : Kt) (h0 : n = 0 → K (.sl [] .none) H) (h1 : 0 < n → K (.ov H.length n) (H ++ [.vec zaw 2 n ds])) :
  ACalls tP zgR [a] H K := by
 refine zCo fun hs => ?_
 obtain ⟨hl, hk, hr⟩ := hr
 cases n with
 | zero =>
  rcases hr with ⟨id, rfl, h⟩ | ⟨h, _⟩
  ·have hds : ds = [] := by cases ds <;> simp_all
   subst hds
   simp [zi1, zer, zdY, zay, zbz, zaD, AV.pd, zat, zbT, h]
   exact h0 rfl
  ·omega
 | succ n =>
  have hkk := h1 (by omega)
  rcases hr with ⟨id, rfl, h⟩ | ⟨_, id, e, rfl, h⟩
  ·simp [zi1, zer, zdY, zay, zbz, zaD, AV.pd, zat, zbT, h]
   have ht : List.take ((n + 1) * 2) ds = ds := List.take_of_length_le (by omega)
   rw [ht]
   refine ⟨by omega, ⟨by simpa using hk, by omega, by omega, by omega⟩, hkk⟩
  ·simp [zi1, zer, zdY, zay, zbz, zaD, AV.pd, zat, zbT, h]
   refine ⟨⟨by simpa using hk, by omega, by omega, by omega⟩, hkk⟩
end Go.Proofs.YtacebbdfgbfgiaaGreat
