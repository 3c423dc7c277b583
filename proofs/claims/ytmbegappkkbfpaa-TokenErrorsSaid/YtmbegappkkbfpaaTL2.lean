/- Laws of tokens, in plain Lean: errors, joins. -/
import Derived.Test.YtmbegappkkbfpaaTL
namespace Go.Proofs.Ytmbegappkkbfpaa
open Go Go.Abs
set_option linter.unusedSimpArgs false
theorem skip_take : ∀ (r : List UInt8) (x : Nat), skipN r ≤ x → skipN (r.take x) = skipN r ∧ skipC (r.take x) = (skipC r).take (x - skipN r)
  | [], x, _ => by simp [skipN, skipC]
  | b :: r, x, h => by
    cases hb : (b == 10) with
    | true =>
      rw [(skipC_cons_eq hb r).1, (skipC_cons_eq hb r).2]
      cases x with
      | zero => simp [skipN, skipC]
      | succ x => simp only [List.take_succ_cons]; rw [(skipC_cons_eq hb _).1, (skipC_cons_eq hb _).2]; simp
    | false =>
      rw [(skipC_cons_ne hb r).2] at h
      obtain ⟨y, rfl⟩ : ∃ y, x = y + 1 := ⟨x - 1, by omega⟩
      obtain ⟨h1, h2⟩ := skip_take r y (by omega)
      simp only [List.take_succ_cons]
      rw [(skipC_cons_ne hb _).1, (skipC_cons_ne hb _).2, (skipC_cons_ne hb r).1, (skipC_cons_ne hb r).2, h1, h2]
      exact ⟨rfl, by congr 1; omega⟩
theorem toks_errs (kw : List UInt8 → Bool) : ∀ (m : Nat) (r : List UInt8) (q : Nat), r.length ≤ m → ∀ p e, toks kw r q = .error (p, e) →
    q ≤ p ∧ p < q + r.length ∧ (e = 2 ∨ e = 9) ∧ ∃ l, toks kw (r.take (p - q)) q = .ok l := by
  intro m
  induction m with
  | zero =>
    intro r q hm p e h
    have : r = [] := List.length_eq_zero_iff.1 (by omega)
    subst this
    rw [toks_nil] at h
    cases h
  | succ m ih =>
    intro r q hm p e he
    cases r with
    | nil => rw [toks_nil] at he; cases he
    | cons b r =>
      simp at hm
      rcases toks_cases kw b r q with ⟨hb, h⟩ | ⟨hb, hs, h⟩ | ⟨_, _, e', ht, h⟩ | ⟨hb, hs, k, n, ht, hn0, hn, h⟩
      · rw [h] at he
        obtain ⟨h1, h2, h3, l, h4⟩ := ih r (q + 1) hm p e he
        refine ⟨by omega, by simp; omega, h3, l, ?_⟩
        obtain ⟨y, hy⟩ : ∃ y, p - q = y + 1 := ⟨p - q - 1, by omega⟩
        rw [hy, List.take_succ_cons, toks_blank kw hb, show y = p - (q + 1) by omega]
        exact h4
      · rw [h] at he
        have hsl := skip_len r
        obtain ⟨h1, h2, h3, l, h4⟩ := ih (skipC r) (q + 1 + skipN r) (by omega) p e he
        refine ⟨by omega, by simp; omega, h3, l, ?_⟩
        obtain ⟨y, hy⟩ : ∃ y, p - q = y + 1 := ⟨p - q - 1, by omega⟩
        obtain ⟨k1, k2⟩ := skip_take r y (by omega)
        rw [hy, List.take_succ_cons, toks_hash kw hb hs, k1, k2, show y - skipN r = p - (q + 1 + skipN r) by omega]
        exact h4
      · rw [h] at he
        cases he
        refine ⟨Nat.le_refl _, by simp, tok_err ht, [⟨6, [], q⟩], ?_⟩
        rw [Nat.sub_self, List.take_zero, toks_nil]
      · rw [h] at he
        simp at hn
        cases hr : toks kw ((b :: r).drop n) (q + n) with
        | ok l2 => rw [hr] at he; cases he
        | error pe =>
          rw [hr] at he
          cases he
          obtain ⟨h1, h2, h3, l, h4⟩ := ih ((b :: r).drop n) (q + n) (by simp; omega) p e hr
          have h2' : p < q + (r.length + 1) := by
            have : ((b :: r).drop n).length = r.length + 1 - n := by simp
            omega
          refine ⟨by omega, by simpa using h2', h3, ?_⟩
          obtain ⟨y, hy⟩ : ∃ y, p - q = y + 1 := ⟨p - q - 1, by omega⟩
          have hcut : r.take y = r.take (n - 1) ++ (r.take y).drop (n - 1) := by
            conv => lhs; rw [← List.take_append_drop (n - 1) (r.take y)]
            rw [List.take_take, Nat.min_eq_left (by omega)]
          have ht' : tok kw b (r.take y) = .ok (k, n) := by
            rw [hcut]
            refine tok_local ht _ fun c hc => .inr ?_
            rw [List.head?_drop, List.getElem?_take] at hc
            split at hc
            · exact hc
            · cases hc
          rw [hy, List.take_succ_cons, toks_ok kw hb hs ht']
          have hd : (b :: r.take y).drop n = ((b :: r).drop n).take (p - (q + n)) := by
            obtain ⟨z, rfl⟩ : ∃ z, n = z + 1 := ⟨n - 1, by omega⟩
            rw [List.drop_succ_cons, List.drop_succ_cons, List.drop_take]
            congr 1
            omega
          rw [hd, h4]
          exact ⟨_, rfl⟩
/-! ### Joins -/
def joinT (l : List Tk) (sep : List UInt8) : List UInt8 := (l.map fun t => t.text ++ sep).flatten
def kt (t : Tk) : Int × List UInt8 := (t.kind, t.text)
structure Sep (kw : List UInt8 → Bool) (sep : List UInt8) : Prop where
  hd : ∃ c r, sep = c :: r ∧ Stop c
  skip : ∀ rest p, toks kw (sep ++ rest) p = toks kw rest (p + sep.length)
theorem join_good {kw : List UInt8 → Bool} {sep : List UInt8} (hS : Sep kw sep) : ∀ (l : List Tk), (∀ t ∈ l, GoodT kw t) → ∀ rest p, ∃ m, m.map kt = l.map kt ∧ toks kw (joinT l sep ++ rest) p = cat m (toks kw rest (p + (joinT l sep).length))
  | [], _, rest, p => ⟨[], rfl, by simp [joinT]⟩
  | t :: l, h, rest, p => by
    obtain ⟨b, r, n, hb, hs, ht, hx⟩ := h t (by simp)
    obtain ⟨c, r', hsep, hst⟩ := hS.hd
    have hn0 := tok_pos ht
    have hn := tok_len ht
    have hxl : t.text.length = n := by rw [hx, List.length_take]; omega
    obtain ⟨z, rfl⟩ : ∃ z, n = z + 1 := ⟨n - 1, by omega⟩
    have htx : t.text = b :: r.take z := by rw [hx]; rfl
    obtain ⟨m, hm1, hm2⟩ := join_good hS l (fun t ht => h t (by simp [ht])) rest (p + (z + 1) + sep.length)
    refine ⟨⟨t.kind, t.text, p⟩ :: m, by simp [hm1, kt], ?_⟩
    have e : joinT (t :: l) sep ++ rest = b :: (r.take z ++ (sep ++ (joinT l sep ++ rest))) := by
      simp [joinT, htx]
    have ht' : tok kw b (r.take z ++ (sep ++ (joinT l sep ++ rest))) = .ok (t.kind, z + 1) := by
      refine tok_local ht _ fun x hx => .inl ?_
      rw [hsep] at hx
      simp at hx
      subst hx
      exact hst
    have hzl : (r.take z).length = z := by
      have := hxl
      rw [htx] at this
      simpa using this
    rw [e, toks_ok kw hb hs ht']
    have e1 : (b :: (r.take z ++ (sep ++ (joinT l sep ++ rest)))).take (z + 1) = t.text := by
      rw [htx, List.take_succ_cons, List.take_append_of_le_length (by omega), List.take_of_length_le (by omega)]
    have e2 : (b :: (r.take z ++ (sep ++ (joinT l sep ++ rest)))).drop (z + 1) = sep ++ (joinT l sep ++ rest) := by
      rw [List.drop_succ_cons, List.drop_append_of_le_length (by omega), List.drop_of_length_le (by omega), List.nil_append]
    rw [e1, e2, hS.skip, hm2, cat_cat]
    have e3 : (joinT (t :: l) sep).length = z + 1 + sep.length + (joinT l sep).length := by
      simp [joinT, htx, hzl]; omega
    rw [e3]
    simp only [Nat.add_assoc, List.singleton_append]
theorem join_all {kw : List UInt8 → Bool} {sep : List UInt8} (hS : Sep kw sep) {l : List Tk} {q : Nat} (h : ∀ t ∈ l, GoodT kw t) :
    ∃ m, m.map kt = (l ++ [(⟨6, [], q⟩ : Tk)]).map kt ∧ toks kw (joinT (l ++ [(⟨6, [], q⟩ : Tk)]) sep) 0 = .ok m := by
  obtain ⟨m, h1, h2⟩ := join_good hS l h sep 0
  have e : joinT (l ++ [(⟨6, [], q⟩ : Tk)]) sep = joinT l sep ++ sep := by simp [joinT]
  have e2 := hS.skip [] (0 + (joinT l sep).length)
  rw [List.append_nil, toks_nil] at e2
  rw [e2] at h2
  refine ⟨m ++ [⟨6, [], 0 + (joinT l sep).length + sep.length⟩], by simp [h1, kt], ?_⟩
  rw [e, h2]
  rfl
theorem sep1 (kw : List UInt8 → Bool) : Sep kw [32] := ⟨⟨32, [], rfl, .inl rfl⟩, fun rest p => toks_blank kw rfl rest p⟩
theorem sep2 (kw : List UInt8 → Bool) : Sep kw [9, 13, 10] := ⟨⟨9, _, rfl, .inr (.inl rfl)⟩, fun rest p => by
  show toks kw (9 :: 13 :: 10 :: rest) p = _
  rw [toks_blank kw rfl, toks_blank kw rfl, toks_blank kw rfl]; rfl⟩
theorem skip_comment : ∀ (c : List UInt8), (∀ b ∈ c, (b == 10) = false) → ∀ rest, skipC (c ++ 10 :: rest) = 10 :: rest ∧ skipN (c ++ 10 :: rest) = c.length
  | [], _, rest => ⟨(skipC_cons_eq rfl rest).1, (skipC_cons_eq rfl rest).2⟩
  | b :: c, h, rest => by
    have hb := h b (by simp)
    obtain ⟨h1, h2⟩ := skip_comment c (fun b hb => h b (by simp [hb])) rest
    rw [List.cons_append, (skipC_cons_ne hb _).1, (skipC_cons_ne hb _).2, h1, h2]
    exact ⟨rfl, by simp; omega⟩
theorem sep3 (kw : List UInt8 → Bool) (c : List UInt8) (h : ∀ b ∈ c, (b == 10) = false) : Sep kw (35 :: c ++ [10]) := ⟨⟨35, c ++ [10], rfl, .inr (.inr rfl)⟩, fun rest p => by
  show toks kw (35 :: (c ++ [10] ++ rest)) p = _
  have e : c ++ [10] ++ rest = c ++ 10 :: rest := by simp
  rw [e, toks_hash kw rfl rfl, (skip_comment c h rest).1, (skip_comment c h rest).2, toks_blank kw rfl]
  congr 1
  simp; omega⟩
end Go.Proofs.Ytmbegappkkbfpaa
