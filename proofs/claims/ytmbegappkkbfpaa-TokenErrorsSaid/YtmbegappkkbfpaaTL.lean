/- Laws of tokens, in plain Lean: places, errors, joins. -/
import Derived.Test.YtmbegappkkbfpaaTW5
namespace Go.Proofs.Ytmbegappkkbfpaa
open Go Go.Abs
set_option linter.unusedSimpArgs false
/-- A step of the reading, by cases. -/
theorem toks_cases (kw : List UInt8 → Bool) (b : UInt8) (r : List UInt8) (p : Nat) :
    (bBlank b = true ∧ toks kw (b :: r) p = toks kw r (p + 1)) ∨
    (bBlank b = false ∧ (b == 35) = true ∧ toks kw (b :: r) p = toks kw (skipC r) (p + 1 + skipN r)) ∨
    (bBlank b = false ∧ (b == 35) = false ∧ ∃ e, tok kw b r = .error e ∧ toks kw (b :: r) p = .error (p, e)) ∨
    (bBlank b = false ∧ (b == 35) = false ∧ ∃ k n, tok kw b r = .ok (k, n) ∧ 0 < n ∧ n ≤ (b :: r).length ∧ toks kw (b :: r) p = cat [⟨k, (b :: r).take n, p⟩] (toks kw ((b :: r).drop n) (p + n))) := by
  cases h : bBlank b with
  | true => exact .inl ⟨rfl, toks_blank kw h r p⟩
  | false =>
    cases h2 : (b == 35) with
    | true => exact .inr (.inl ⟨rfl, rfl, toks_hash kw h h2 r p⟩)
    | false =>
      cases ht : tok kw b r with
      | error e => exact .inr (.inr (.inl ⟨rfl, rfl, e, rfl, toks_err kw h h2 ht⟩))
      | ok kn =>
        obtain ⟨k, n⟩ := kn
        exact .inr (.inr (.inr ⟨rfl, rfl, k, n, rfl, tok_pos ht, tok_len ht, toks_ok kw h h2 ht⟩))
theorem skip_len (r : List UInt8) : skipN r + (skipC r).length = r.length := by
  have := congrArg List.length (List.takeWhile_append_dropWhile (p := (· != 10)) (l := r))
  rw [List.length_append] at this
  exact this
theorem skip_drop (r : List UInt8) : r.drop (skipN r) = skipC r := by
  induction r with
  | nil => rfl
  | cons b r ih =>
    cases h : (b == 10) with
    | true => rw [(skipC_cons_eq h r).1, (skipC_cons_eq h r).2]; rfl
    | false => rw [(skipC_cons_ne h r).1, (skipC_cons_ne h r).2, Nat.add_comm, List.drop_succ_cons, ih]
/-- A token that was read: its text is a token's text. -/
def GoodT (kw : List UInt8 → Bool) (t : Tk) : Prop := ∃ b r n, bBlank b = false ∧ (b == 35) = false ∧ tok kw b r = .ok (t.kind, n) ∧ t.text = (b :: r).take n
def chain (src : List UInt8) : Nat → List Tk → Prop
  | _, [] => True
  | a, t :: l => a ≤ t.pos ∧ t.pos + t.text.length ≤ src.length ∧ (src.drop t.pos).take t.text.length = t.text ∧ chain src (t.pos + t.text.length) l
theorem chain_mono {src : List UInt8} {a a' : Nat} (h : a' ≤ a) : ∀ {l : List Tk}, chain src a l → chain src a' l
  | [], _ => trivial
  | _ :: _, hc => ⟨Nat.le_trans h hc.1, hc.2⟩
theorem toks_good (kw : List UInt8 → Bool) (src : List UInt8) : ∀ (m : Nat) (r : List UInt8) (p : Nat), r.length ≤ m → src.drop p = r → p ≤ src.length → ∀ l, toks kw r p = .ok l →
    chain src p l ∧ ∃ l', l = l' ++ [⟨6, [], src.length⟩] ∧ ∀ t ∈ l', GoodT kw t := by
  intro m
  induction m with
  | zero =>
    intro r p hm hd hp l hl
    have : r = [] := List.length_eq_zero_iff.1 (by omega)
    subst this
    have hp' : p = src.length := by have := congrArg List.length hd; simp at this; omega
    subst hp'
    rw [toks_nil] at hl
    cases hl
    exact ⟨⟨Nat.le_refl _, by simp, by simp, trivial⟩, [], rfl, by simp⟩
  | succ m ih =>
    intro r p hm hd hp l hl
    cases r with
    | nil =>
      have hp' : p = src.length := by have := congrArg List.length hd; simp at this; omega
      subst hp'
      rw [toks_nil] at hl
      cases hl
      exact ⟨⟨Nat.le_refl _, by simp, by simp, trivial⟩, [], rfl, by simp⟩
    | cons b r =>
      have hlen : p + (r.length + 1) = src.length := by have := congrArg List.length hd; simp at this; omega
      have hd1 : src.drop (p + 1) = r := by rw [← List.drop_drop, hd]; rfl
      simp at hm
      rcases toks_cases kw b r p with ⟨_, h⟩ | ⟨_, _, h⟩ | ⟨_, _, e, _, h⟩ | ⟨hb, hs, k, n, ht, hn0, hn, h⟩
      · rw [h] at hl
        obtain ⟨h1, h2⟩ := ih r (p + 1) hm hd1 (by omega) l hl
        exact ⟨chain_mono (by omega) h1, h2⟩
      · rw [h] at hl
        have hsl := skip_len r
        obtain ⟨h1, h2⟩ := ih (skipC r) (p + 1 + skipN r) (by omega) (by rw [← List.drop_drop, hd1, skip_drop]) (by omega) l hl
        exact ⟨chain_mono (by omega) h1, h2⟩
      · rw [h] at hl; cases hl
      · rw [h] at hl
        simp at hn
        cases hr : toks kw ((b :: r).drop n) (p + n) with
        | error e => rw [hr] at hl; cases hl
        | ok l2 =>
          rw [hr] at hl
          simp only [cat, Except.ok.injEq] at hl
          subst hl
          obtain ⟨h1, l', h2, h3⟩ := ih ((b :: r).drop n) (p + n) (by simp; omega) (by rw [← List.drop_drop, hd]) (by omega) l2 hr
          have hlt : ((b :: r).take n).length = n := by simp; omega
          refine ⟨⟨Nat.le_refl _, by rw [hlt]; simp; omega, by rw [hlt]; simp only; rw [hd], by rw [hlt]; exact h1⟩, ⟨k, (b :: r).take n, p⟩ :: l', by simp [h2], ?_⟩
          intro t ht'
          rcases List.mem_cons.1 ht' with rfl | ht'
          · exact ⟨b, r, n, hb, hs, ht, rfl⟩
          · exact h3 t ht'
/-! ### A token does not depend on what stands behind it -/
def Stop (c : UInt8) : Prop := c = 32 ∨ c = 9 ∨ c = 35
theorem takeWhile_local {p : UInt8 → Bool} : ∀ (r r2 : List UInt8), (∀ c, r2.head? = some c → p c = false ∨ r[(r.takeWhile p).length]? = some c) → (r.take (r.takeWhile p).length ++ r2).takeWhile p = r.takeWhile p
  | [], r2, h => by
    cases r2 with
    | nil => rfl
    | cons c r2 =>
      rcases h c rfl with h | h
      · simp [h]
      · simp at h
  | b :: r, r2, h => by
    cases hb : p b with
    | true =>
      simp only [List.takeWhile_cons, hb, if_true, List.length_cons, List.take_succ_cons, List.cons_append]
      congr 1
      apply takeWhile_local r r2
      intro c hc
      rcases h c hc with h | h
      · exact .inl h
      · right; simpa [List.takeWhile_cons, hb] using h
    | false =>
      simp only [List.takeWhile_cons, hb, Bool.false_eq_true, if_false, List.length_nil, List.take_zero, List.nil_append]
      cases r2 with
      | nil => rfl
      | cons c r2 =>
        rcases h c rfl with h | h
        · simp [h]
        · simp [List.takeWhile_cons, hb] at h
          subst h
          simp [hb]
theorem stop_in {c : UInt8} (h : Stop c) : bIn c = false ∧ bDig c = false ∧ c ≠ 61 ∧ c ≠ 62 := by
  rcases h with rfl | rfl | rfl <;> decide
theorem tok_local {kw : List UInt8 → Bool} {b : UInt8} {r : List UInt8} {k : Int} {n : Nat} (h : tok kw b r = .ok (k, n)) (r2 : List UInt8)
    (hs : ∀ c, r2.head? = some c → Stop c ∨ r[n - 1]? = some c) : tok kw b (r.take (n - 1) ++ r2) = .ok (k, n) := by
  unfold tok at h ⊢
  by_cases h1 : (bLow b || bUp b) = true
  · rw [if_pos h1] at h ⊢
    simp only at h ⊢
    split at h
    · cases h
    · rename_i h24
      simp only [Except.ok.injEq, Prod.mk.injEq] at h
      obtain ⟨hk, rfl⟩ := h
      simp only [Nat.add_sub_cancel] at hs ⊢
      have e1 := takeWhile_local (p := bIn) r r2 (fun c hc => (hs c hc).imp (fun h => (stop_in h).1) id)
      rw [e1, if_neg h24]
      have e2 : (b :: (r.take (r.takeWhile bIn).length ++ r2)).take ((r.takeWhile bIn).length + 1) = (b :: r).take ((r.takeWhile bIn).length + 1) := by
        have := take_takeWhile (p := bIn) b (r.take (r.takeWhile bIn).length ++ r2)
        rw [e1] at this
        rw [this, take_takeWhile]
      rw [e2, hk]
  · rw [if_neg h1] at h ⊢
    by_cases h2 : bDig b = true
    · rw [if_pos h2] at h ⊢
      simp only at h ⊢
      split at h
      · cases h
      · rename_i h48
        split at h
        · rename_i hsm
          simp only [Except.ok.injEq, Prod.mk.injEq] at h
          obtain ⟨hk, rfl⟩ := h
          simp only [Nat.add_sub_cancel] at hs ⊢
          have e1 := takeWhile_local (p := bDig) r r2 (fun c hc => (hs c hc).imp (fun h => (stop_in h).2.1) id)
          rw [e1, if_neg h48]
          have e2 : (b :: (r.take (r.takeWhile bDig).length ++ r2)).take ((r.takeWhile bDig).length + 1) = (b :: r).take ((r.takeWhile bDig).length + 1) := by
            have := take_takeWhile (p := bDig) b (r.take (r.takeWhile bDig).length ++ r2)
            rw [e1] at this
            rw [this, take_takeWhile]
          rw [e2, if_pos hsm, hk]
        · cases h
    · rw [if_neg h2] at h ⊢
      simp only at h ⊢
      split at h
      · cases h
      · rename_i h0
        simp only [Except.ok.injEq, Prod.mk.injEq] at h
        obtain ⟨hk, hn⟩ := h
        have e : sgn (b :: (r.take (n - 1) ++ r2)) = n := by
          cases h2 : sgn2 (b :: r) with
          | true =>
            have : sgn (b :: r) = 2 := by simp [sgn, h2]
            rw [this] at hn
            subst hn
            have h2' : sgn2 (b :: (r.take 1 ++ r2)) = true := by
              cases r with
              | nil => simp [sgn2] at h2
              | cons c r => simpa [sgn2] using h2
            simp [sgn, h2']
          | false =>
            have hn' := hn
            rw [sgn_cons b r h2] at hn
            have hc : sgns.contains b = true := by
              cases hc : sgns.contains b with
              | true => rfl
              | false => exfalso; apply h0; rw [sgn_cons b r h2, hc]; rfl
            rw [hc] at hn
            simp only [if_true] at hn
            subst hn
            have h2' : sgn2 (b :: (r.take 0 ++ r2)) = false := by
              simp only [List.take_zero, List.nil_append]
              cases r2 with
              | nil => simp [sgn2]
              | cons c r2 =>
                rcases hs c rfl with h | h
                · obtain ⟨_, _, h61, h62⟩ := stop_in h
                  simp [sgn2, h61, h62]
                · cases r with
                  | nil => simp at h
                  | cons d r => simp at h; subst h; simpa [sgn2] using h2
            rw [Nat.sub_self, sgn_cons _ _ h2', hc]
            rfl
        rw [e, if_neg (by rw [← hn]; exact h0), hk]
end Go.Proofs.Ytmbegappkkbfpaa
