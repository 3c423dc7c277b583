/- The laws of tokens: the walks of the statements. -/
import Derived.Test.YtmbegappkkbfpaaTW6
import Derived.Test.YtmbegappkkbfpaaTL2
namespace Go.Proofs.Ytmbegappkkbfpaa
open Go Go.Abs
set_option linter.unusedSimpArgs false
set_option maxRecDepth 4000
theorem splitR_form (s : List UInt8) : ∃ (l : List Tk) (p e : Int), splitR s = .tup [.sl (l.map Tk.cs) .none, .int .i64 p, .int .i64 e] ∧ l.length ≤ 16385 ∧
    ((s.length ≤ 16384 ∧ e = 0 ∧ p = 0 ∧ toks (kwF kwds) s 0 = .ok l) ∨ (l = [] ∧ e ≠ 0 ∧ (s.length ≤ 16384 → ∃ q : Nat, p = q ∧ toks (kwF kwds) s 0 = .error (q, e)))) := by
  unfold splitR
  split
  · exact ⟨[], 0, 9, rfl, by simp, .inr ⟨rfl, by decide, fun h => by omega⟩⟩
  · rename_i hl
    cases h : toks (kwF kwds) s 0 with
    | error pe =>
      obtain ⟨p, e⟩ := pe
      obtain ⟨_, _, he, _⟩ := toks_errs _ _ s 0 (Nat.le_refl _) p e h
      exact ⟨[], p, e, rfl, by simp, .inr ⟨rfl, by rcases he with rfl | rfl <;> decide, fun _ => ⟨p, rfl, rfl⟩⟩⟩
    | ok l =>
      obtain ⟨hc, l', he, hg⟩ := toks_good _ s s.length s 0 (Nat.le_refl _) rfl (by omega) l h
      refine ⟨l, 0, 0, rfl, ?_, .inl ⟨by omega, rfl, rfl, rfl⟩⟩
      have cl : ∀ (l' : List Tk) (a : Nat), (∀ t ∈ l', GoodT (kwF kwds) t) → ∀ l2, chain s a (l' ++ l2) → a ≤ s.length → a + l'.length ≤ s.length := by
        intro l'
        induction l' with
        | nil => intro a _ l2 _ h; simpa using h
        | cons t l' ih =>
          intro a hg l2 hc ha
          obtain ⟨h1, h2, h3, h4⟩ := hc
          obtain ⟨b, r, n, _, _, ht, hx⟩ := hg t (by simp)
          have hn0 := tok_pos ht
          have hnl := tok_len ht
          have : t.text.length = n := by rw [hx, List.length_take]; omega
          have := ih (t.pos + t.text.length) (fun t ht => hg t (by simp [ht])) l2 h4 h2
          simp
          omega
      subst he
      have := cl l' 0 hg _ hc (by omega)
      simp
      omega
theorem awake27 (H : Heap) (K : AV → Heap → Prop) (hK : K (.bool true) H) : ACalls Try.prog 27 [] H K := by
  refine ACalls.out (f27_ok fun hs => ?_)
  have hO := outHere (K := K) (H := H) (r := .bool true) hs rfl rfl hK
  have e : splitR [97, 60, 61, 98] = .tup [.sl ([⟨1, [97], 0⟩, ⟨5, [60, 61], 1⟩, ⟨1, [98], 3⟩, ⟨6, [], 4⟩].map Tk.cs) .none, .int .i64 0, .int .i64 0] := by
    unfold splitR
    rw [if_neg (by decide), toks_ok (k := 1) (n := 1) _ (by decide) (by decide) (by rfl)]
    simp only [List.drop_succ_cons, List.drop_zero]
    rw [toks_ok (k := 5) (n := 2) _ (by decide) (by decide) (by rfl)]
    simp only [List.drop_succ_cons, List.drop_zero]
    rw [toks_ok (k := 1) (n := 1) _ (by decide) (by decide) (by rfl)]
    simp only [List.drop_succ_cons, List.drop_zero]
    rw [toks_nil]
    rfl
  unfold f27
  refine split25 _ _ _ ?_
  rw [e]
  simp [Tk.cs]
  exact hO
theorem tk_at {l : List Tk} {i : Nat} (h : i < l.length) : (l.map Tk.cs)[i]?.getD [] = [.int .i64 (l[i]).kind, .str (l[i]).text, .int .i64 (l[i]).pos] := by simp [h, Tk.cs]
theorem splits_law (s : List UInt8) : ACalls Try.prog 7 [.str s] [] fun r _ => r = .bool true := by
  refine ACalls.out (f7_ok fun hs => ?_)
  obtain ⟨l, p, e, hR, hl, _⟩ := splitR_form s
  unfold f7
  refine split25 _ _ _ ?_
  rw [hR]
  simp
  refine split26 _ _ _ ?_
  rw [hR]
  simp
  refine f7_loop6 (Inv := fun q t39 H' => ∃ i : Nat, i ≤ l.length ∧ q = l.length - i ∧ t39 = .int .i64 i ∧ H' = []) l.length ?_ ?_
  · intro _; exact ⟨0, by omega, by omega, rfl, rfl⟩
  · rintro q t39 H' ⟨i, hi, rfl, rfl, rfl⟩ hsc _ hsF Kb hKb
    by_cases hlt : i < l.length
    · have ha := tk_at hlt
      simp [f7_b6, hlt, ha, Tk.cs]
      rw [wrap_in (by omega) (by omega)]
      refine hKb _ _ ⟨l.length - (i + 1), by omega, Back.here (Nat.le_refl _) hs ?_ ⟨_, rfl, i + 1, by omega, rfl, by simp, rfl⟩⟩
      simp [f7_fr6, AV.sc, AV.scV, AV.scA, AV.scB]
    · simp [f7_b6, hlt]
      refine awake27 _ _ (outHere hs rfl rfl rfl)
end Go.Proofs.Ytmbegappkkbfpaa
