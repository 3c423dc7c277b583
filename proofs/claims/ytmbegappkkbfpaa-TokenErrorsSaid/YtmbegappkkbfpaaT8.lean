/- The laws of tokens: places and errors. -/
import Derived.Test.YtmbegappkkbfpaaT7
namespace Go.Proofs.Ytmbegappkkbfpaa
open Go Go.Abs
set_option linter.unusedSimpArgs false
set_option maxRecDepth 4000
theorem chain_at {src : List UInt8} : ∀ {l : List Tk} {a : Nat}, chain src a l → ∀ i (h : i < l.length), (i = 0 → a ≤ (l[i]).pos) ∧ (∀ j (_ : i = j + 1), (l[j]'(by omega)).pos + (l[j]'(by omega)).text.length ≤ (l[i]).pos) ∧ (l[i]).pos + (l[i]).text.length ≤ src.length ∧ (src.drop (l[i]).pos).take (l[i]).text.length = (l[i]).text
  | [], _, _, i, h => by simp at h
  | t :: l, a, hc, 0, h => ⟨fun _ => hc.1, fun j hj => by omega, hc.2.1, hc.2.2.1⟩
  | t :: l, a, hc, i + 1, h => by
    have hi : i < l.length := by simpa using h
    obtain ⟨h1, h2, h3, h4⟩ := chain_at hc.2.2.2 i hi
    refine ⟨fun h => by omega, fun j hj => ?_, h3, h4⟩
    obtain rfl : i = j := by omega
    cases i with
    | zero => exact h1 rfl
    | succ k => exact h2 k rfl
def endAt (l : List Tk) (i : Nat) : Nat := match i with | 0 => 0 | j + 1 => match l[j]? with | some t => t.pos + t.text.length | none => 0
theorem places_law (s : List UInt8) : ACalls Try.prog 8 [.str s] [] fun r _ => r = .bool true := by
  refine ACalls.out (f8_ok fun hs => ?_)
  obtain ⟨l, p, e, hR, hl, hcase⟩ := splitR_form s
  unfold f8
  refine split25 _ _ _ ?_
  rw [hR]
  rcases hcase with ⟨hsl, rfl, rfl, hok⟩ | ⟨_, he, _⟩
  · obtain ⟨hch, l', hl', _⟩ := toks_good _ s s.length s 0 (Nat.le_refl _) rfl (by omega) l hok
    simp
    refine f8_loop6 (Inv := fun q t6 t20 H' => ∃ i : Nat, i ≤ l.length ∧ q = l.length - i ∧ t20 = .int .i64 i ∧ t6 = .int .i64 (endAt l i) ∧ H' = []) l.length ?_ ?_
    · intro _; exact ⟨0, by omega, by omega, rfl, rfl, rfl⟩
    · rintro q t6 t20 H' ⟨i, hi, rfl, rfl, rfl, rfl⟩ hsc _ hsF Kb hKb
      by_cases hlt : i < l.length
      · have ha := tk_at hlt
        obtain ⟨h1, h2, h3, h4⟩ := chain_at hch i hlt
        have hend : endAt l i ≤ (l[i]).pos := by
          cases i with
          | zero => simp [endAt]
          | succ j =>
            have hj : j < l.length := by omega
            have := h2 j rfl
            simpa [endAt, hj] using this
        have hE : ¬ ((l[i]).pos : Int) < endAt l i := by omega
        have w1 : IntKind.i64.wrap (((l[i]).pos : Int) + (l[i]).text.length) = ((l[i]).pos : Int) + (l[i]).text.length := wrap_in (by omega) (by omega)
        have w2 : IntKind.i64.wrap ((i : Int) + 1) = (i : Int) + 1 := wrap_in (by omega) (by omega)
        have h3' : ¬ (s.length : Int) < ((l[i]).pos : Int) + (l[i]).text.length := by omega
        have h4' : List.drop (l[i]).pos (List.take (((l[i]).pos : Int) + (l[i]).text.length).toNat s) = (l[i]).text := by
          rw [show (((l[i]).pos : Int) + (l[i]).text.length).toNat = (l[i]).pos + (l[i]).text.length by omega, tk_drop]
          exact h4
        simp [f8_b6, hlt, ha, AV.known, hE, w1, w2, h3', h4', Tk.cs]
        refine ⟨by omega, ⟨by omega, by omega⟩, ?_⟩
        refine hKb _ ([] ++ [_]) ⟨l.length - (i + 1), by omega, Back.same (H := []) (Nat.le_refl _) hs ?_ ⟨_, _, rfl, i + 1, by omega, rfl, by simp, by simp [endAt, hlt], rfl⟩⟩
        simp [f8_fr6, AV.sc, AV.scV, AV.scA, AV.scB]
      · have hlen : l.length = l'.length + 1 := by rw [hl']; simp
        have hpos : 0 < l.length := by omega
        have hlast : l[l'.length]? = some ⟨6, [], s.length⟩ := by rw [hl']; simp
        have w1 : IntKind.i64.wrap ((l.length : Int) - 1) = l'.length := by rw [hlen]; rw [wrap_in (by omega) (by omega)]; omega
        simp [f8_b6, hlt, hpos, w1, hlast, Tk.cs]
        refine ⟨by omega, awake27 _ _ ?_⟩
        exact outHere (H := []) hs rfl rfl rfl
  · have he' : (e != 0) = true := by simpa using he
    simp [he']
    exact awake27 _ _ (outHere hs rfl rfl rfl)
theorem errors_law (s : List UInt8) : ACalls Try.prog 10 [.str s] [] fun r _ => r = .bool true := by
  refine ACalls.out (f10_ok fun hs => ?_)
  have hT : Out (List.length ([] : Heap)) (fun r _ => r = .bool true) (.bool true) [] := outHere hs rfl rfl rfl
  obtain ⟨l, p, e, hR, hl, hcase⟩ := splitR_form s
  unfold f10
  refine split25 _ _ _ ?_
  rw [hR]
  rcases hcase with ⟨hsl, rfl, rfl, hok⟩ | ⟨rfl, he, hq⟩
  · simp
    exact awake27 _ _ hT
  · have he' : (e == 0) = false := by simpa using he
    by_cases hlen : s.length > 16384
    · have hlen' : (16384 : Int) < s.length := by omega
      simp [he', hlen']
      exact awake27 _ _ hT
    · have hlen' : ¬ (16384 : Int) < s.length := by omega
      obtain ⟨q, rfl, hq2⟩ := hq (by omega)
      obtain ⟨_, h2, _, m, h4⟩ := toks_errs _ _ s 0 (Nat.le_refl _) q e hq2
      have e1 : ¬ (q : Int) < 0 := by omega
      have e2 : ¬ (s.length : Int) ≤ q := by omega
      simp [he', hlen', e1, e2]
      refine ⟨by omega, ?_⟩
      refine split25 _ _ _ ?_
      have : splitR (s.take q) = .tup [.sl (m.map Tk.cs) .none, .int .i64 0, .int .i64 0] := by
        unfold splitR
        rw [if_neg (by simp; omega)]
        simp only [Nat.sub_zero] at h4
        rw [h4]
      rw [this]
      simp
      refine awake27 _ _ ?_
      simpa using hT
end Go.Proofs.Ytmbegappkkbfpaa
