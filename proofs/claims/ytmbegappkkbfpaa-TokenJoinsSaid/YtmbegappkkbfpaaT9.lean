/- The laws of tokens: joins. -/
import Derived.Test.YtmbegappkkbfpaaT8
namespace Go.Proofs.Ytmbegappkkbfpaa
open Go Go.Abs
set_option linter.unusedSimpArgs false
set_option maxRecDepth 4000
theorem joinT_snoc (l : List Tk) (t : Tk) (sep : List UInt8) : joinT (l ++ [t]) sep = joinT l sep ++ (t.text ++ sep) := by simp [joinT]
theorem joinT_le (sep : List UInt8) (c d : Nat) (hs : sep.length ≤ d) : ∀ (l : List Tk), (∀ t ∈ l, t.text.length ≤ c) → (joinT l sep).length ≤ l.length * (c + d)
  | [], _ => by simp [joinT]
  | t :: l, h => by
    have h1 := joinT_le sep c d hs l (fun t ht => h t (by simp [ht]))
    have h2 := h t (by simp)
    have : (joinT (t :: l) sep).length = t.text.length + sep.length + (joinT l sep).length := by simp [joinT]; omega
    rw [this, List.length_cons, Nat.succ_mul]
    omega
theorem joined28 (l : List Tk) (sep : List UInt8) (hl : l.length ≤ 500) (hs : sep.length ≤ 30) (ht : ∀ t ∈ l, t.text.length ≤ 16384) (H : Heap) (K : AV → Heap → Prop) (hK : K (.str (joinT l sep)) H) : ACalls Try.prog 28 [.sl (l.map Tk.cs) .none, .str sep] H K := by
  refine ACalls.out (f28_ok fun hsc0 => ?_)
  have hO := outHere (K := K) (H := H) (r := .str (joinT l sep)) hsc0 rfl rfl hK
  simp [f28]
  refine f28_loop3 (Inv := fun q t5 t10 H' => ∃ i : Nat, i ≤ l.length ∧ q = l.length - i ∧ t10 = .int .i64 i ∧ t5 = .str (joinT (l.take i) sep) ∧ H' = H) l.length ?_ ?_
  · intro _; exact ⟨0, by omega, by omega, rfl, rfl, rfl⟩
  · rintro q t5 t10 H' ⟨i, hi, rfl, rfl, rfl, rfl⟩ hsc _ hsF Kb hKb
    by_cases hlt : i < l.length
    · have ha := tk_at hlt
      have hb := joinT_le sep 16384 30 hs (l.take i) (fun t h => ht t (List.mem_of_mem_take h))
      have hlen : (l.take i).length = i := by simp; omega
      rw [hlen] at hb
      have h3 := ht l[i] (List.getElem_mem hlt)
      have hi5 : i * (16384 + 30) ≤ 500 * (16384 + 30) := Nat.mul_le_mul_right _ (by omega)
      simp [f28_b3, hlt, ha, AV.known, Tk.cs]
      rw [wrap_in (by omega) (by omega)]
      refine ⟨by omega, by omega, ?_⟩
      refine hKb _ _ ⟨l.length - (i + 1), by omega, Back.same (Nat.le_refl _) hsc ?_ ⟨_, _, rfl, i + 1, by omega, rfl, by simp, ?_, rfl⟩⟩
      · simp [f28_fr3, AV.sc, AV.scV, AV.scA, AV.scB]
      · rw [List.take_succ_eq_append_getElem hlt, joinT_snoc]
    · simp [f28_b3, hlt]
      obtain rfl : i = l.length := by omega
      rw [List.take_length]
      exact hO
theorem joins_law (s c : List UInt8) : ACalls Try.prog 9 [.str s, .str c] [] fun r _ => r = .bool true := by
  refine ACalls.out (f9_ok fun hs => ?_)
  have hT : Out (List.length ([] : Heap)) (fun r _ => r = .bool true) (.bool true) [] := outHere hs rfl rfl rfl
  obtain ⟨l, p, e, hR, hl, hcase⟩ := splitR_form s
  unfold f9
  refine split25 _ _ _ ?_
  rw [hR]
  rcases hcase with ⟨hsl, rfl, rfl, hok⟩ | ⟨rfl, he, hq⟩
  case inr =>
    have he' : (e != 0) = true := by simpa using he
    simp [he']
    exact awake27 _ _ hT
  case inl =>
  by_cases h5 : l.length > 500
  · have h5' : (500 : Int) < l.length := by omega
    simp [h5']
    exact awake27 _ _ hT
  have h5' : ¬ (500 : Int) < l.length := by omega
  by_cases h20 : c.length > 20
  · have h20' : (20 : Int) < c.length := by omega
    simp [h5', h20']
    exact awake27 _ _ hT
  have h20' : ¬ (20 : Int) < c.length := by omega
  simp [h5', h20']
  obtain ⟨hch, l', hl', hgood⟩ := toks_good _ s s.length s 0 (Nat.le_refl _) rfl (by omega) l hok
  have htx : ∀ t ∈ l, t.text.length ≤ 16384 := by
    intro t ht
    obtain ⟨i, hi, rfl⟩ := List.mem_iff_getElem.1 ht
    obtain ⟨_, _, h3, _⟩ := chain_at hch i hi
    omega
  refine f9_loop5 (Inv := fun q t8 H' => ∃ i : Nat, i ≤ c.length ∧ q = c.length - i ∧ t8 = .int .i64 i ∧ (∀ b ∈ c.take i, (b == 10) = false) ∧ H' = []) c.length ?_ ?_
  · intro _; exact ⟨0, by omega, by omega, rfl, by simp, rfl⟩
  · rintro q t8 H' ⟨i, hi, rfl, rfl, hno, rfl⟩ hsc _ hsF Kb hKb
    by_cases hlt : i < c.length
    · have e10 : ((c[i].toNat : Int) == 10) = (c[i] == 10) := u8_eq c[i] 10
      cases hz : (c[i] == 10) with
      | true =>
        simp [f9_b5, hlt, e10, hz]
        exact awake27 _ _ hT
      | false =>
        simp [f9_b5, hlt, e10, hz]
        rw [wrap_in (by omega) (by omega)]
        refine hKb _ _ ⟨c.length - (i + 1), by omega, Back.here (Nat.le_refl _) hs ?_ ⟨_, rfl, i + 1, by omega, rfl, by simp, ?_, rfl⟩⟩
        · simp [f9_fr5, AV.sc, AV.scV, AV.scA, AV.scB]
        · rw [List.take_succ_eq_append_getElem hlt]
          intro b hb
          rcases List.mem_append.1 hb with h | h
          · exact hno b h
          · simp at h; subst h; exact hz
    · obtain rfl : i = c.length := by omega
      rw [List.take_length] at hno
      have hseps : ∀ j : Nat, j < 3 → ∃ sep : List UInt8, ([[.str [32]], [.str [9, 13, 10]], [.str (35 :: (c ++ [10]))]] : List (List AV))[j]?.getD [] = [.str sep] ∧ sep.length ≤ 30 ∧ Sep (kwF kwds) sep := by
        intro j hj
        match j, hj with
        | 0, _ => exact ⟨_, rfl, by simp, sep1 _⟩
        | 1, _ => exact ⟨_, rfl, by simp, sep2 _⟩
        | 2, _ => exact ⟨_, rfl, by simp; omega, sep3 _ c hno⟩
      simp [f9_b5, aBuildS, fillS, plain, AV.pd]
      refine ⟨by omega, by omega, ?_⟩
      generalize hss : ([[.str [32]], [.str [9, 13, 10]], [.str (35 :: (c ++ [10]))]] : List (List AV)) = seps at hseps ⊢
      have hs3 : seps.length = 3 := by rw [← hss]; rfl
      refine f9_loop10 (Inv := fun q t51 H' => ∃ j : Nat, j ≤ 3 ∧ q = 3 - j ∧ t51 = .int .i64 j ∧ H' = []) 3 ?_ ?_
      · intro _; exact ⟨0, by omega, by omega, rfl, rfl⟩
      · rintro q t51 H' ⟨j, hj, rfl, rfl, rfl⟩ hsc _ hsF Kb10 hKb10
        have next : j < 3 → f9_j2 (.sl (l.map Tk.cs) .none) (.sl seps .full) (.int .i64 3) (.int .i64 j) [] (Out (List.length ([] : Heap)) fun r _ => r = .bool true) Kb10 := by
          intro hj
          simp [f9_j2]
          rw [wrap_in (by omega) (by omega)]
          refine hKb10 _ _ ⟨3 - (j + 1), by omega, Back.here (Nat.le_refl _) hs ?_ ⟨_, rfl, j + 1, by omega, rfl, by simp, rfl⟩⟩
          simp [f9_fr10, AV.sc, AV.scV, AV.scA, AV.scB]
        by_cases hj3 : j < 3
        · obtain ⟨sep, hsep, hsl30, hS⟩ := hseps j hj3
          have hj3' : (j : Int) < 3 := by omega
          simp [f9_b10, hj3', hs3, hsep]
          refine joined28 l sep (by omega) hsl30 htx _ _ ?_
          by_cases hbig : (joinT l sep).length > 16384
          · have hbig' : (16384 : Int) < (joinT l sep).length := by omega
            simp [hbig', f9_j1]
            exact next hj3
          · have hbig' : ¬ (16384 : Int) < (joinT l sep).length := by omega
            obtain ⟨m, hm1, hm2⟩ := join_all hS (l := l') (q := s.length) hgood
            rw [← hl'] at hm1 hm2
            have hmR : splitR (joinT l sep) = .tup [.sl (m.map Tk.cs) .none, .int .i64 0, .int .i64 0] := by
              unfold splitR
              rw [if_neg (by omega), hm2]
            have hml : m.length = l.length := by have := congrArg List.length hm1; simpa using this
            simp [hbig']
            refine split25 _ _ _ ?_
            rw [hmR]
            simp [hml]
            refine f9_loop18 (Inv := fun q t78 H' => ∃ i : Nat, i ≤ l.length ∧ q = l.length - i ∧ t78 = .int .i64 i ∧ H' = []) l.length ?_ ?_
            · intro _; exact ⟨0, by omega, by omega, rfl, rfl⟩
            · rintro q t78 H' ⟨i, hi, rfl, rfl, rfl⟩ hsc _ hsF Kb18 hKb18
              by_cases hlt : i < l.length
              · have hlt2 : i < m.length := by omega
                have ha := tk_at hlt
                have hb := tk_at hlt2
                have hk : kt m[i] = kt l[i] := by
                  have h := congrArg (fun x => x[i]?) hm1
                  simpa [hlt, hlt2] using h
                simp only [kt, Prod.mk.injEq] at hk
                simp [f9_b18, hlt, hlt2, ha, hb, hk.1, hk.2, Tk.cs]
                rw [wrap_in (by omega) (by omega)]
                refine hKb18 _ _ ⟨l.length - (i + 1), by omega, Back.here (Nat.le_refl _) hs ?_ ⟨_, rfl, i + 1, by omega, rfl, by simp, rfl⟩⟩
                simp [f9_fr18, AV.sc, AV.scV, AV.scA, AV.scB]
              · simp [f9_b18, hlt, f9_j1]
                exact next hj3
        · have hj3' : ¬ (j : Int) < 3 := by omega
          simp [f9_b10, hj3']
          exact awake27 _ _ hT
end Go.Proofs.Ytmbegappkkbfpaa
