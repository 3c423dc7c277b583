/- Names of constructors: letters, and different. -/
import Derived.Test.YtfpmdpldabopjaaGreatDoorKCN
import Derived.Test.YtfpmdpldabopjaaGreatDoorKCa
import Derived.Test.YtfpmdpldabopjaaGreatDoorKGX
import Derived.Test.YtfpmdpldabopjaaGreatDoorKIFb
namespace Go.Proofs.YtfpmdpldabopjaaGreatDoor
open Go Go.Abs
set_option linter.unusedSimpArgs false
set_option linter.unusedVariables false
theorem toks_len (kw : List UInt8 → Bool) : ∀ (m : Nat) (r : List UInt8) (p : Nat) (l : List Tk), r.length ≤ m → toks kw r p = .ok l → ∀ t ∈ l, t.text.length ≤ r.length := by
  intro m
  induction m with
  | zero =>
    intro r p l hm h t ht
    have : r = [] := List.eq_nil_of_length_eq_zero (by omega)
    subst this
    unfold toks at h
    cases h
    simp at ht
    subst ht
    simp
  | succ m ih =>
    intro r p l hm h t ht
    unfold toks at h
    split at h
    · cases h
      simp at ht
      subst ht
      simp
    · rename_i b r'
      simp at hm
      split at h
      · have := ih r' _ l (by omega) h t ht
        simp; omega
      · split at h
        · have h1 := (List.dropWhile_sublist (p := (· != 10)) (l := r')).length_le
          have := ih _ _ l (by omega) h t ht
          simp; omega
        · split at h
          · cases h
          · rename_i k n hk
            split at h
            · cases h
            · rename_i l2 hl2
              cases h
              rcases List.mem_cons.1 ht with rfl | ht
              · simp [List.length_take]; omega
              · have := ih _ _ l2 (by simp; omega) hl2 t ht
                simp at this ⊢; omega
theorem toks_up {kw : List UInt8 → Bool} {s : List UInt8} {a e : Tk} (h : toks kw s 0 = .ok [a, e]) (hk : a.kind = 2) (ht : a.text = s) : s ≠ [] ∧ ∀ b ∈ s, bIn b = true := by
  unfold toks at h
  split at h
  · cases h
  · rename_i b r
    refine ⟨by simp, ?_⟩
    split at h
    · have := toks_len kw _ r _ _ (Nat.le_refl _) h a (by simp)
      rw [ht] at this
      simp only [List.length_cons] at this
      omega
    · split at h
      · have h1 := (List.dropWhile_sublist (p := (· != 10)) (l := r)).length_le
        have := toks_len kw _ _ _ _ (Nat.le_refl _) h a (by simp)
        rw [ht] at this
        simp at this
        omega
      · split at h
        · cases h
        · rename_i k n hkn
          split at h
          · cases h
          · rename_i l2 hl2
            injection h with h
            injection h with h1 h2
            subst h1
            simp only at hk ht
            subst hk
            unfold tok at hkn
            split at hkn
            · rename_i hb
              simp only at hkn
              split at hkn
              · cases hkn
              · simp only [Except.ok.injEq, Prod.mk.injEq] at hkn
                obtain ⟨hk2, rfl⟩ := hkn
                have hall : r.takeWhile bIn = r := by
                  have : ((b :: r).take ((r.takeWhile bIn).length + 1)).length = (b :: r).length := by rw [ht]
                  simp only [List.length_take, List.length_cons] at this
                  have hle := (List.takeWhile_prefix (p := bIn) (l := r)).length_le
                  exact (List.takeWhile_prefix (p := bIn) (l := r)).eq_of_length (by omega)
                have hbi : bIn b = true := by
                  unfold bIn
                  simp only [Bool.or_eq_true] at hb ⊢
                  rcases hb with hb | hb <;> simp [hb]
                intro x hx
                rcases List.mem_cons.1 hx with rfl | hx
                · exact hbi
                · rw [← hall] at hx
                  exact List.all_eq_true.1 List.all_takeWhile x hx
            · split at hkn
              · simp only at hkn
                split at hkn
                · cases hkn
                · split at hkn <;> simp at hkn
              · simp only at hkn
                split at hkn <;> simp at hkn
end Go.Proofs.YtfpmdpldabopjaaGreatDoor
namespace Go.Proofs.YtfpmdpldabopjaaGreatDoor
open Go Go.Abs
theorem upName_spec {s : List UInt8} (h : upName s = true) : s ≠ [] ∧ ∀ b ∈ s, bIn b = true := by
  unfold upName upOf splitL at h
  split at h
  · simp at h
  · split at h
    · simp at h
    · rename_i l hl
      simp only [Bool.and_eq_true] at h
      obtain ⟨_, h⟩ := h
      match l, hl, h with
      | [a, e], hl, h =>
        simp only [Bool.and_eq_true, beq_iff_eq] at h
        exact toks_up hl h.1 h.2
      | [], _, h => cases h
      | [_], _, h => cases h
      | _ :: _ :: _ :: _, _, h => cases h
theorem con_name {data : List Dat} (hD : dataOk data = true) {d c : Nat} (hd : d < data.length) (hc : c < (data[d]).cons.length) : ((data[d]).cons[c]).name ≠ [] ∧ ∀ b ∈ ((data[d]).cons[c]).name, bIn b = true := by
  simp only [dataOk, Bool.and_eq_true, datsOk_iff, Nat.zero_add] at hD
  have h1 := hD.1.1.2 d hd
  simp only [datOk, Bool.and_eq_true] at h1
  have h2 := List.all_eq_true.1 h1.2 _ (List.getElem_mem hc)
  simp only [conOk, Bool.and_eq_true] at h2
  exact upName_spec h2.1
theorem sub_names {D : Dat} : ∀ (data : List Dat), D ∈ data → (D.cons.map Con.name).Sublist (cnames data)
  | E :: data, h => by
    unfold cnames
    rw [List.flatMap_cons]
    rcases List.mem_cons.1 h with rfl | h
    · exact List.sublist_append_left _ _
    · exact (sub_names data h).trans (List.sublist_append_right _ _)
theorem con_diff {data : List Dat} (hD : dataOk data = true) {d c c' : Nat} (hd : d < data.length) (hc : c < (data[d]).cons.length) (hlt : c' < c) : ((data[d]).cons[c']'(by omega)).name ≠ ((data[d]).cons[c]).name := by
  simp only [dataOk, Bool.and_eq_true] at hD
  have h1 := hD.2
  simp only [repeats, Bool.not_not, decide_eq_true_eq] at h1
  have h2 : ((data[d]).cons.map Con.name).Nodup := by
    exact List.Nodup.sublist (sub_names _ (List.getElem_mem hd)) h1
  have := (List.pairwise_iff_getElem.1 h2) c' c (by simp; omega) (by simpa using hc) hlt
  simpa using this
end Go.Proofs.YtfpmdpldabopjaaGreatDoor
namespace Go.Proofs.YtfpmdpldabopjaaGreatDoor
open Go Go.Abs
set_option linter.unusedSimpArgs false
set_option linter.unusedVariables false
set_option maxRecDepth 8000
theorem HasPrefix_spec (s p : List UInt8) (hs : s.length ≤ 1000000000) (hp : p.length ≤ 1000000000) (H : Heap) (K : Kt) (hK : K (.bool (decide (p <+: s))) H) : ACalls Tryz.prog n_internal_stringslite_HasPrefix [.str s, .str p] H K := by
  refine internal_stringslite_HasPrefix_ok fun hsc => ?_
  by_cases hl : p.length ≤ s.length
  · have hl' : (p.length : Int) ≤ s.length := by omega
    have e : (s.take p.length == p) = decide (p <+: s) := by
      rw [Bool.eq_iff_iff, beq_iff_eq, decide_eq_true_iff]
      constructor
      · intro h
        have h2 := List.take_append_drop p.length s
        rw [h] at h2
        exact ⟨_, h2⟩
      · rintro ⟨t, ht⟩
        rw [← ht]; simp
    simp [internal_stringslite_HasPrefix, hl, hl', aSlice, aBound, e]
    exact hK
  · have hl' : ¬ (p.length : Int) ≤ s.length := by omega
    have e : decide (p <+: s) = false := by
      rw [decide_eq_false_iff_not]
      intro h
      exact hl h.length_le
    rw [e] at hK
    simp [internal_stringslite_HasPrefix, hl, hl']
    exact hK
theorem CutPrefix_yes (p t : List UInt8) (hs : (p ++ t).length ≤ 1000000000) (H : Heap) (K : Kt) (hK : K (.tup [.str t, .bool true]) H) : ACalls Tryz.prog n_strings_CutPrefix [.str (p ++ t), .str p] H K := by
  refine strings_CutPrefix_ok fun hsc => ?_
  simp only [List.length_append] at hs
  simp [strings_CutPrefix]
  refine internal_stringslite_CutPrefix_ok fun hsc => ?_
  simp [internal_stringslite_CutPrefix]
  refine HasPrefix_spec _ _ (by simp; omega) (by omega) _ _ ?_
  have e : decide (p <+: (p ++ t)) = true := by simp
  rw [e]
  have e2 : List.drop p.length (List.take (p.length + t.length) (p ++ t)) = t := by rw [List.take_of_length_le (by simp)]; simp
  simp [aSlice, aBound, e2, AV.isV]
  exact hK
theorem CutPrefix_no (p s : List UInt8) (hs : s.length ≤ 1000000000) (hp : p.length ≤ 1000000000) (hn : ¬ p <+: s) (H : Heap) (K : Kt) (hK : K (.tup [.str s, .bool false]) H) : ACalls Tryz.prog n_strings_CutPrefix [.str s, .str p] H K := by
  refine strings_CutPrefix_ok fun hsc => ?_
  simp [strings_CutPrefix]
  refine internal_stringslite_CutPrefix_ok fun hsc => ?_
  simp [internal_stringslite_CutPrefix]
  refine HasPrefix_spec _ _ hs hp _ _ ?_
  simp [hn, AV.isV]
  exact hK
end Go.Proofs.YtfpmdpldabopjaaGreatDoor
