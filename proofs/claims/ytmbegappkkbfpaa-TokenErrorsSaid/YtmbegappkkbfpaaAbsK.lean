/- The abstract layer, part K: regions that draw their order, and code. -/
import Derived.Test.YtmbegappkkbfpaaAbsJ
namespace Go.Abs
open Go Go.RowKit

variable {P : Program} {B : Nat} {w : World} {G : Gh} {H : Heap}

/-- What 'ordOk' says. -/
structure Ord (ops : Array Oper) : Prop where
  edge : ∀ (i : Nat) o, ops[i]? = some o → ∀ e ∈ o.after, Region.binds .any e = true → e.on < i
  dst : ∀ (i j : Nat) oi oj d, ops[i]? = some oi → ops[j]? = some oj → i ≠ j → oj.dst = some d → oi.dst ≠ some d
  before : ∀ (i j : Nat) oi oj d, ops[i]? = some oi → ops[j]? = some oj → j < i → oj.dst = some d → d ∈ opReads ops oi → ∃ e ∈ oi.after, Region.binds .any e = true ∧ e.on = j
  behind : ∀ (i j : Nat) oi oj d, ops[i]? = some oi → ops[j]? = some oj → i < j → oj.dst = some d → d ∈ opReads ops oi → ∃ e ∈ oj.after, Region.binds .any e = true ∧ e.on = i

theorem hasEdge_spec {o : Oper} {j : Nat} (h : hasEdge o j = true) : ∃ e ∈ o.after, Region.binds .any e = true ∧ e.on = j := by
  unfold hasEdge at h
  rw [Array.any_eq_true'] at h
  obtain ⟨e, he, hb⟩ := h
  simp only [Bool.and_eq_true, beq_iff_eq] at hb
  exact ⟨e, he, hb⟩

theorem ord_of {ops : Array Oper} (h : ordOk ops = true) : Ord ops := by
  unfold ordOk at h
  rw [List.all_eq_true] at h
  have mem : ∀ (i : Nat) o, ops[i]? = some o → (o, i) ∈ ops.toList.zipIdx := fun i o ho => by
    rw [List.mem_zipIdx_iff_getElem?]
    simpa using ho
  have all : ∀ (i j : Nat) oi oj, ops[i]? = some oi → ops[j]? = some oj → ordPair ops i j oi oj = true := fun i j oi oj hi hj => by
    have h1 := h _ (mem i oi hi)
    simp only [Bool.and_eq_true] at h1
    exact List.all_eq_true.1 h1.2 _ (mem j oj hj)
  have pair : ∀ (i j : Nat) oi oj d, ops[i]? = some oi → ops[j]? = some oj → i ≠ j → oj.dst = some d → oi.dst ≠ some d ∧ (d ∈ opReads ops oi → (if j < i then hasEdge oi j else hasEdge oj i) = true) := by
    intro i j oi oj d hi hj hne hd
    have h1 := all i j oi oj hi hj
    unfold ordPair at h1
    simp only [hd, Bool.or_eq_true, beq_iff_eq, hne, false_or, Bool.and_eq_true, bne_iff_ne, Bool.not_eq_true', List.contains_eq_mem, decide_eq_false_iff_not] at h1
    exact ⟨h1.1, fun hm => h1.2.resolve_left (fun h => h hm)⟩
  refine ⟨fun i o ho e he hb => ?_, fun i j oi oj d hi hj hne hd => (pair i j oi oj d hi hj hne hd).1, fun i j oi oj d hi hj hlt hd hm => ?_, fun i j oi oj d hi hj hlt hd hm => ?_⟩
  · have h1 := h _ (mem i o ho)
    simp only [Bool.and_eq_true] at h1
    have h2 := Array.all_eq_true'.1 h1.1 e he
    simpa [hb] using h2
  · have := (pair i j oi oj d hi hj (by omega) hd).2 hm
    rw [if_pos hlt] at this
    exact hasEdge_spec this
  · have := (pair i j oi oj d hi hj (by omega) hd).2 hm
    rw [if_neg (by omega)] at this
    exact hasEdge_spec this

/-- The frame in which the operations of the set S have been carried out. -/
structure FlRel (ops : Array Oper) (F0 rs : List AV) (S : Nat → Bool) (F : List AV) : Prop where
  len : F.length = F0.length
  done : ∀ (i : Nat) o s r, ops[i]? = some o → o.dst = some s → S i = true → rs[i]? = some r → s < F0.length → F[s]? = some r
  rest : ∀ s : Nat, (∀ (i : Nat) o, ops[i]? = some o → o.dst = some s → S i = false) → F[s]? = F0[s]?

theorem FlRel.step {ops : Array Oper} {F0 rs F : List AV} {S : Nat → Bool} {i : Nat} {o : Oper} {r : AV} (hO : Ord ops) (h : FlRel ops F0 rs S F) (ho : ops[i]? = some o) (hr : rs[i]? = some r) :
    FlRel ops F0 rs (fun k => if k = i then true else S k) (putF F o.dst r) := by
  refine ⟨by cases hd : o.dst <;> simp [putF, h.len], fun k ok s x hk hs hS hx hlt => ?_, fun s hs => ?_⟩
  · by_cases hki : k = i
    · subst hki
      rw [ho] at hk
      cases hk
      rw [hr] at hx
      cases hx
      simp only [putF, hs]
      exact List.getElem?_set_self (by rw [h.len]; exact hlt)
    · simp only [hki, if_false] at hS
      have h1 := h.done k ok s x hk hs hS hx hlt
      cases hd : o.dst with
      | none => exact h1
      | some d =>
        have hne : d ≠ s := fun he => hO.dst i k o ok s ho hk (fun h => hki h.symm) hs (by rw [hd, he])
        simp only [putF]
        rw [List.getElem?_set_ne hne]
        exact h1
  · have hi := hs i o ho
    have hns : o.dst ≠ some s := fun hd => by have := hi hd; simp at this
    have h1 := h.rest s (fun k ok hk hks => by
      have := hs k ok hk hks
      by_cases hki : k = i
      · subst hki; simp at this
      · simpa [hki] using this)
    cases hd : o.dst with
    | none => exact h1
    | some d =>
      have hne : d ≠ s := fun he => hns (by rw [hd, he])
      simp only [putF]
      rw [List.getElem?_set_ne hne]
      exact h1

theorem FlRel.same {ops : Array Oper} {F0 rs F F' : List AV} {S : Nat → Bool} (hr : rs.length = ops.size) (h : FlRel ops F0 rs S F) (h' : FlRel ops F0 rs S F') : F = F' := by
  apply List.ext_getElem?
  intro s
  by_cases hw : ∃ (i : Nat) (o : Oper), ops[i]? = some o ∧ o.dst = some s ∧ S i = true
  · obtain ⟨i, o, h1, h2, h3⟩ := hw
    by_cases hlt : s < F0.length
    · have hi : i < rs.length := by rw [hr]; exact (Array.getElem?_eq_some_iff.1 h1).1
      rw [h.done i o s rs[i] h1 h2 h3 (by simp [hi]) hlt, h'.done i o s rs[i] h1 h2 h3 (by simp [hi]) hlt]
    · rw [List.getElem?_eq_none (by rw [h.len]; omega), List.getElem?_eq_none (by rw [h'.len]; omega)]
  · have hn : ∀ (i : Nat) o, ops[i]? = some o → o.dst = some s → S i = false := fun i o h1 h2 => by
      cases hS : S i with
      | false => rfl
      | true => exact absurd ⟨i, o, h1, h2, hS⟩ hw
    rw [h.rest s hn, h'.rest s hn]

theorem FlRel.congr {ops : Array Oper} {F0 rs F : List AV} {S S' : Nat → Bool} (h : FlRel ops F0 rs S F) (hS : ∀ i, i < ops.size → S i = S' i) : FlRel ops F0 rs S' F :=
  ⟨h.len, fun i o s r ho hs hSi => h.done i o s r ho hs (by rw [hS i (Array.getElem?_eq_some_iff.1 ho).1]; exact hSi),
   fun s hs => h.rest s fun i o ho hd => by rw [hS i (Array.getElem?_eq_some_iff.1 ho).1]; exact hs i o ho hd⟩

/-- The frame of the text's order. -/
theorem frk_rel {ops : Array Oper} {F0 rs Fn : List AV} (hO : Ord ops) (ht : TrL P ops H ops.toList F0 rs Fn) : ∀ i, i ≤ ops.size → FlRel ops F0 rs (fun k => decide (k < i)) (frk ops.toList rs F0 i)
  | 0, _ => by
    have : frk ops.toList rs F0 0 = F0 := by unfold frk; cases ops.toList <;> rfl
    rw [this]
    exact ⟨rfl, fun i o s r _ _ hS => by simp at hS, fun s _ => rfl⟩
  | i + 1, hi => by
    obtain ⟨hl, _, hat⟩ := ht.at
    have ho : ops.toList[i]? = some ops[i] := by simp [show i < ops.size by omega]
    obtain ⟨r, h1, _, h3⟩ := hat i _ ho
    rw [h3]
    refine (FlRel.step hO (frk_rel hO ht i (by omega)) (i := i) (o := ops[i]) (by simp [show i < ops.size by omega]) h1).congr fun k _ => ?_
    by_cases hk : k = i
    · subst hk; simp
    · simp [hk]
      omega

/-- What an operation reads is, in whatever order, what it reads in the text's. -/
theorem reads_same {ops : Array Oper} {F0 rs F F' : List AV} {S : Nat → Bool} {i : Nat} {o : Oper} (hO : Ord ops) (hr : rs.length = ops.size) (h : FlRel ops F0 rs S F) (h' : FlRel ops F0 rs (fun k => decide (k < i)) F')
    (ho : ops[i]? = some o) (hi : S i = false) (hready : ∀ e ∈ o.after, Region.binds .any e = true → S e.on = true)
    (hclosed : ∀ (j : Nat) oj, ops[j]? = some oj → S j = true → ∀ e ∈ oj.after, Region.binds .any e = true → S e.on = true) : ∀ s ∈ opReads ops o, F.getD s .unk = F'.getD s .unk := by
  intro s hs
  have key : F[s]? = F'[s]? := by
    by_cases hw : ∃ (j : Nat) (oj : Oper), ops[j]? = some oj ∧ oj.dst = some s ∧ j ≠ i
    · obtain ⟨j, oj, hj, hd, hne⟩ := hw
      have uniq : ∀ (k : Nat) ok, ops[k]? = some ok → ok.dst = some s → k = j := fun k ok hk hks => by
        by_cases hkj : k = j
        · exact hkj
        · exact absurd hks (hO.dst k j ok oj s hk hj hkj hd)
      by_cases hlt : j < i
      · obtain ⟨e, he, hb, hon⟩ := hO.before i j o oj s ho hj hlt hd hs
        have hSj := hready e he hb
        rw [hon] at hSj
        by_cases hsl : s < F0.length
        · have hjl : j < rs.length := by rw [hr]; exact (Array.getElem?_eq_some_iff.1 hj).1
          rw [h.done j oj s rs[j] hj hd hSj (by simp [hjl]) hsl, h'.done j oj s rs[j] hj hd (by simpa using hlt) (by simp [hjl]) hsl]
        · rw [List.getElem?_eq_none (by rw [h.len]; omega), List.getElem?_eq_none (by rw [h'.len]; omega)]
      · obtain ⟨e, he, hb, hon⟩ := hO.behind i j o oj s ho hj (by omega) hd hs
        have hSj : S j = false := by
          cases hSj : S j with
          | false => rfl
          | true =>
            have := hclosed j oj hj hSj e he hb
            rw [hon, hi] at this
            cases this
        rw [h.rest s (fun k ok hk hks => by rw [uniq k ok hk hks]; exact hSj), h'.rest s (fun k ok hk hks => by rw [uniq k ok hk hks]; simpa using hlt)]
    · have hno : ∀ (k : Nat) ok, ops[k]? = some ok → ok.dst = some s → k = i := fun k ok hk hks => by
        by_cases hki : k = i
        · exact hki
        · exact absurd ⟨k, ok, hk, hks, hki⟩ hw
      rw [h.rest s (fun k ok hk hks => by rw [hno k ok hk hks]; exact hi), h'.rest s (fun k ok hk hks => by rw [hno k ok hk hks]; simp)]
  rw [List.getD_eq_getElem?_getD, List.getD_eq_getElem?_getD, key]

end Go.Abs
