/- The plain law: the two checks of the data are one. -/
import Derived.Test.YtkdmpbhbmmhijaaKCd
namespace Go.Proofs.Ytkdmpbhbmmhijaa
open Go Go.Abs
set_option linter.unusedSimpArgs false
set_option linter.unusedVariables false
set_option maxRecDepth 8000
mutual
theorem same_iff : ∀ v w : VT, v.same w = true ↔ v = w
  | .mk k n ks, .mk k' n' ks' => by
    have h := sameL_iff ks ks'
    simp only [VT.same, Bool.and_eq_true, beq_iff_eq, VT.mk.injEq, h, and_assoc]
theorem sameL_iff : ∀ v w : List VT, VT.sameL v w = true ↔ v = w
  | v :: vs, w :: ws => by
    have h1 := same_iff v w
    have h2 := sameL_iff vs ws
    simp only [VT.sameL, Bool.and_eq_true, List.cons.injEq, h1, h2]
  | [], [] => by simp [VT.sameL]
  | [], _ :: _ => by simp [VT.sameL]
  | _ :: _, [] => by simp [VT.sameL]
end
theorem take_get {α : Type} (l : List α) (d n : Nat) : (l.take d)[n]? = if n < d then l[n]? else none := by
  by_cases h : n < d
  · rw [if_pos h, List.getElem?_take_of_lt h]
  · rw [if_neg h, List.getElem?_eq_none (by rw [List.length_take]; omega)]
theorem shape_ne {data : List Dat} {d : Nat} {vars k n : Int} {len : Nat} (h : (k == 5 && n == (d : Int)) = false) : shapeOk (data.take (d + 1)) vars k n len = shapeOk (data.take d) vars k n len := by
  unfold shapeOk
  by_cases h5 : k = 5
  · subst h5
    have hn : n ≠ d := by simpa using h
    simp only [take_get]
    by_cases h0 : 0 ≤ n
    · have : (n.toNat < d + 1) = (n.toNat < d) := by
        apply propext; omega
      simp [this]
    · simp [h0]
  · have : (k == 5) = false := by simpa using h5
    simp [this]
mutual
theorem tyOk_ne (data : List Dat) (d : Nat) (vars : Int) : ∀ t : VT, mentions d t = false → tyOk (data.take (d + 1)) vars t = tyOk (data.take d) vars t
  | .mk k n ks => by
    intro h
    simp only [mentions, Bool.or_eq_false_iff] at h
    rw [tyOk, tyOk, shape_ne h.1, tyOkL_ne data d vars ks h.2]
theorem tyOkL_ne (data : List Dat) (d : Nat) (vars : Int) : ∀ l : List VT, mentionsL d l = false → tyOkL (data.take (d + 1)) vars l = tyOkL (data.take d) vars l
  | [] => fun _ => rfl
  | t :: ts => by
    intro h
    simp only [mentionsL, Bool.or_eq_false_iff] at h
    rw [tyOkL, tyOkL, tyOk_ne data d vars t h.1, tyOkL_ne data d vars ts h.2]
end
mutual
theorem ment_of (data : List Dat) (d : Nat) (vars : Int) : ∀ t : VT, tyOk (data.take d) vars t = true → mentions d t = false
  | .mk k n ks => by
    intro h
    rw [tyOk, Bool.and_eq_true] at h
    rw [mentions, mentL_of data d vars ks h.2, Bool.or_false]
    by_cases h5 : k = 5
    · subst h5
      have h1 := h.1
      simp [shapeOk, take_get] at h1
      obtain ⟨h0, h2⟩ := h1
      by_cases hn : n = d
      · subst hn
        simp at h2
      · simpa using hn
    · have : (k == 5) = false := by simpa using h5
      simp [this]
theorem mentL_of (data : List Dat) (d : Nat) (vars : Int) : ∀ l : List VT, tyOkL (data.take d) vars l = true → mentionsL d l = false
  | [] => fun _ => rfl
  | t :: ts => by
    intro h
    rw [tyOkL, Bool.and_eq_true] at h
    rw [mentionsL, ment_of data d vars t h.1, mentL_of data d vars ts h.2]; rfl
end
theorem selfL_ok (data : List Dat) (vars : Int) : ∀ (l : List VT) (i : Nat), isSelfL l i = true → ((i + l.length : Nat) : Int) ≤ vars → tyOkL data vars l = true ∧ VT.nodesL l = l.length
  | [], i, _, _ => ⟨rfl, rfl⟩
  | .mk k n ks :: l, i, h, hv => by
    rw [isSelfL, Bool.and_eq_true] at h
    obtain ⟨h1, h2⟩ := h
    simp only [isVarAt, Bool.and_eq_true, beq_iff_eq] at h1
    obtain ⟨⟨rfl, rfl⟩, h3⟩ := h1
    have hk : ks = [] := List.eq_nil_of_length_eq_zero h3
    subst hk
    obtain ⟨h4, h5⟩ := selfL_ok data vars l (i + 1) h2 (by simp at hv ⊢; omega)
    simp at hv
    constructor
    · simp [tyOkL, tyOk, shapeOk, h4]
      omega
    · simp [VT.nodesL, VT.nodes, h5]; omega
theorem arg_eq (data : List Dat) (d : Nat) (hd : d < data.length) (h0 : 0 ≤ (data[d]).vars) (h6 : (data[d]).vars ≤ 6) (t : VT) : argOk data d (data[d]).vars t = refArg data d (data[d]).vars t := by
  unfold argOk refArg
  cases hs : isSelf d (data[d]).vars t with
  | true =>
    obtain ⟨k, n, ks⟩ := t
    simp only [isSelf, Bool.and_eq_true, beq_iff_eq] at hs
    obtain ⟨⟨⟨rfl, rfl⟩, hl⟩, hs⟩ := hs
    obtain ⟨h1, h2⟩ := selfL_ok (data.take (d + 1)) (data[d]).vars ks 0 hs (by simp; omega)
    have hty : tyValid (data.take (d + 1)) (data[d]).vars (.mk 5 d ks) = true := by
      simp [tyValid, tyOk, h1, VT.nodes, h2, shapeOk, take_get, hd, hl]
      omega
    simp [hty]
  | false =>
    simp only [Bool.false_or]
    unfold tyValid
    cases hm : mentions d t with
    | false => rw [tyOk_ne data d _ t hm]; simp
    | true =>
      have : tyOk (data.take d) (data[d]).vars t = false := by
        cases h : tyOk (data.take d) (data[d]).vars t with
        | false => rfl
        | true => rw [ment_of data d _ t h] at hm; cases hm
      simp [this]
theorem datsOk_iff (data : List Dat) : ∀ (l : List Dat) (d : Nat), datsOk data l d = true ↔ ∀ j (h : j < l.length), datOk data (d + j) l[j] = true
  | [], d => by simp [datsOk]
  | D :: l, d => by
    rw [datsOk, Bool.and_eq_true, datsOk_iff data l (d + 1)]
    constructor
    · rintro ⟨h1, h2⟩ j hj
      cases j with
      | zero => exact h1
      | succ j =>
        have := h2 j (by simpa using hj)
        rw [show d + (j + 1) = d + 1 + j by omega]
        simpa using this
    · intro h
      refine ⟨h 0 (by simp), fun j hj => ?_⟩
      have := h (j + 1) (by simpa using hj)
      rw [show d + (j + 1) = d + 1 + j by omega] at this
      simpa using this
theorem data_iff (data : List Dat) : dataOk data = true ↔ RData data := by
  unfold dataOk
  simp only [Bool.and_eq_true, decide_eq_true_eq, datsOk_iff, repeats, Bool.not_not, Nat.zero_add]
  constructor
  · rintro ⟨⟨⟨h1, h2⟩, h3⟩, h4⟩
    refine ⟨h1, fun d hd => ?_, h3, h4⟩
    have := h2 d hd
    simp only [datOk, Bool.and_eq_true, decide_eq_true_eq, List.all_eq_true] at this
    obtain ⟨⟨⟨⟨⟨q1, q2⟩, q3⟩, q4⟩, q5⟩, q6⟩ := this
    refine ⟨q2, q3, q4, q5, q1, fun c hc => ?_⟩
    have := q6 c hc
    simp only [conOk, Bool.and_eq_true, decide_eq_true_eq, List.all_eq_true] at this
    exact ⟨this.1, this.2.1, fun x hx => by rw [← arg_eq data d hd q2 q3 x]; exact this.2.2 x hx⟩
  · rintro ⟨h1, h2, h3, h4⟩
    refine ⟨⟨⟨h1, fun d hd => ?_⟩, h3⟩, h4⟩
    obtain ⟨q2, q3, q4, q5, q1, q6⟩ := h2 d hd
    simp only [datOk, Bool.and_eq_true, decide_eq_true_eq, List.all_eq_true]
    refine ⟨⟨⟨⟨⟨q1, q2⟩, q3⟩, q4⟩, q5⟩, fun c hc => ?_⟩
    obtain ⟨r1, r2, r3⟩ := q6 c hc
    simp only [conOk, Bool.and_eq_true, decide_eq_true_eq, List.all_eq_true]
    exact ⟨r1, r2, fun x hx => by rw [arg_eq data d hd q2 q3 x]; exact r3 x hx⟩
theorem vt_eta (t : VT) : t = .mk t.kind t.num t.kids := by cases t; rfl
theorem vt_ext {t u : VT} (h1 : t.kind = u.kind) (h2 : t.num = u.num) (h3 : t.kids = u.kids) : t = u := by rw [vt_eta t, vt_eta u, h1, h2, h3]
theorem valid_shape {data : List Dat} {t : VT} (h : tyValid data 0 t = true) : shapeOk data 0 t.kind t.num t.kids.length = true := by
  obtain ⟨k, n, ks⟩ := t
  simp only [tyValid, tyOk, Bool.and_eq_true] at h
  exact h.2.1
theorem ty_simple {data : List Dat} {t : VT} (h : tyValid data 0 t = true) {k : Int} (hk : k = 1 ∨ k = 2 ∨ k = 3) : t.kind = k ↔ t = sm k := by
  constructor
  · intro h1
    have h2 := valid_shape h
    rw [h1] at h2
    have : t.num = 0 ∧ t.kids = [] := by rcases hk with rfl | rfl | rfl <;> simpa [shapeOk] using h2
    exact vt_ext h1 this.1 this.2
  · intro h1; rw [h1]; rfl
theorem ty_tuple {data : List Dat} {t : VT} (h : tyValid data 0 t = true) (h6 : t.kind = 6) : t.num = 0 ∧ 2 ≤ t.kids.length ∧ t.kids.length ≤ 6 := by
  have h2 := valid_shape h
  rw [h6] at h2
  simpa [shapeOk, and_assoc] using h2
theorem ty_fun {data : List Dat} {t : VT} (h : tyValid data 0 t = true) (h9 : t.kind = 9) : t.num = 0 := by
  have h2 := valid_shape h
  rw [h9] at h2
  simp [shapeOk] at h2
  exact h2.1.1
theorem ty_one {data : List Dat} {t : VT} (h : tyValid data 0 t = true) {k : Int} (hk : k = 7 ∨ k = 8) (h1 : t.kind = k) : t = .mk k 0 [kid0 t] := by
  have h2 := valid_shape h
  rw [h1] at h2
  have : t.num = 0 ∧ t.kids.length = 1 := by rcases hk with rfl | rfl <;> simpa [shapeOk] using h2
  obtain ⟨a, ha⟩ := len1 (l := t.kids) (by simp [this.2])
  have hk0 : kid0 t = a := by simp [kid0, ha]
  rw [hk0]
  exact vt_ext h1 this.1 ha
theorem agree_iff (c : Cor) (t : VT) (l : List Int) : agree c t l = true ↔ ∀ k ∈ l, ety c k = t := by
  simp [agree, same_iff]
theorem code_at {c : Cor} {n : Nat} (h : n < c.codes.length) : codeAt' c (n : Int) = c.codes[n] := by simp [codeAt', h]
section
variable {c : Cor} {e : CEx}
abbrev RR (c : Cor) (e : CEx) : Bool := refR4 c e (e.num == 0) ((e.kids.length : Int) == 0) (typesOf c e.vars) (etysOf c e.kids) (e.binds.map (typesOf c))
theorem fields_kind {data : List Dat} {t : VT} {n : Int} {fs : List VT} (h : fields data t n = some fs) : t.kind = 5 := by
  unfold fields at h
  split at h
  · rename_i h1; exact h1.1
  · cases h
theorem vval (hx : ExIn c e) {v : Int} (hv : v ∈ e.vars) : tyValid c.data 0 (vty c v) = true := by
  have := hx.vars v hv
  obtain ⟨k, rfl⟩ : ∃ k : Nat, v = k := ⟨v.toNat, by omega⟩
  rw [vty_eq (by omega)]
  exact hx.vtys _ (List.getElem_mem _)
theorem bAt_map (c : Cor) (l : List (List Int)) (k : Nat) : bAt (l.map (typesOf c)) k = typesOf c (l.getD k []) := by
  rw [bAt, List.getD_eq_getElem?_getD, List.getElem?_map, List.getD_eq_getElem?_getD]
  cases l[k]? <;> rfl
theorem fun_iff {t : VT} {X : List VT} (h : tyValid c.data 0 t = true) : t = .mk 9 0 X ↔ t.kind = 9 ∧ t.kids = X := by
  constructor
  · intro h; rw [h]; exact ⟨rfl, rfl⟩
  · rintro ⟨h1, h2⟩; exact vt_ext h1 (ty_fun h h1) h2
theorem rl1 (hx : ExIn c e) (hT : tyValid c.data 0 e.ty = true) (hop : e.op = 1) : progRule c e = true ↔ RR c e = true := by
  have hvl := typesOf_len c e.vars
  have hkl : (etysOf c e.kids).length = e.kids.length := by simp [etysOf]
  simp [progRule, isNum, isPar, restR, numR, parR, stR, stF, RR, refR4, refR5, refR6, refR7, refR9, hop, shapeB, same_iff, sameL_iff, typesOf_len, agree_iff, cntL, ty_simple hT (k := 3) (by simp)]
  grind
theorem rl2 (hx : ExIn c e) (hT : tyValid c.data 0 e.ty = true) (hop : e.op = 2) : progRule c e = true ↔ RR c e = true := by
  have hvl := typesOf_len c e.vars
  have hkl : (etysOf c e.kids).length = e.kids.length := by simp [etysOf]
  simp [progRule, isNum, isPar, restR, numR, parR, stR, stF, RR, refR4, refR5, refR6, refR7, refR9, hop, shapeB, same_iff, sameL_iff, typesOf_len, agree_iff, cntL, ty_simple hT (k := 2) (by simp)]
  grind
theorem rl3 (hx : ExIn c e) (hT : tyValid c.data 0 e.ty = true) (hop : e.op = 3) : progRule c e = true ↔ RR c e = true := by
  have hvl := typesOf_len c e.vars
  have hkl : (etysOf c e.kids).length = e.kids.length := by simp [etysOf]
  simp [progRule, isNum, isPar, restR, numR, parR, stR, stF, RR, refR4, refR5, refR6, refR7, refR9, hop, shapeB, same_iff, sameL_iff, typesOf_len, agree_iff, cntL, ty_simple hT (k := 1) (by simp)]
  grind
theorem rl22 (hx : ExIn c e) (hT : tyValid c.data 0 e.ty = true) (hop : e.op = 22) : progRule c e = true ↔ RR c e = true := by
  have hvl := typesOf_len c e.vars
  have hkl : (etysOf c e.kids).length = e.kids.length := by simp [etysOf]
  simp [progRule, isNum, isPar, restR, numR, parR, stR, stF, RR, refR4, refR5, refR6, refR7, refR9, hop, shapeB, same_iff, sameL_iff, typesOf_len, agree_iff, cntL, ty_simple hT (k := 3) (by simp)]
  grind
theorem rl4 (hx : ExIn c e) (hT : tyValid c.data 0 e.ty = true) (hop : e.op = 4) : progRule c e = true ↔ RR c e = true := by
  have hvl := typesOf_len c e.vars
  have hkl : (etysOf c e.kids).length = e.kids.length := by simp [etysOf]
  simp [progRule, isNum, isPar, restR, numR, parR, stR, stF, RR, refR4, refR5, refR6, refR7, refR9, hop, shapeB, same_iff, sameL_iff, typesOf_len, agree_iff, cntL]
  grind
theorem rl5 (hx : ExIn c e) (hT : tyValid c.data 0 e.ty = true) (hop : e.op = 5) : progRule c e = true ↔ RR c e = true := by
  have hvl := typesOf_len c e.vars
  have hkl : (etysOf c e.kids).length = e.kids.length := by simp [etysOf]
  simp [progRule, isNum, isPar, restR, numR, parR, stR, stF, RR, refR4, refR5, refR6, refR7, refR9, hop, shapeB, same_iff, sameL_iff, typesOf_len, agree_iff, cntL]
  intro h0 h1
  constructor
  · rintro ⟨h2, h3, h4⟩
    rw [h4]; exact ⟨rfl, rfl⟩
  · rintro ⟨h2, h3⟩
    obtain ⟨q1, q2, q3⟩ := ty_tuple hT h2
    rw [h3] at hvl
    exact ⟨by omega, by omega, vt_ext h2 q1 h3.symm⟩
theorem rl6 (hx : ExIn c e) (hT : tyValid c.data 0 e.ty = true) (hop : e.op = 6) : progRule c e = true ↔ RR c e = true := by
  have hvl := typesOf_len c e.vars
  have hkl : (etysOf c e.kids).length = e.kids.length := by simp [etysOf]
  simp [progRule, isNum, isPar, restR, numR, parR, stR, stF, RR, refR4, refR5, refR6, refR7, refR9, hop, shapeB, same_iff, sameL_iff, typesOf_len, agree_iff, cntL]
  cases hf : fields c.data e.ty e.num with
  | none => simp
  | some fs =>
    have := fields_kind hf
    simp [this]
    grind
theorem rl7 (hx : ExIn c e) (hT : tyValid c.data 0 e.ty = true) (hop : e.op = 7) : progRule c e = true ↔ RR c e = true := by
  have hvl := typesOf_len c e.vars
  have hkl : (etysOf c e.kids).length = e.kids.length := by simp [etysOf]
  simp [progRule, isNum, isPar, restR, numR, parR, stR, stF, RR, refR4, refR5, refR6, refR7, refR9, hop, shapeB, same_iff, sameL_iff, typesOf_len, agree_iff, cntL]
  intro h0
  by_cases hk : e.kids.length = 2
  · obtain ⟨k0, k1, hk'⟩ := len2 (l := e.kids) (by simp [hk])
    obtain ⟨b0, b1, hb'⟩ := len2 (l := e.binds) (by simp [hx.bk, hk])
    simp [hk', hb', etysOf, bAt, hd0, hd1, lens, typesOf]
    grind
  · grind
theorem rl8 (hx : ExIn c e) (hT : tyValid c.data 0 e.ty = true) (hop : e.op = 8) : progRule c e = true ↔ RR c e = true := by
  have hvl := typesOf_len c e.vars
  have hkl : (etysOf c e.kids).length = e.kids.length := by simp [etysOf]
  simp [progRule, isNum, isPar, restR, numR, parR, stR, stF, RR, refR4, refR5, refR6, refR7, refR9, hop, shapeB, same_iff, sameL_iff, typesOf_len, agree_iff, cntL]
  intro h0
  by_cases hv : e.vars.length = 1
  · obtain ⟨v, hv'⟩ := len1 (l := e.vars) (by simp [hv])
    by_cases hk : e.kids.length = 1
    · obtain ⟨k0, hk'⟩ := len1 (l := e.kids) (by simp [hk])
      obtain ⟨b0, hb'⟩ := len1 (l := e.binds) (by simp [hx.bk, hk])
      simp [hv', hk', hb', etysOf, bAt, hd0, hd1, lens, typesOf]
    · grind
  · grind
theorem rl9 (hx : ExIn c e) (hT : tyValid c.data 0 e.ty = true) (hop : e.op = 9) : progRule c e = true ↔ RR c e = true := by
  have hvl := typesOf_len c e.vars
  have hkl : (etysOf c e.kids).length = e.kids.length := by simp [etysOf]
  simp [progRule, isNum, isPar, restR, numR, parR, stR, stF, RR, refR4, refR5, refR6, refR7, refR9, hop, shapeB, same_iff, sameL_iff, typesOf_len, agree_iff, cntL]
  intro h0
  by_cases hv : e.vars.length = 1
  · obtain ⟨v, hv'⟩ := len1 (l := e.vars) (by simp [hv])
    by_cases hk : e.kids.length = 2
    · obtain ⟨k0, k1, hk'⟩ := len2 (l := e.kids) (by simp [hk])
      obtain ⟨b0, b1, hb'⟩ := len2 (l := e.binds) (by simp [hx.bk, hk])
      simp [hv', hk', hb', etysOf, bAt, hd0, hd1, lens, typesOf]
      grind
    · grind
  · grind
theorem rl10 (hx : ExIn c e) (hT : tyValid c.data 0 e.ty = true) (hop : e.op = 10) : progRule c e = true ↔ RR c e = true := by
  have hvl := typesOf_len c e.vars
  have hkl : (etysOf c e.kids).length = e.kids.length := by simp [etysOf]
  simp [progRule, isNum, isPar, restR, numR, parR, stR, stF, RR, refR4, refR5, refR6, refR7, refR9, hop, shapeB, same_iff, sameL_iff, typesOf_len, agree_iff, cntL]
  intro h0
  by_cases hv : e.vars.length = 1
  · obtain ⟨v, hv'⟩ := len1 (l := e.vars) (by simp [hv])
    have hcr : ∀ k (h : k < e.kids.length), caseR c (vty c v) e.ty (etysOf c e.kids) (e.binds.map (typesOf c)) k = (caseOk c (vty c v) e k && (ety c e.kids[k]).same e.ty) := fun k h => by
      rw [caseR, caseOk, bAt_map]
      congr 1
      simp [etysOf, h]
    have h1 : (∀ x, x < e.kids.length → caseR c (vty c v) e.ty (etysOf c e.kids) (e.binds.map (typesOf c)) x = true) ↔ (casesOk c (vty c v) e = true ∧ ∀ k ∈ e.kids, ety c k = e.ty) := by
      rw [casesOk, List.all_eq_true]
      constructor
      · intro h
        refine ⟨fun k hk => ?_, fun k hk => ?_⟩
        · have := h k (by simpa using hk)
          rw [hcr k (by simpa using hk), Bool.and_eq_true] at this
          exact this.1
        · obtain ⟨j, hj, rfl⟩ := List.getElem_of_mem hk
          have := h j hj
          rw [hcr j hj, Bool.and_eq_true, same_iff] at this
          exact this.2
      · rintro ⟨h1, h2⟩ k hk
        rw [hcr k hk, Bool.and_eq_true, same_iff]
        exact ⟨h1 k (by simpa using hk), h2 _ (List.getElem_mem hk)⟩
    have hh : hd0 (typesOf c e.vars) = vty c v := by simp [hv', typesOf, hd0]
    rw [hh, hkl, h1]
    simp [hv']
    grind
  · grind
theorem rl11 (hx : ExIn c e) (hT : tyValid c.data 0 e.ty = true) (hlam : e.op = 11 → ∃ n : Nat, e.num = n ∧ ∃ h : n < c.codes.length, (c.codes[n]).name = []) (hop : e.op = 11) : progRule c e = true ↔ RR c e = true := by
  have hvl := typesOf_len c e.vars
  have hkl : (etysOf c e.kids).length = e.kids.length := by simp [etysOf]
  simp [progRule, isNum, isPar, restR, numR, parR, stR, stF, RR, refR4, refR5, refR6, refR7, refR9, hop, shapeB, same_iff, sameL_iff, typesOf_len, agree_iff, cntL]
  obtain ⟨n, hn, hnl, hnm⟩ := hlam hop
  rw [hn, code_at hnl]
  simp [hnl, hnm, same_iff, sameL_iff, fun_iff hT]
  grind
theorem rl12 (hx : ExIn c e) (hT : tyValid c.data 0 e.ty = true) (hop : e.op = 12) : progRule c e = true ↔ RR c e = true := by
  have hvl := typesOf_len c e.vars
  have hkl : (etysOf c e.kids).length = e.kids.length := by simp [etysOf]
  simp [progRule, isNum, isPar, restR, numR, parR, stR, stF, RR, refR4, refR5, refR6, refR7, refR9, hop, shapeB, same_iff, sameL_iff, typesOf_len, agree_iff, cntL]
  by_cases h0 : 0 ≤ e.num
  · by_cases hl : e.num < c.codes.length
    · obtain ⟨n, hn⟩ : ∃ n : Nat, e.num = n := ⟨e.num.toNat, by omega⟩
      have hnl : n < c.codes.length := by omega
      rw [hn, code_at hnl]
      simp [hnl, same_iff, sameL_iff]
      grind
    · have : c.codes[e.num.toNat]? = none := List.getElem?_eq_none (by omega)
      simp [this, h0, hl]
  · simp [h0]
theorem rl13 (hx : ExIn c e) (hT : tyValid c.data 0 e.ty = true) (hop : e.op = 13) : progRule c e = true ↔ RR c e = true := by
  have hvl := typesOf_len c e.vars
  have hkl : (etysOf c e.kids).length = e.kids.length := by simp [etysOf]
  simp [progRule, isNum, isPar, restR, numR, parR, stR, stF, RR, refR4, refR5, refR6, refR7, refR9, hop, shapeB, same_iff, sameL_iff, typesOf_len, agree_iff, cntL]
  intro h0
  cases hv : e.vars with
  | nil => simp
  | cons v l =>
    have hvv := vval hx (v := v) (by simp [hv])
    simp [typesOf, hd0, fun_iff hvv]
    grind
theorem rl14 (hx : ExIn c e) (hT : tyValid c.data 0 e.ty = true) (hop : e.op = 14) : progRule c e = true ↔ RR c e = true := by
  have hvl := typesOf_len c e.vars
  have hkl : (etysOf c e.kids).length = e.kids.length := by simp [etysOf]
  simp [progRule, isNum, isPar, restR, numR, parR, stR, stF, RR, refR4, refR5, refR6, refR7, refR9, hop, shapeB, same_iff, sameL_iff, typesOf_len, agree_iff, cntL]
  have t1 := ty_simple hT (k := 1) (by simp)
  have t2 := ty_simple hT (k := 2) (by simp)
  by_cases h6 : 6 ≤ e.num
  · simp [h6, t2, same_iff]
    grind
  · simp [h6, t1, same_iff]
    grind
theorem rl15 (hx : ExIn c e) (hT : tyValid c.data 0 e.ty = true) (hop : e.op = 15) : progRule c e = true ↔ RR c e = true := by
  have hvl := typesOf_len c e.vars
  have hkl : (etysOf c e.kids).length = e.kids.length := by simp [etysOf]
  simp [progRule, isNum, isPar, restR, numR, parR, stR, stF, RR, refR4, refR5, refR6, refR7, refR9, hop, shapeB, same_iff, sameL_iff, typesOf_len, agree_iff, cntL]
  intro h0
  by_cases hv : e.vars.length = 2
  · obtain ⟨a, b, hv'⟩ := len2 (l := e.vars) (by simp [hv])
    simp [hv', typesOf, hd0, hd1]
    intro h1
    constructor
    · rintro ⟨h2, h3⟩
      rw [h3]
      exact ⟨rfl, h2, rfl⟩
    · rintro ⟨h2, h3, h4⟩
      refine ⟨h3, ?_⟩
      rw [h4]
      exact ty_one hT (k := 7) (by simp) h2
  · grind
theorem rl16 (hx : ExIn c e) (hT : tyValid c.data 0 e.ty = true) (hop : e.op = 16) : progRule c e = true ↔ RR c e = true := by
  have hvl := typesOf_len c e.vars
  have hkl : (etysOf c e.kids).length = e.kids.length := by simp [etysOf]
  simp [progRule, isNum, isPar, restR, numR, parR, stR, stF, RR, refR4, refR5, refR6, refR7, refR9, hop, shapeB, same_iff, sameL_iff, typesOf_len, agree_iff, cntL]
  intro h0
  by_cases hv : e.vars.length = 2
  · obtain ⟨a, b, hv'⟩ := len2 (l := e.vars) (by simp [hv])
    have hva := vval hx (v := a) (by simp [hv'])
    simp [hv', typesOf, hd0, hd1]
    have := fun h => ty_one hva (k := 7) (by simp) h
    grind
  · grind
theorem rl17 (hx : ExIn c e) (hT : tyValid c.data 0 e.ty = true) (hop : e.op = 17) : progRule c e = true ↔ RR c e = true := by
  have hvl := typesOf_len c e.vars
  have hkl : (etysOf c e.kids).length = e.kids.length := by simp [etysOf]
  simp [progRule, isNum, isPar, restR, numR, parR, stR, stF, RR, refR4, refR5, refR6, refR7, refR9, hop, shapeB, same_iff, sameL_iff, typesOf_len, agree_iff, cntL]
  intro h0
  by_cases hv : e.vars.length = 3
  · obtain ⟨a, b, d, hv'⟩ := len3 (l := e.vars) (by simp [hv])
    have hva := vval hx (v := a) (by simp [hv'])
    simp [hv', typesOf, hd0, hd1]
    have := fun h => ty_one hva (k := 7) (by simp) h
    grind
  · grind
theorem rl18 (hx : ExIn c e) (hT : tyValid c.data 0 e.ty = true) (hop : e.op = 18) : progRule c e = true ↔ RR c e = true := by
  have hvl := typesOf_len c e.vars
  have hkl : (etysOf c e.kids).length = e.kids.length := by simp [etysOf]
  simp [progRule, isNum, isPar, restR, numR, parR, stR, stF, RR, refR4, refR5, refR6, refR7, refR9, hop, shapeB, same_iff, sameL_iff, typesOf_len, agree_iff, cntL, ty_simple hT (k := 1) (by simp)]
  intro h0
  by_cases hv : e.vars.length = 1
  · obtain ⟨a, hv'⟩ := len1 (l := e.vars) (by simp [hv])
    simp [hv', typesOf, hd0, hd1]

  · grind
theorem rl19 (hx : ExIn c e) (hT : tyValid c.data 0 e.ty = true) (hop : e.op = 19) : progRule c e = true ↔ RR c e = true := by
  have hvl := typesOf_len c e.vars
  have hkl : (etysOf c e.kids).length = e.kids.length := by simp [etysOf]
  simp [progRule, isNum, isPar, restR, numR, parR, stR, stF, RR, refR4, refR5, refR6, refR7, refR9, hop, shapeB, same_iff, sameL_iff, typesOf_len, agree_iff, cntL]
  intro h0
  by_cases hv : e.vars.length = 1
  · obtain ⟨a, hv'⟩ := len1 (l := e.vars) (by simp [hv])
    simp [hv', typesOf, hd0, hd1]
    intro h1
    constructor
    · intro h2
      rw [h2]
      exact ⟨rfl, rfl⟩
    · rintro ⟨h2, h3⟩
      rw [h3]
      exact ty_one hT (k := 8) (by simp) h2
  · grind
theorem rl20 (hx : ExIn c e) (hT : tyValid c.data 0 e.ty = true) (hop : e.op = 20) : progRule c e = true ↔ RR c e = true := by
  have hvl := typesOf_len c e.vars
  have hkl : (etysOf c e.kids).length = e.kids.length := by simp [etysOf]
  simp [progRule, isNum, isPar, restR, numR, parR, stR, stF, RR, refR4, refR5, refR6, refR7, refR9, hop, shapeB, same_iff, sameL_iff, typesOf_len, agree_iff, cntL]
  intro h0
  by_cases hv : e.vars.length = 1
  · obtain ⟨a, hv'⟩ := len1 (l := e.vars) (by simp [hv])
    simp [hv', typesOf, hd0, hd1]
    grind
  · grind
theorem rl21 (hx : ExIn c e) (hT : tyValid c.data 0 e.ty = true) (hop : e.op = 21) : progRule c e = true ↔ RR c e = true := by
  have hvl := typesOf_len c e.vars
  have hkl : (etysOf c e.kids).length = e.kids.length := by simp [etysOf]
  simp [progRule, isNum, isPar, restR, numR, parR, stR, stF, RR, refR4, refR5, refR6, refR7, refR9, hop, shapeB, same_iff, sameL_iff, typesOf_len, agree_iff, cntL]
  intro h0
  by_cases hv : e.vars.length = 2
  · obtain ⟨a, b, hv'⟩ := len2 (l := e.vars) (by simp [hv])
    have hva := vval hx (v := a) (by simp [hv'])
    simp [hv', typesOf, hd0, hd1]
    have := fun h => ty_one hva (k := 8) (by simp) h
    grind
  · grind
theorem rl23 (hx : ExIn c e) (hT : tyValid c.data 0 e.ty = true) (hop : e.op = 23) : progRule c e = true ↔ RR c e = true := by
  have hvl := typesOf_len c e.vars
  have hkl : (etysOf c e.kids).length = e.kids.length := by simp [etysOf]
  simp [progRule, isNum, isPar, restR, numR, parR, stR, stF, RR, refR4, refR5, refR6, refR7, refR9, hop, shapeB, same_iff, sameL_iff, typesOf_len, agree_iff, cntL]
  simp [hT]
  grind
theorem rl24 (hx : ExIn c e) (hT : tyValid c.data 0 e.ty = true) (hop : e.op = 24) : progRule c e = true ↔ RR c e = true := by
  have hvl := typesOf_len c e.vars
  have hkl : (etysOf c e.kids).length = e.kids.length := by simp [etysOf]
  simp [progRule, isNum, isPar, restR, numR, parR, stR, stF, RR, refR4, refR5, refR6, refR7, refR9, hop, shapeB, same_iff, sameL_iff, typesOf_len, agree_iff, cntL]
  intro h0
  by_cases hk : e.kids.length = 2
  · obtain ⟨k0, k1, hk'⟩ := len2 (l := e.kids) (by simp [hk])
    obtain ⟨b0, b1, hb'⟩ := len2 (l := e.binds) (by simp [hx.bk, hk])
    simp [hk', hb', etysOf, bAt, hd0, hd1, lens, typesOf]
    grind
  · grind
theorem rule_iff (hx : ExIn c e) (hT : tyValid c.data 0 e.ty = true) (hlam : e.op = 11 → ∃ n : Nat, e.num = n ∧ ∃ h : n < c.codes.length, (c.codes[n]).name = []) : progRule c e = true ↔ RR c e = true := by
  by_cases h1 : e.op = 1
  · exact rl1 hx hT h1
  by_cases h2 : e.op = 2
  · exact rl2 hx hT h2
  by_cases h3 : e.op = 3
  · exact rl3 hx hT h3
  by_cases h4 : e.op = 4
  · exact rl4 hx hT h4
  by_cases h5 : e.op = 5
  · exact rl5 hx hT h5
  by_cases h6 : e.op = 6
  · exact rl6 hx hT h6
  by_cases h7 : e.op = 7
  · exact rl7 hx hT h7
  by_cases h8 : e.op = 8
  · exact rl8 hx hT h8
  by_cases h9 : e.op = 9
  · exact rl9 hx hT h9
  by_cases h10 : e.op = 10
  · exact rl10 hx hT h10
  by_cases h11 : e.op = 11
  · exact rl11 hx hT hlam h11
  by_cases h12 : e.op = 12
  · exact rl12 hx hT h12
  by_cases h13 : e.op = 13
  · exact rl13 hx hT h13
  by_cases h14 : e.op = 14
  · exact rl14 hx hT h14
  by_cases h15 : e.op = 15
  · exact rl15 hx hT h15
  by_cases h16 : e.op = 16
  · exact rl16 hx hT h16
  by_cases h17 : e.op = 17
  · exact rl17 hx hT h17
  by_cases h18 : e.op = 18
  · exact rl18 hx hT h18
  by_cases h19 : e.op = 19
  · exact rl19 hx hT h19
  by_cases h20 : e.op = 20
  · exact rl20 hx hT h20
  by_cases h21 : e.op = 21
  · exact rl21 hx hT h21
  by_cases h22 : e.op = 22
  · exact rl22 hx hT h22
  by_cases h23 : e.op = 23
  · exact rl23 hx hT h23
  by_cases h24 : e.op = 24
  · exact rl24 hx hT h24
  have hp : progRule c e = false := by
    have h15' : ¬ (15 ≤ e.op ∧ e.op ≤ 21) := by omega
    simp [progRule, isNum, isPar, restR, stR, h1, h2, h3, h4, h5, h6, h7, h8, h9, h10, h11, h12, h13, h14, h15, h16, h17, h18, h19, h20, h21, h22, h23, h24]
    intro _ h1 h2
    omega
  have hr : RR c e = false := by simp [RR, refR4, refR5, refR6, refR7, refR9, h1, h2, h3, h4, h5, h6, h7, h8, h9, h10, h11, h12, h13, h14, h15, h16, h17, h18, h19, h20, h21, h22, h23, h24]
  rw [hp, hr]
end
def leB (s t : List Bool) : Prop := ∀ v : Nat, s.getD v false = true → t.getD v false = true
theorem set_getD (st : List Bool) (i v : Nat) (b : Bool) : (st.set i b).getD v false = if i = v ∧ v < st.length then b else st.getD v false := by
  rw [List.getD_eq_getElem?_getD, List.getElem?_set, List.getD_eq_getElem?_getD]
  by_cases h : i = v
  · subst h
    by_cases h2 : i < st.length
    · simp [h2]
    · simp [h2]
  · simp [h]
theorem setF_false (l : List Int) : ∀ st v, (setF st l false).getD v false = true → st.getD v false = true ∧ ∀ x ∈ l, x.toNat ≠ v := by
  induction l with
  | nil => intro st v h; exact ⟨h, by simp⟩
  | cons a l ih =>
    intro st v h
    rw [setF_cons] at h
    obtain ⟨h1, h2⟩ := ih _ _ h
    rw [set_getD] at h1
    by_cases hh : a.toNat = v ∧ v < st.length
    · rw [if_pos hh] at h1; cases h1
    · rw [if_neg hh] at h1
      refine ⟨h1, fun x hx => ?_⟩
      rcases List.mem_cons.1 hx with rfl | hx
      · intro e
        refine hh ⟨e, ?_⟩
        by_cases h3 : v < st.length
        · exact h3
        · rw [List.getD_eq_getElem?_getD, List.getElem?_eq_none (by omega)] at h1; simp at h1
      · exact h2 x hx
theorem setF_true (l : List Int) : ∀ st v, (setF st l true).getD v false = true → st.getD v false = true ∨ ∃ x ∈ l, x.toNat = v := by
  induction l with
  | nil => intro st v h; exact .inl h
  | cons a l ih =>
    intro st v h
    rw [setF_cons] at h
    rcases ih _ _ h with h1 | ⟨x, hx, hv⟩
    · rw [set_getD] at h1
      by_cases hh : a.toNat = v ∧ v < st.length
      · exact .inr ⟨a, by simp, hh.1⟩
      · rw [if_neg hh] at h1; exact .inl h1
    · exact .inr ⟨x, by simp [hx], hv⟩
theorem setF_back {s st : List Bool} {l : List Int} (h : leB s (setF st l true)) : leB (setF s l false) st := by
  intro v hv
  obtain ⟨h1, h2⟩ := setF_false l _ _ hv
  rcases setF_true l _ _ (h v h1) with h3 | ⟨x, hx, e⟩
  · exact h3
  · exact absurd e (h2 x hx)
theorem visitK_le {c : Cor} {m : Nat} (ih : ∀ i st st', visitF c m i st = some st' → leB st' st) : ∀ (bs : List (List Int)) (ks : List Int) (st st' : List Bool), visitK c m bs ks st = some st' → leB st' st := by
  intro bs
  induction bs with
  | nil => intro ks st st' h; rw [visitK] at h; cases h; exact fun v h => h
  | cons b bs ihb =>
    intro ks st st' h
    cases ks with
    | nil => rw [visitK] at h; cases h; exact fun v h => h
    | cons k ks =>
      rw [visitK] at h
      cases hv : visitF c m k.toNat (setF st b true) with
      | none => rw [hv] at h; cases h
      | some s2 =>
        rw [hv] at h
        exact fun v h3 => setF_back (ih _ _ _ hv) v (ihb _ _ _ h v h3)
theorem visitF_le (c : Cor) : ∀ (m i : Nat) (st st' : List Bool), visitF c m i st = some st' → leB st' st := by
  intro m
  induction m with
  | zero => intro i st st' h; rw [visitF] at h; cases h
  | succ m ih =>
    intro i st st' h
    rw [visitF] at h
    split at h
    · cases h
    · split at h
      · exact visitK_le ih _ _ _ _ h
      · cases h
theorem all_false {n : Nat} {s : List Bool} (hl : s.length = n) (h : leB s (List.replicate n false)) : s = List.replicate n false := by
  apply List.ext_getElem
  · simpa using hl
  · intro i h1 h2
    cases hs : s[i] with
    | false => simp
    | true =>
      have h3 := h i (by simp [h1, hs])
      have h4 : (List.replicate n false).getD i false = false := by
        rw [List.getD_eq_getElem?_getD, List.getElem?_replicate]
        split <;> rfl
      rw [h4] at h3; cases h3
theorem scopesF_iff (c : Cor) : ∀ fs : List Cod, scopesF c fs (List.replicate c.vars.length false) = true ↔ ∀ f ∈ fs, ((visitF c c.exprs.length f.body.toNat (startB c f)).isSome = true)
  | [] => by simp [scopesF]
  | f :: fs => by
    rw [scopesF]
    cases hv : visitF c c.exprs.length f.body.toNat (setF (setF (List.replicate c.vars.length false) f.params true) f.capt true) with
    | none => simp [startB, hv]
    | some s =>
      have hle := visitF_le c _ _ _ _ hv
      have hln := visitF_len c _ _ _ _ hv
      have h2 : leB (setF (setF s f.params false) f.capt false) (List.replicate c.vars.length false) := by
        intro v hv2
        obtain ⟨h3, h4⟩ := setF_false _ _ _ hv2
        obtain ⟨h5, h6⟩ := setF_false _ _ _ h3
        rcases setF_true _ _ _ (hle v h5) with h7 | ⟨x, hx, e⟩
        · rcases setF_true _ _ _ h7 with h8 | ⟨x, hx, e⟩
          · exact h8
          · exact absurd e (h6 x hx)
        · exact absurd e (h4 x hx)
      have h3 := all_false (by simp at hln ⊢; exact hln) h2
      simp only []
      rw [h3, scopesF_iff c fs]
      simp [startB, hv]
theorem visitG_some (c : Cor) (m i : Nat) (st : List Bool) : (visitG c m i st).1 = true ↔ (visitF c m i st).isSome = true := by
  rw [visitG_F]
  cases (visitG c m i st).1 <;> simp
theorem full_len : ∀ (n : Nat) (S : List Int), (∀ i : Nat, i < n → (i : Int) ∈ S) → n ≤ S.length := by
  intro n
  induction n with
  | zero => intro S _; omega
  | succ n ih =>
    intro S h
    have hm := h n (by omega)
    have := ih (S.erase n) (fun i hi => (List.mem_erase_of_ne (by omega)).2 (h i (by omega)))
    rw [List.length_erase_of_mem hm] at this
    have := List.length_pos_of_mem hm
    omega
theorem count_iff {n : Nat} {S : List Int} (hr : ∀ x ∈ S, 0 ≤ x ∧ x < n) : (∀ v : Nat, v < n → S.count (v : Int) = 1) ↔ S.Nodup ∧ S.length = n := by
  constructor
  · intro h
    have hm : ∀ v : Nat, v < n → (v : Int) ∈ S := fun v hv => List.count_pos_iff.1 (by rw [h v hv]; omega)
    have hnd : S.Nodup := by
      rw [List.nodup_iff_count]
      intro a
      by_cases ha : a ∈ S
      · obtain ⟨v, rfl⟩ : ∃ v : Nat, a = v := ⟨a.toNat, by have := hr a ha; omega⟩
        rw [h v (by have := hr _ ha; omega)]; omega
      · rw [List.count_eq_zero_of_not_mem ha]; omega
    exact ⟨hnd, Nat.le_antisymm (nodup_le n S hnd hr) (full_len n S hm)⟩
  · rintro ⟨h1, h2⟩ v hv
    have hm := nodup_full h1 hr h2 v hv
    have := List.nodup_iff_count.1 h1 (v : Int)
    have := List.count_pos_iff.2 hm
    omega
theorem uses_eq (c : Cor) : ∀ i, i ≤ c.exprs.length → (∀ j (h : j < c.exprs.length), (c.exprs[j]).op = 11 → 0 ≤ (c.exprs[j]).num ∧ (c.exprs[j]).num < c.codes.length) → usesTo c i = cnt c.codes.length (lamsOf (c.exprs.take i)) := by
  intro i
  induction i with
  | zero => intro _ _; simp [usesTo, lamsOf, cnt_nil]
  | succ i ih =>
    intro hi hr
    have hlt : i < c.exprs.length := by omega
    rw [usesTo_succ hlt, ih (by omega) hr, lamsOf_snoc hlt]
    by_cases h11 : (c.exprs[i]).op = 11
    · obtain ⟨h1, h2⟩ := hr i hlt h11
      obtain ⟨n, hn⟩ : ∃ n : Nat, (c.exprs[i]).num = n := ⟨(c.exprs[i]).num.toNat, by omega⟩
      have hnl : n < c.codes.length := by omega
      rw [usesF, if_pos h11, if_pos h11, hn, Int.toNat_natCast, ← cnt_set _ hnl]
      congr 1
      rw [List.getD_eq_getElem?_getD, List.getElem?_eq_getElem (by simpa using hnl), Option.getD_some, cnt_get]
    · rw [usesF, if_neg h11, if_neg h11, List.append_nil]
theorem cnt_getD {n i : Nat} (S : List Int) (h : i < n) : (cnt n S).getD i 0 = ((S.count (i : Int) : Nat) : Int) := by
  rw [List.getD_eq_getElem?_getD, List.getElem?_eq_getElem (by simpa using h), Option.getD_some, cnt_get]
theorem lams_mem {l : List CEx} {n : Int} : n ∈ lamsOf l ↔ ∃ e ∈ l, e.op = 11 ∧ e.num = n := by
  simp [lamsOf, and_assoc]
theorem num_lam {c : Cor} {e : CEx} (h11 : e.op = 11) (h : progRule c e = true) : ∃ n : Nat, e.num = n ∧ ∃ h : n < c.codes.length, (c.codes[n]).name = [] := by
  rw [progRule, if_pos (.inr (.inl h11)), numR] at h
  split at h
  · cases h
  · rename_i hn
    rw [if_neg (by omega), if_neg (by omega)] at h
    obtain ⟨n, hn'⟩ : ∃ n : Nat, e.num = n := ⟨e.num.toNat, by omega⟩
    refine ⟨n, hn', ?_⟩
    rw [hn', Int.toNat_natCast] at h
    by_cases hl : n < c.codes.length
    · rw [List.getElem?_eq_getElem hl] at h
      simp only [] at h
      rw [if_neg (by omega)] at h
      simp only [Bool.and_eq_true, beq_iff_eq] at h
      exact ⟨hl, h.1.1⟩
    · rw [List.getElem?_eq_none (by omega)] at h; cases h
theorem kid_ty {c : Cor} {e : CEx} (hx : ExIn c e) (h : progRule c e = true) : ∀ k ∈ e.kids, ety c k = e.ty ∨ tyValid c.data 0 (ety c k) = true := by
  intro k hk
  have hne : e.kids ≠ [] := by intro h; rw [h] at hk; cases hk
  have hkl : e.kids.length ≠ 0 := fun h => hne (List.eq_nil_of_length_eq_zero h)
  have hs : ∀ v, shapeB e v 0 = false := fun v => by simp [shapeB, hne]
  rw [progRule] at h
  split at h
  · rw [numR, if_pos (.inl hkl)] at h; cases h
  · simp only [hs, Bool.false_and] at h
    split at h
    · cases h
    · split at h
      · cases h
      · split at h
        · cases h
        · rw [restR] at h
          simp only [hs, Bool.false_and] at h
          split at h
          · cases h
          · split at h
            · cases h
            · split at h
              · simp [shapeB, hne] at h
              · split at h
                · cases h
                · split at h
                  · cases h
                  · split at h
                    · simp [shapeB, hne] at h
                    · split at h
                      · rw [parR] at h
                        split at h
                        · simp only [Bool.and_eq_true, agree_iff, sameL_iff] at h
                          obtain ⟨h1, h2, h3, h4⟩ := h
                          cases hks : e.kids with
                          | nil => exact absurd hks hne
                          | cons k0 l =>
                            rw [hks] at hk h3 h4
                            rcases List.mem_cons.1 hk with rfl | hk
                            · right
                              have hb1 : inV c (e.binds.getD 1 []) := by
                                rw [List.getD_eq_getElem?_getD]
                                by_cases hb : 1 < e.binds.length
                                · rw [List.getElem?_eq_getElem hb]; exact hx.binds _ (List.getElem_mem hb)
                                · rw [List.getElem?_eq_none (by omega)]; intro x hx; cases hx
                              have : ety c k ∈ typesOf c (e.binds.getD 1 []) := by rw [h3]; simp
                              obtain ⟨v, hv, hv2⟩ := List.mem_map.1 this
                              rw [← hv2]
                              have := hb1 v hv
                              obtain ⟨n, rfl⟩ : ∃ n : Nat, v = n := ⟨v.toNat, by omega⟩
                              rw [vty_eq (by omega)]
                              exact hx.vtys _ (List.getElem_mem _)
                            · exact .inl (h4 k (by simpa using hk))
                        · left
                          split at h
                          · simp only [Bool.and_eq_true, agree_iff] at h; exact h.2.2.2 k hk
                          · split at h
                            · simp only [Bool.and_eq_true, agree_iff] at h; exact h.2.2.2 k hk
                            · split at h
                              · simp only [Bool.and_eq_true, agree_iff] at h; exact h.2.2.2 k hk
                              · simp only [Bool.and_eq_true, agree_iff] at h; exact h.2.2.2.2 k hk
                      · rw [stR] at h
                        simp only [hs, Bool.false_and] at h
                        split at h <;> cases h
theorem prog_types {c : Cor} (hk : KCore c) (h : ProgV c) (hex : ∀ i (h : i < c.exprs.length), ExIn c c.exprs[i]) : ∀ i (hi : i < c.exprs.length), tyValid c.data 0 (c.exprs[i]).ty = true := by
  intro i
  induction i using Nat.strongRecOn with
  | _ i ih =>
    intro hi
    rcases tree_cases h.codes h.tree i hi with ⟨f, hf, hb⟩ | ⟨j, hj, hji, hm⟩
    · obtain ⟨k, hk, rfl⟩ := List.getElem_of_mem hf
      obtain ⟨_, _, _, hres, b, h1, h2, h3⟩ := h.codes k hk
      obtain rfl : b = i := by omega
      rw [same_iff] at h3
      rw [h3]; exact hres
    · have := kid_ty (hex j hj) (h.exprs.rule j hj) _ hm
      rw [ety_eq hi] at this
      rcases this with h1 | h1
      · rw [h1]; exact ih j hji hj
      · exact h1
theorem names_iff (l : List Cod) : (nms l).Nodup ↔ ∀ i j (hi : i < l.length) (hj : j < l.length), i < j → (l[j]).name ≠ [] → (l[i]).name ≠ (l[j]).name := by
  rw [nms, List.Nodup, List.pairwise_filter, List.pairwise_map, List.pairwise_iff_getElem]
  constructor
  · intro h i j hi hj hij hn e
    have hn' : (!(l[j]).name.isEmpty) = true := by simpa using hn
    exact h i j hi hj hij (by rw [e]; exact hn') hn' e
  · intro h i j hi hj hij h1 h2 e
    exact h i j hi hj hij (by simpa using h2) e
theorem valid_iff (c : Cor) (hk : KCore c) : ProgV c ↔ RefV c := by
  have hk' := hk
  obtain ⟨k1, k2, k3, ⟨k4, k5⟩, k6, k7⟩ := hk'
  have hvar : varsOk c = true ↔ ∀ v ∈ c.vars, tyValid c.data 0 v = true := by
    have : c.vars.length ≤ 3000 := by omega
    simp [varsOk, this]
  constructor
  · intro h
    have hex := exIn_of hk h.vars h.codes h.tree h.bind (fun i hi => vis_vars (vis_all h.codes h.tree h.scopes i hi) hi)
    have hty := prog_types hk h hex
    have hlr : ∀ j (hj : j < c.exprs.length), (c.exprs[j]).op = 11 → 0 ≤ (c.exprs[j]).num ∧ (c.exprs[j]).num < c.codes.length := fun j hj h11 => by
      obtain ⟨n, hn, hl, _⟩ := num_lam h11 (h.exprs.rule j hj)
      omega
    have huse : usesTo c c.exprs.length = cnt c.codes.length (lamsOf c.exprs) := by
      have := uses_eq c c.exprs.length (Nat.le_refl _) hlr
      rwa [List.take_length] at this
    refine ⟨(data_iff _).1 h.data, hvar.1 h.vars, fun i hi => ?_, ?_, fun i hi => ?_, (count_iff h.bind.range).2 ⟨h.bind.nodup, h.bind.len⟩, (count_iff (tree_range h.codes h.tree)).2 ⟨h.tree.nodup, h.tree.len⟩, fun i hi => ?_, fun i hi => ?_, fun i hi => ?_⟩
    · obtain ⟨_, q1, q2, q3, q4⟩ := h.codes i hi
      obtain ⟨r1, r2⟩ := bind_codes h.bind _ (List.getElem_mem hi)
      refine ⟨fun hn hi1 => ?_, fun hn => (q1 hn).2.2, q2, q3, r1, r2, q4⟩
      obtain ⟨_, p1, _⟩ := h.codes (i + 1) hi1
      by_cases hh : (c.codes[i + 1]).name = []
      · exact hh
      · exact absurd hn ((p1 hh).1 i (by omega))
    · rw [names_iff]
      intro i j hi hj hij hn
      obtain ⟨_, p1, _⟩ := h.codes j hj
      exact (p1 hn).2.1 i hij
    · have hx := hex i hi
      exact ⟨fun k hk => (h.tree.kids i hi k hk).1, hx.kids, hx.bk, hx.binds, hx.vars, fun h11 => hlr i hi h11⟩
    · by_cases hn : (c.codes[i]).name = []
      · rw [if_pos hn]
        have := h.exprs.uses i hi hn
        rw [huse, cnt_getD _ hi] at this
        omega
      · rw [if_neg hn]
        refine List.count_eq_zero_of_not_mem fun hm => ?_
        obtain ⟨e, he, h11, hnum⟩ := lams_mem.1 hm
        obtain ⟨j, hj, rfl⟩ := List.getElem_of_mem he
        obtain ⟨n, hn1, hl, hn2⟩ := num_lam h11 (h.exprs.rule j hj)
        obtain rfl : n = i := by omega
        exact hn hn2
    · rw [refRule, hty i hi, Bool.true_and]
      exact (rule_iff (hex i hi) (hty i hi) (fun h11 => num_lam h11 (h.exprs.rule i hi))).1 (h.exprs.rule i hi)
    · rw [visitG_some]
      exact (scopesF_iff c c.codes).1 h.scopes _ (List.getElem_mem hi)
  · intro h
    have hempty : ∀ i j (hj : j < c.codes.length) (hij : i ≤ j), (c.codes[i]).name = [] → (c.codes[j]).name = [] := by
      intro i j hj hij hn
      induction j with
      | zero => obtain rfl : i = 0 := by omega
                exact hn
      | succ j ih =>
        by_cases e : i = j + 1
        · subst e; exact hn
        · have := ih (by omega) (by omega) hn
          exact (h.codes j (by omega)).order this hj
    have hcod : CodesP c := fun i hi => by
      obtain ⟨q1, q2, q3, q4, q5, q6, q7⟩ := h.codes i hi
      refine ⟨hi, fun hn => ⟨fun j hj hn2 => hn (hempty j i hi (by omega) hn2), fun j hj => (names_iff c.codes).1 h.names j i (by omega) hi hj hn, q2 hn⟩, q3, q4, q7⟩
    have htr : ∀ x ∈ allE c, 0 ≤ x ∧ x < (c.exprs.length : Int) := by
      intro x hx
      rw [allE] at hx
      rcases List.mem_append.1 hx with h1 | h1
      · obtain ⟨f, hf, rfl⟩ := List.mem_map.1 h1
        obtain ⟨i, hi, rfl⟩ := List.getElem_of_mem hf
        obtain ⟨b, hb, hbl, _⟩ := (h.codes i hi).body
        omega
      · obtain ⟨e, he, hx⟩ := List.mem_flatMap.1 h1
        obtain ⟨i, hi, rfl⟩ := List.getElem_of_mem he
        exact (h.exprs i hi).range x hx
    obtain ⟨ht1, ht2⟩ := (count_iff htr).1 h.placed
    have htree : TreeP c := ⟨fun i hi => (h.exprs i hi).bk, fun i hi k hk => ⟨(h.exprs i hi).kids k hk, ((h.exprs i hi).range k hk).2⟩, ht1, ht2⟩
    have hbr : ∀ x ∈ allV c, 0 ≤ x ∧ x < (c.vars.length : Int) := by
      intro x hx
      rw [allV] at hx
      rcases List.mem_append.1 hx with h1 | h1
      · obtain ⟨f, hf, hx⟩ := List.mem_flatMap.1 h1
        obtain ⟨i, hi, rfl⟩ := List.getElem_of_mem hf
        rcases List.mem_append.1 hx with h2 | h2
        · exact (h.codes i hi).rp x h2
        · exact (h.codes i hi).rc x h2
      · obtain ⟨e, he, hx⟩ := List.mem_flatMap.1 h1
        obtain ⟨i, hi, rfl⟩ := List.getElem_of_mem he
        obtain ⟨l, hl, hx⟩ := List.mem_flatten.1 hx
        exact (h.exprs i hi).binds l hl x hx
    obtain ⟨hb1, hb2⟩ := (count_iff hbr).1 h.bound
    have hbind : BindP c := ⟨hbr, hb1, hb2⟩
    have hex := exIn_of hk (hvar.2 h.vars) hcod htree hbind (fun i hi => (h.exprs i hi).vars)
    have hty : ∀ i (hi : i < c.exprs.length), tyValid c.data 0 (c.exprs[i]).ty = true ∧ RR c c.exprs[i] = true := fun i hi => by
      have := h.rules i hi
      rw [refRule, Bool.and_eq_true] at this
      exact this
    have huse : usesTo c c.exprs.length = cnt c.codes.length (lamsOf c.exprs) := by
      have := uses_eq c c.exprs.length (Nat.le_refl _) (fun j hj h11 => (h.exprs j hj).lam h11)
      rwa [List.take_length] at this
    refine ⟨(data_iff _).2 h.data, hvar.2 h.vars, hcod, htree, hbind, (scopesF_iff c c.codes).2 fun f hf => ?_, fun i hi => ?_, fun i hi hn => ?_⟩
    · obtain ⟨i, hi, rfl⟩ := List.getElem_of_mem hf
      rw [← visitG_some]; exact h.scopes i hi
    · refine (rule_iff (hex i hi) (hty i hi).1 (fun h11 => ?_)).2 (hty i hi).2
      obtain ⟨l1, l2⟩ := (h.exprs i hi).lam h11
      refine ⟨(c.exprs[i]).num.toNat, by omega, by omega, ?_⟩
      have hm := h.made (c.exprs[i]).num.toNat (by omega)
      by_cases hn : (c.codes[(c.exprs[i]).num.toNat]'(by omega)).name = []
      · exact hn
      · rw [if_neg hn] at hm
        have hmem : (((c.exprs[i]).num.toNat : Nat) : Int) ∈ lamsOf c.exprs := lams_mem.2 ⟨_, List.getElem_mem hi, h11, by omega⟩
        have := List.count_pos_iff.2 hmem
        omega
    · rw [huse, cnt_getD _ hi, h.made i hi, if_pos hn]; rfl
end Go.Proofs.Ytkdmpbhbmmhijaa

