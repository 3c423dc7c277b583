/- core.validVars, core.validCodes. -/
import Derived.Test.YtkdmpbhbmmhijaaKYb
namespace Go.Proofs.Ytkdmpbhbmmhijaa
open Go Go.Abs
set_option linter.unusedSimpArgs false
set_option linter.unusedVariables false
set_option maxRecDepth 8000
def corC (c : Cor) : AB := .cells [.sl (c.data.map Dat.cs) .none, .sl (c.codes.map Cod.cs) .none, .sl (VT.css c.vars) .none, .sl (c.exprs.map CEx.cs) .none]
theorem cod_at {c : Cor} {i : Nat} (h : i < c.codes.length) : ∃ x y z, (c.codes[i]).res.cs = [x, y, z] ∧ x.known = true ∧ y.known = true ∧ z.known = true ∧ (c.codes[i]).cs = [.str (c.codes[i]).name, .sl (ints (c.codes[i]).params) .none, .sl (ints (c.codes[i]).capt) .none, x, y, z, .int .i64 (c.codes[i]).body] := by
  obtain ⟨x, y, z, hv, hx, hy, hz⟩ := vt3 (c.codes[i]).res
  refine ⟨x, y, z, hv, hx, hy, hz, ?_⟩
  rw [Cod.cs, hv]; rfl
theorem ex_at {c : Cor} {i : Nat} (h : i < c.exprs.length) : ∃ x y z, (c.exprs[i]).ty.cs = [x, y, z] ∧ x.known = true ∧ y.known = true ∧ z.known = true ∧ (c.exprs[i]).cs = [.int .i64 (c.exprs[i]).op, .int .i64 (c.exprs[i]).num, .sl (ints (c.exprs[i]).vars) .none, .sl (rows (c.exprs[i]).binds) .none, .sl (ints (c.exprs[i]).kids) .none, x, y, z] := by
  obtain ⟨x, y, z, hv, hx, hy, hz⟩ := vt3 (c.exprs[i]).ty
  refine ⟨x, y, z, hv, hx, hy, hz, ?_⟩
  rw [CEx.cs, hv]
def varsOk (c : Cor) : Bool := decide (c.vars.length ≤ 3000) && c.vars.all (tyValid c.data 0)
theorem callVars1 : callable tP n_zq67 = true := by kernel_rfl
theorem zq40_spec (c : Cor) (hc : KCore c) (H : Heap) (K : Kt) (hK : K (.bool (varsOk c)) H) : ACalls tP n_zq40 [.agg c.cs] H K := by
  refine ACalls.out (zq40_ok fun hs => ?_)
  obtain ⟨k1, k2, k3, ⟨k4, k5⟩, k6, k7⟩ := hc
  have h1 : (c.vars.length : Int) ≤ 3000 := by omega
  have h2 : c.vars.length ≤ 3000 := by omega
  simp [zq40, Cor.cs, h1, h2]
  refine ⟨rfl, ?_⟩
  have hO : ∀ J, Out H.length K (.bool (c.vars.all (tyValid c.data 0))) (H ++ J) := fun J => Out.bool rfl (Nat.le_refl _) hs (by simpa [varsOk, h2] using hK)
  refine containsFunc_spec c.vars (by omega) _ _ _ (by simp [AV.sc, AV.scV, AV.scA, AV.scB]) (fun i H' => H' = H ++ [corC c] ∧ ∀ v ∈ c.vars.take i, tyValid c.data 0 v = true) ⟨rfl, by simp⟩ ?_ ?_
  · rintro i hi H' hle ⟨rfl, hp⟩
    simp only [aCallV, callVars1]
    refine ACalls.out (zq67_ok fun hs1 => ?_)
    simp [zq67, corC]
    refine zq68_spec c.data 0 _ (by have := k5 _ (List.getElem_mem hi); omega) _ _ ?_
    cases hv : tyValid c.data 0 c.vars[i] with
    | true =>
      simp
      refine Out.bool (H2 := H ++ [corC c]) (J := [.cells (c.vars[i]).cs]) (by simp [corC]) (by simp) hs1 (.inl ⟨rfl, rfl, mem_take_succ hi hp hv⟩)
    | false =>
      simp
      refine Out.bool (H2 := H ++ [corC c]) (J := [.cells (c.vars[i]).cs]) (by simp [corC]) (by simp) hs1 (.inr ⟨rfl, ?_⟩)
      have : c.vars.all (tyValid c.data 0) = false := by
        rw [List.all_eq_false]; exact ⟨_, List.getElem_mem hi, by simp [hv]⟩
      rw [this] at hO
      simpa using hO _
  · rintro H' ⟨rfl, hp⟩
    rw [List.take_length] at hp
    have : c.vars.all (tyValid c.data 0) = true := by rw [List.all_eq_true]; exact hp
    rw [this] at hO
    simpa using hO _
theorem seen_put' (s : List UInt8) (l : List (List UInt8)) : ∃ l', mput (seen l) s (.bool true) = seen l' ∧ ∀ x, x ∈ l' ↔ x ∈ l ∨ x = s := by
  induction l with
  | nil => exact ⟨[s], rfl, by simp⟩
  | cons a l ih =>
    cases h : a == s with
    | true =>
      have h' : a = s := by simpa using h
      refine ⟨a :: l, by simp [seen, mput, h, h'], ?_⟩
      intro x; subst h'; simp
      exact fun h => .inl h
    | false =>
      obtain ⟨l', h1, h2⟩ := ih
      refine ⟨a :: l', ?_, ?_⟩
      · simp only [seen, List.map_cons, mput, h] at h1 ⊢; rw [h1]
      · intro x; simp [h2, or_assoc]
def CodeP (c : Cor) (i : Nat) : Prop := ∃ h : i < c.codes.length,
  ((c.codes[i]).name ≠ [] → (∀ j (hj : j < i), (c.codes[j]).name ≠ []) ∧ (∀ j (hj : j < i), (c.codes[j]).name ≠ (c.codes[i]).name) ∧ (c.codes[i]).capt = []) ∧ (c.codes[i]).params.length ≤ 6 ∧ tyValid c.data 0 (c.codes[i]).res = true ∧
  ∃ b : Nat, (c.codes[i]).body = b ∧ ∃ hb : b < c.exprs.length, (c.exprs[b]).ty.same (c.codes[i]).res = true
def CodesP (c : Cor) : Prop := ∀ i, i < c.codes.length → CodeP c i
theorem zq41_spec (c : Cor) (hc : KCore c) (H : Heap) (K : Kt) (hK : ∀ b, (b = true ↔ CodesP c) → K (.bool b) H) : ACalls tP n_zq41 [.agg c.cs] H K := by
  refine ACalls.out (zq41_ok fun hs => ?_)
  obtain ⟨k1, k2, k3, ⟨k4, k5⟩, k6, k7⟩ := hc
  have hF : ¬ CodesP c → ∀ J, Out H.length K (.bool false) (H ++ J) := fun h J => Out.bool rfl (Nat.le_refl _) hs (hK _ (by simp [h]))
  have hT : CodesP c → ∀ J, Out H.length K (.bool true) (H ++ J) := fun h J => Out.bool rfl (Nat.le_refl _) hs (hK _ (by simp [h]))
  have h1 : ¬ (64 : Int) < c.codes.length := by omega
  have h2 : ¬ (3000 : Int) < c.exprs.length := by omega
  simp [zq41, Cor.cs, h1, h2]
  refine zq41_loop6 (Inv := fun q t4 t21 H' => ∃ (i : Nat) (lam : Bool) (l : List (List UInt8)), i ≤ c.codes.length ∧ q = c.codes.length - i ∧ t21 = .int .i64 i ∧ t4 = .bool lam ∧ (lam = true ↔ ∃ j, ∃ h : j < c.codes.length, j < i ∧ (c.codes[j]).name = []) ∧ (∀ s, s ∈ l ↔ ∃ j, ∃ h : j < c.codes.length, j < i ∧ (c.codes[j]).name = s) ∧ (∀ j, j < i → CodeP c j) ∧ H' = H ++ [corC c, .map (seen l)]) c.codes.length ?_ ?_
  · intro _; exact ⟨0, false, [], by omega, by omega, rfl, rfl, by simp, by simp, by simp, by simp [corC, seen]⟩
  · rintro q t4 t21 H' ⟨i, lam, l, hi, rfl, rfl, rfl, hlam, hl, hp, rfl⟩ hsc hlen hsF Kb hKb
    by_cases hlt : i < c.codes.length
    · obtain ⟨x, y, z, hv, hx, hy, hz, hat⟩ := cod_at hlt
      have hnb := (k6 _ (List.getElem_mem hlt)).2.2.2
      have hno : ¬ CodeP c i → ∀ J, Out H.length K (.bool false) (H ++ J) := fun h => hF fun hh => h (hh i hlt)
      have body : (((c.codes[i]).name ≠ [] → (∀ j (hj : j < i), (c.codes[j]).name ≠ []) ∧ (∀ j (hj : j < i), (c.codes[j]).name ≠ (c.codes[i]).name) ∧ (c.codes[i]).capt = [])) → ∀ lam' : Bool, (lam' = true ↔ ∃ j, ∃ h : j < c.codes.length, j < i + 1 ∧ (c.codes[j]).name = []) →
          zq41_j1 (.ptr H.length 0) (.map (H.length + 1)) (.bool lam') (.ptr (H.length + 2) 0) (.sl (c.codes.map Cod.cs) .none) (.int .i64 c.codes.length) (.int .i64 i) (H ++ [corC c, .map (seen l), .cells [.str (c.codes[i]).name, .sl (ints (c.codes[i]).params) .none, .sl (ints (c.codes[i]).capt) .none, x, y, z, .int .i64 (c.codes[i]).body]]) (Out H.length K) Kb := by
        intro hcond lam' hlam'
        obtain ⟨l', hl1, hl2⟩ := seen_put' (c.codes[i]).name l
        have hlp : ∀ s, s ∈ l' ↔ ∃ j, ∃ h : j < c.codes.length, j < i + 1 ∧ (c.codes[j]).name = s := by
          intro s
          rw [hl2, hl]
          constructor
          · rintro (⟨j, h, h1, h2⟩ | rfl)
            · exact ⟨j, h, by omega, h2⟩
            · exact ⟨i, hlt, by omega, rfl⟩
          · rintro ⟨j, h, h1, h2⟩
            by_cases hji : j = i
            · subst hji; exact .inr h2.symm
            · exact .inl ⟨j, h, by omega, h2⟩
        by_cases hp6 : (c.codes[i]).params.length ≤ 6
        · have hp6' : ¬ (6 : Int) < (c.codes[i]).params.length := by omega
          simp [zq41_j1, hl1, corC, hp6']
          rw [← hv]
          refine zq68_spec c.data 0 _ (by omega) _ _ ?_
          cases hty : tyValid c.data 0 (c.codes[i]).res with
          | false => simp; exact hno (by rintro ⟨_, _, _, h, _⟩; rw [hty] at h; cases h) _
          | true =>
          by_cases hb0 : (c.codes[i]).body < 0
          · simp [hb0]; exact hno (by rintro ⟨_, _, _, _, b, h, _⟩; omega) _
          by_cases hbn : (c.codes[i]).body ≥ c.exprs.length
          · have := hbn
            simp [hb0, hbn]; exact hno (by rintro ⟨_, _, _, _, b, h, h2, _⟩; omega) _
          obtain ⟨b, hb⟩ : ∃ b : Nat, (c.codes[i]).body = b := ⟨(c.codes[i]).body.toNat, by omega⟩
          have hbl : b < c.exprs.length := by omega
          have hbn' : ¬ (c.exprs.length : Int) ≤ b := by omega
          obtain ⟨x', y', z', hv', hx', hy', hz', hat'⟩ := ex_at hbl
          have hnb' := (k7 _ (List.getElem_mem hbl)).2.2.2.1
          have hb0' : ¬ (b : Int) < 0 := by omega
          simp [hb, hb0', hbl, hbn', hat']
          rw [← hv, ← hv']
          refine aPureX_call (.bool ((c.exprs[b]).ty.same (c.codes[i]).res)) (fun J => zq69_spec _ _ _ (Nat.le_refl _) (by omega) _ _ ⟨rfl, rfl⟩) ?_
          cases hsm : (c.exprs[b]).ty.same (c.codes[i]).res with
          | false =>
            simp
            refine hno ?_ _
            rintro ⟨_, _, _, _, b', h, h2, h3⟩
            obtain rfl : b' = b := by omega
            rw [hsm] at h3; cases h3
          | true =>
            simp
            rw [wrap_in (by omega) (by omega)]
            refine hKb _ _ ⟨c.codes.length - (i + 1), by omega, Back.at (J := [_]) (H2 := H ++ [corC c, .map (seen l')]) (by simp [corC]; rfl) (by simp) (hs.append (by rw [List.all_cons, List.all_cons, seen_sc]; rfl)) ?_ ⟨_, _, rfl, i + 1, lam', l', by omega, rfl, by simp, rfl, hlam', hlp, ?_, rfl⟩⟩
            · simp [zq41_fr6, AV.sc, AV.scV, AV.scA, AV.scB]
            · intro j hj
              by_cases hji : j = i
              · subst hji; exact ⟨hlt, hcond, hp6, hty, b, hb, hbl, hsm⟩
              · exact hp j (by omega)
        · have hp6' : (6 : Int) < (c.codes[i]).params.length := by omega
          simp [zq41_j1, hl1, corC, hp6']
          exact hno (by rintro ⟨_, _, h, _⟩; exact hp6 h) _
      cases hnm : ((c.codes[i]).name == []) with
      | true =>
        simp [zq41_b6, hlt, hat, hx, hy, hz, hnm, Nat.add_assoc]
        refine body (fun h => absurd (by simpa using hnm) h) true ?_
        simp; exact ⟨i, by omega, hlt, by simpa using hnm⟩
      | false =>
        have hnm' : (c.codes[i]).name ≠ [] := by simpa using hnm
        cases lam with
        | true =>
          simp [zq41_b6, hlt, hat, hx, hy, hz, hnm]
          refine hno ?_ _
          rintro ⟨_, h, _⟩
          obtain ⟨j, h1, h2, h3⟩ := hlam.1 rfl
          exact (h hnm').1 j h2 h3
        | false =>
        by_cases hmem : (c.codes[i]).name ∈ l
        · simp [zq41_b6, hlt, hat, hx, hy, hz, hnm, seen_get, hmem]
          refine hno ?_ _
          rintro ⟨_, h, _⟩
          obtain ⟨j, h1, h2, h3⟩ := (hl _).1 hmem
          exact (h hnm').2.1 j h2 h3
        by_cases hcap : (c.codes[i]).capt.length > 0
        · have hcap' : (0 : Int) < (c.codes[i]).capt.length := by omega
          simp [zq41_b6, hlt, hat, hx, hy, hz, hnm, seen_get, hmem, hcap, hcap']
          refine hno ?_ _
          rintro ⟨_, h, _⟩
          have := (h hnm').2.2
          rw [this] at hcap; simp at hcap
        · have hcap' : ¬ (0 : Int) < (c.codes[i]).capt.length := by omega
          have hcap2 : (c.codes[i]).capt = [] := List.eq_nil_of_length_eq_zero (by omega)
          simp [zq41_b6, hlt, hat, hx, hy, hz, hnm, seen_get, hmem, hcap, hcap', Nat.add_assoc]
          refine body (fun _ => ⟨fun j hj h => ?_, fun j hj h => ?_, hcap2⟩) false ?_
          · exact absurd (hlam.2 ⟨j, by omega, hj, h⟩) (by simp)
          · exact hmem ((hl _).2 ⟨j, by omega, hj, h⟩)
          · simp
            intro j hj h1 h2
            by_cases hji : j = i
            · subst hji; exact hnm' h2
            · exact absurd (hlam.2 ⟨j, h1, by omega, h2⟩) (by simp)
    · obtain rfl : i = c.codes.length := by omega
      simp [zq41_b6]
      exact hT hp _
theorem nodup_le : ∀ (n : Nat) (S : List Int), S.Nodup → (∀ x ∈ S, 0 ≤ x ∧ x < n) → S.length ≤ n := by
  intro n
  induction n with
  | zero =>
    intro S _ h
    cases S with
    | nil => simp
    | cons a S => have := h a (by simp); omega
  | succ n ih =>
    intro S hS h
    by_cases hm : (n : Int) ∈ S
    · have := ih (S.erase n) (hS.erase _) (fun x hx => by
        have h1 := h x (List.mem_of_mem_erase hx)
        have h2 : x ≠ n := by rintro rfl; exact (hS.not_mem_erase) hx
        omega)
      rw [List.length_erase_of_mem hm] at this
      omega
    · have := ih S hS (fun x hx => by
        have h1 := h x hx
        have h2 : x ≠ n := by rintro rfl; exact hm hx
        omega)
      omega
def marks (n : Nat) (S : List Int) : List Bool := (List.range n).map fun (i : Nat) => decide ((i : Int) ∈ S)
@[simp] theorem marks_len (n : Nat) (S : List Int) : (marks n S).length = n := by simp [marks]
theorem marks_get {n e : Nat} (S : List Int) (h : e < n) : (marks n S)[e]? = some (decide ((e : Int) ∈ S)) := by simp [marks, h]
theorem bmarks_get {n e : Nat} (S : List Int) (h : e < n) : (bools (marks n S))[e]? = some (.bool (decide ((e : Int) ∈ S))) := by simp [bools, marks_get S h]
@[simp] theorem bools_at {l : List Bool} {i : Nat} (h : i < (bools l).length) : (bools l)[i] = .bool (l[i]'(by simpa using h)) := by simp [bools]
@[simp] theorem marks_at {n i : Nat} {S : List Int} (h : i < (marks n S).length) : (marks n S)[i] = decide ((i : Int) ∈ S) := by simp [marks]
theorem marks_nil (n : Nat) : List.replicate n false = marks n [] := by
  apply List.ext_getElem <;> simp [marks]
theorem marks_set {n e : Nat} (S : List Int) (h : e < n) : (marks n S).set e true = marks n (S ++ [(e : Int)]) := by
  apply List.ext_getElem
  · simp
  · intro k h1 h2
    simp [List.getElem_set, marks]
    by_cases hk : e = k
    · subst hk; simp
    · have : ¬ (k : Int) = e := by omega
      simp [hk, this]
def treeH (H : Heap) (c : Cor) (n : Nat) (S : List Int) : Heap := H ++ [corC c, .cells (bools (marks n S)), .cells [.ms (H.length + 1) 0 n n], .cells [.int .i64 S.length]]
theorem treeH_sc {H : Heap} (hs : HSc H) (c : Cor) (n : Nat) (S : List Int) : HSc (treeH H c n S) := hs.append (by simp [AB.sc, corC, bools_sc])
theorem HSc.swap {A A' J : Heap} (h : HSc (A ++ J)) (hA : HSc A') (hl : A'.length = A.length) : HSc (A' ++ J) := by
  intro x hx
  rw [List.length_append, hl, ← List.length_append]
  rcases List.mem_append.1 hx with h1 | h1
  · exact ABsc_mono (by rw [List.length_append]; omega) (hA x h1)
  · exact h x (List.mem_append_right _ h1)
theorem callTree1 : callable tP n_zq70 = true := by kernel_rfl
theorem claim_spec {H : Heap} {c : Cor} {n e : Nat} {S : List Int} {J : Heap} (he : e < n) (hl : (S.length : Int) ≤ 1000000) (K : Kt)
    (h1 : (e : Int) ∈ S → K (.bool false) (treeH H c n S ++ J)) (h2 : (e : Int) ∉ S → K (.bool true) (treeH H c n (S ++ [(e : Int)]) ++ J)) :
    aCallV tP (.fn n_zq70 [.ptr (H.length + 2) 0, .ptr (H.length + 3) 0]) [.int .i64 e] (treeH H c n S ++ J) K := by
  simp only [aCallV, callTree1]
  refine zq70_ok fun hs => ?_
  have hb := bmarks_get S he
  by_cases hm : (e : Int) ∈ S
  · have h1 := h1 hm
    simp [treeH] at h1
    simp [zq70, treeH, he, aCells, hb, hm]
    exact h1
  · have h2 := h2 hm
    simp [treeH] at h2
    simp [zq70, treeH, he, aCells, hb, hm]
    rw [wrap_in (by omega) (by omega), bools_set (by simpa using he), marks_set S he]
    exact ⟨by omega, h2⟩
def allE (c : Cor) : List Int := c.codes.map Cod.body ++ c.exprs.flatMap CEx.kids
structure TreeP (c : Cor) : Prop where
  binds : ∀ i (h : i < c.exprs.length), (c.exprs[i]).binds.length = (c.exprs[i]).kids.length
  kids : ∀ i (h : i < c.exprs.length), ∀ k ∈ (c.exprs[i]).kids, (i : Int) < k ∧ k < c.exprs.length
  nodup : (allE c).Nodup
  len : (allE c).length = c.exprs.length
theorem nodup_mid {A R : List Int} {s : Int} (h : s ∈ A) : ¬ (A ++ s :: R).Nodup := by
  rw [List.nodup_append]
  rintro ⟨_, _, h3⟩
  exact h3 s h s (by simp) rfl
theorem nodup_snocI {A : List Int} {s : Int} (h : A.Nodup) (hs : s ∉ A) : (A ++ [s]).Nodup := by
  rw [List.nodup_append]
  refine ⟨h, by simp, ?_⟩
  intro a ha b hb
  simp at hb; subst hb
  exact fun e => hs (e ▸ ha)
theorem split_at {α : Type} {l : List α} {i : Nat} (h : i < l.length) : l = l.take i ++ l[i] :: l.drop (i + 1) := by rw [List.getElem_cons_drop, List.take_append_drop]
theorem take_snoc {α : Type} {l : List α} {i : Nat} (h : i < l.length) : l.take (i + 1) = l.take i ++ [l[i]] := by rw [List.take_append_getElem h]
def bodies (c : Cor) (i : Nat) : List Int := (c.codes.take i).map Cod.body
theorem bodies_len (c : Cor) (i : Nat) : (bodies c i).length = min i c.codes.length := by simp [bodies]
theorem bodies_succ {c : Cor} {i : Nat} (h : i < c.codes.length) : bodies c (i + 1) = bodies c i ++ [(c.codes[i]).body] := by
  have := congrArg (List.map Cod.body) (take_snoc h)
  rw [List.map_append] at this
  exact this
def kidsTo (c : Cor) (i : Nat) : List Int := (c.exprs.take i).flatMap CEx.kids
theorem kidsTo_succ {c : Cor} {i : Nat} (h : i < c.exprs.length) : kidsTo c (i + 1) = kidsTo c i ++ (c.exprs[i]).kids := by
  have := congrArg (List.flatMap CEx.kids) (take_snoc h)
  rw [List.flatMap_append] at this
  simpa [kidsTo] using this
theorem allE_eq (c : Cor) : allE c = bodies c c.codes.length ++ kidsTo c c.exprs.length := by simp [allE, bodies, kidsTo]
theorem allE_body {c : Cor} {i : Nat} (h : i < c.codes.length) : ∃ R, allE c = bodies c i ++ (c.codes[i]).body :: R := by
  refine ⟨(c.codes.drop (i + 1)).map Cod.body ++ c.exprs.flatMap CEx.kids, ?_⟩
  have := congrArg (List.map Cod.body) (split_at h)
  rw [List.map_append, List.map_cons] at this
  rw [allE, this, bodies, List.append_assoc]; rfl
theorem allE_kid {c : Cor} {i j : Nat} (h : i < c.exprs.length) (hj : j < (c.exprs[i]).kids.length) : ∃ R, allE c = (bodies c c.codes.length ++ kidsTo c i ++ (c.exprs[i]).kids.take j) ++ (c.exprs[i]).kids[j] :: R := by
  refine ⟨(c.exprs[i]).kids.drop (j + 1) ++ (c.exprs.drop (i + 1)).flatMap CEx.kids, ?_⟩
  have h1 : c.exprs.flatMap CEx.kids = kidsTo c i ++ ((c.exprs[i]).kids ++ (c.exprs.drop (i + 1)).flatMap CEx.kids) := by
    have := congrArg (List.flatMap CEx.kids) (split_at h)
    rw [List.flatMap_append, List.flatMap_cons] at this
    exact this
  have h2 := split_at hj
  rw [allE, h1]
  have h3 : bodies c c.codes.length = c.codes.map Cod.body := by simp [bodies]
  rw [h3]
  generalize (c.exprs.drop (i + 1)).flatMap CEx.kids = X at *
  generalize (c.exprs[i]).kids = Y at *
  have h4 : Y ++ X = Y.take j ++ Y[j] :: (Y.drop (j + 1) ++ X) := by
    have h5 : Y.take j ++ Y[j] :: (Y.drop (j + 1) ++ X) = (Y.take j ++ Y[j] :: Y.drop (j + 1)) ++ X := by rw [List.append_assoc, List.cons_append]
    rw [h5, ← h2]
  rw [h4]; simp
theorem zq42_spec (c : Cor) (hc : KCore c) (hbody : ∀ i (h : i < c.codes.length), ∃ b : Nat, (c.codes[i]).body = b ∧ b < c.exprs.length) (H : Heap) (K : Kt) (hK : ∀ b, (b = true ↔ TreeP c) → K (.bool b) H) : ACalls tP n_zq42 [.agg c.cs] H K := by
  refine ACalls.out (zq42_ok fun hs => ?_)
  obtain ⟨k1, k2, k3, ⟨k4, k5⟩, k6, k7⟩ := hc
  have hF : ¬ TreeP c → ∀ J, Out H.length K (.bool false) (H ++ J) := fun h J => Out.bool rfl (Nat.le_refl _) hs (hK _ (by simp [h]))
  have hT : ∀ b : Bool, (b = true ↔ TreeP c) → ∀ J, Out H.length K (.bool b) (H ++ J) := fun b h J => Out.bool rfl (Nat.le_refl _) hs (hK _ h)
  generalize hn : c.exprs.length = n at *
  simp [zq42, Cor.cs, hn]
  simp only [aMake, Int.toNat_natCast, bools_rep, marks_nil]
  refine ⟨⟨by omega, by omega, by omega, by omega⟩, ?_⟩
  simp
  refine ⟨⟨rfl, rfl⟩, ?_⟩
  refine zq42_loop5 (Inv := fun q t20 H' => ∃ i : Nat, i ≤ c.codes.length ∧ q = c.codes.length - i ∧ t20 = .int .i64 i ∧ (bodies c i).Nodup ∧ H' = treeH H c n (bodies c i)) c.codes.length ?_ ?_
  · intro _; exact ⟨0, by omega, by omega, rfl, by simp [bodies], by simp [treeH, corC, bodies]⟩
  · rintro q t20 H' ⟨i, hi, rfl, rfl, hnd, rfl⟩ hsc hlen hsF Kb hKb
    by_cases hlt : i < c.codes.length
    · obtain ⟨x, y, z, hv, hx, hy, hz, hat⟩ := cod_at hlt
      obtain ⟨b, hb, hbl⟩ := hbody i hlt
      simp [zq42_b5, hlt, hat, hx, hy, hz]
      rw [hb]
      refine claim_spec (S := bodies c i) hbl (by rw [bodies_len]; omega) _ (fun hm => ?_) (fun hm => ?_)
      · simp [treeH]
        refine hF (fun hp => ?_) _
        obtain ⟨R, hR⟩ := allE_body hlt
        have := hp.nodup
        rw [hR, hb] at this
        exact nodup_mid hm this
      · simp
        rw [wrap_in (by omega) (by omega)]
        have he : bodies c i ++ [(b : Int)] = bodies c (i + 1) := by rw [bodies_succ hlt, hb]
        refine hKb _ _ ⟨c.codes.length - (i + 1), by omega, Back.at (J := [_]) (H2 := treeH H c n (bodies c (i + 1))) (by rw [he]) (by simp [treeH]) (treeH_sc hs _ _ _) ?_ ⟨_, rfl, i + 1, by omega, rfl, by simp, ?_, rfl⟩⟩
        · simp [zq42_fr5, AV.sc, AV.scV, AV.scA, AV.scB, treeH]
        · rw [← he]; exact nodup_snocI hnd hm
    · obtain rfl : i = c.codes.length := by omega
      have hbr : ∀ x ∈ bodies c c.codes.length, 0 ≤ x ∧ x < n := by
        intro x hx
        simp [bodies] at hx
        obtain ⟨f, hf, rfl⟩ := hx
        obtain ⟨j, hj, rfl⟩ := List.getElem_of_mem hf
        obtain ⟨b, hb, hbl⟩ := hbody j hj
        omega
      simp [zq42_b5, treeH, corC, hn]
      refine zq42_loop11 (Inv := fun q t33 H' => ∃ i : Nat, i ≤ n ∧ q = n - i ∧ t33 = .int .i64 i ∧ (∀ j (h : j < c.exprs.length), j < i → (c.exprs[j]).binds.length = (c.exprs[j]).kids.length ∧ ∀ k ∈ (c.exprs[j]).kids, (j : Int) < k ∧ k < n) ∧ (bodies c c.codes.length ++ kidsTo c i).Nodup ∧ (∀ x ∈ kidsTo c i, 0 ≤ x ∧ x < n) ∧ H' = treeH H c n (bodies c c.codes.length ++ kidsTo c i)) n ?_ ?_
      · intro _; exact ⟨0, by omega, by omega, rfl, by omega, by simpa [kidsTo] using hnd, by simp [kidsTo], by simp [treeH, corC, kidsTo]⟩
      · rintro q t33 H' ⟨i, hi, rfl, rfl, hok, hnd2, hrg, rfl⟩ hsc1 hlen1 hsF1 Kb1 hKb1
        by_cases hlt : i < n
        · have hlt' : i < c.exprs.length := by omega
          obtain ⟨x, y, z, hv, hx, hy, hz, hat⟩ := ex_at hlt'
          have hS : (bodies c c.codes.length ++ kidsTo c i).length ≤ n := nodup_le n _ hnd2 (fun x hx => by
            rcases List.mem_append.1 hx with h | h
            · exact hbr x h
            · exact hrg x h)
          cases hbk : ((c.exprs[i]).binds.length == (c.exprs[i]).kids.length) with
          | false =>
            have hbk' : (((c.exprs[i]).binds.length : Int) != (c.exprs[i]).kids.length) = true := by simp at hbk ⊢; omega
            simp [zq42_b11, hlt, hlt', hn, hat, hx, hy, hz, hbk']
            simp [treeH]
            refine hF (fun hp => ?_) _
            simp at hbk; exact hbk (hp.binds i hlt')
          | true =>
            have hbk' : (((c.exprs[i]).binds.length : Int) != (c.exprs[i]).kids.length) = false := by simp at hbk ⊢; omega
            simp [zq42_b11, hlt, hlt', hn, hat, hx, hy, hz, hbk']
            have hal := fun j (hj : j < (c.exprs[i]).kids.length) => allE_kid hlt' hj
            have hks := kidsTo_succ hlt'
            have hek := (k7 _ (List.getElem_mem hlt')).2.2.1
            have hno : ¬ (∀ k ∈ (c.exprs[i]).kids, (i : Int) < k ∧ k < n) → ¬ TreeP c := fun h hp => h fun k hk => by
              have := hp.kids i hlt' k hk; omega
            generalize hE : c.exprs[i] = E at *
            refine zq42_loop16 (Inv := fun q t48 H' => ∃ j : Nat, j ≤ E.kids.length ∧ q = E.kids.length - j ∧ t48 = .int .i64 j ∧ (∀ k ∈ E.kids.take j, (i : Int) < k ∧ k < n) ∧ (bodies c c.codes.length ++ kidsTo c i ++ E.kids.take j).Nodup ∧ ∃ J, H' = treeH H c n (bodies c c.codes.length ++ kidsTo c i ++ E.kids.take j) ++ J) E.kids.length ?_ ?_
            · intro _; exact ⟨0, by omega, by omega, rfl, by simp, by simpa using hnd2, _, by simp; rfl⟩
            · rintro q t48 H' ⟨j, hj, rfl, rfl, hkk, hnd3, J, rfl⟩ hsc2 hlen2 hsF2 Kb2 hKb2
              by_cases hjl : j < E.kids.length
              · obtain ⟨R, hR⟩ := hal j hjl
                have hmem : E.kids[j] ∈ E.kids := List.getElem_mem hjl
                by_cases hle : E.kids[j] ≤ i
                · simp [zq42_b16, hjl, ints, hle]
                  simp [treeH]
                  refine hF (hno fun h => ?_) _
                  have := h _ hmem; omega
                by_cases hge : (n : Int) ≤ E.kids[j]
                · simp [zq42_b16, hjl, ints, hle, treeH, corC, hn, hge]
                  refine hF (hno fun h => ?_) _
                  have := h _ hmem; omega
                obtain ⟨k, hk⟩ : ∃ k : Nat, E.kids[j] = k := ⟨(E.kids[j]).toNat, by omega⟩
                have hge' : ¬ n ≤ k := by omega
                have hle' : ¬ k ≤ i := by omega
                have hS3 : (bodies c c.codes.length ++ kidsTo c i ++ E.kids.take j).length ≤ 1000000 := by
                  rw [List.length_append, List.length_take]; omega
                have hsplitj : bodies c c.codes.length ++ kidsTo c i ++ E.kids.take (j + 1) = (bodies c c.codes.length ++ kidsTo c i ++ E.kids.take j) ++ [(k : Int)] := by
                  rw [take_snoc hjl, hk]; simp only [List.append_assoc]
                generalize hSS : bodies c c.codes.length ++ kidsTo c i ++ E.kids.take j = S3 at *
                have hC : corC c = .cells [.sl (c.data.map Dat.cs) .none, .sl (c.codes.map Cod.cs) .none, .sl (VT.css c.vars) .none, .sl (c.exprs.map CEx.cs) .none] := rfl
                have hg0 : (treeH H c n S3 ++ J)[H.length]? = some (corC c) := by simp [treeH]
                simp [zq42_b16, hjl, ints, hk, hle', hg0, hC, hn, hge']
                refine claim_spec (S := S3) (by omega) (by omega) _ (fun hm => ?_) (fun hm => ?_)
                · simp [treeH]
                  refine hF (fun hp => ?_) _
                  have := hp.nodup
                  rw [hR, hk] at this
                  exact nodup_mid hm this
                · simp
                  rw [wrap_in (by omega) (by omega)]
                  refine hKb2 _ _ ⟨E.kids.length - (j + 1), by omega, Back.at (J := []) (H2 := treeH H c n (S3 ++ [(k : Int)]) ++ J) (by simp) (by simpa [treeH] using hlen2) ?_ ?_ ⟨_, rfl, j + 1, by omega, rfl, by simp, ?_, ?_, J, by rw [hsplitj]⟩⟩
                  · exact HSc.swap hsc2 (treeH_sc hs _ _ _) (by simp [treeH])
                  · simp [zq42_fr16, AV.sc, AV.scV, AV.scA, AV.scB, treeH]
                  · exact mem_take_succ hjl hkk (by rw [hk]; omega)
                  · rw [hsplitj]; exact nodup_snocI hnd3 hm
              · obtain rfl : j = E.kids.length := by omega
                rw [List.take_length] at *
                simp [zq42_b16]
                rw [wrap_in (by omega) (by omega)]
                refine hKb1 _ _ ⟨n - (i + 1), by omega, Back.at (J := J) (H2 := treeH H c n (bodies c c.codes.length ++ kidsTo c (i + 1))) (by rw [hks]) (by simp [treeH]) (treeH_sc hs _ _ _) ?_ ⟨_, rfl, i + 1, by omega, rfl, by simp, ?_, ?_, ?_, rfl⟩⟩
                · simp [zq42_fr11, AV.sc, AV.scV, AV.scA, AV.scB, treeH]
                · intro j hj hji
                  by_cases hje : j = i
                  · subst hje; rw [hE]; exact ⟨by simpa using hbk, hkk⟩
                  · exact hok j hj (by omega)
                · rw [hks, ← List.append_assoc]; exact hnd3
                · rw [hks]; intro x hx
                  rcases List.mem_append.1 hx with h | h
                  · exact hrg x h
                  · have := hkk x h; omega
        · obtain rfl : i = n := by omega
          simp [zq42_b11, treeH, corC, hn]
          refine hT _ ?_ _
          have hal : allE c = bodies c c.codes.length ++ kidsTo c i := by rw [allE_eq, hn]
          have hlen' : (allE c).length = (bodies c c.codes.length).length + (kidsTo c i).length := by rw [hal]; simp
          constructor
          · intro h
            refine ⟨fun j h => (hok j h (by omega)).1, fun j h k hk => ?_, by rw [hal]; exact hnd2, ?_⟩
            · have := (hok j h (by omega)).2 k hk; omega
            · simp at h; omega
          · intro hp
            have := hp.len
            simp; omega
theorem callBind1 : callable tP n_zq71 = true := by kernel_rfl
theorem claimL_spec {H : Heap} {c : Cor} {n : Nat} {l S : List Int} {J : Heap} (hsH : HSc H) (hl : S.length + l.length ≤ 1000000) (hnd : S.Nodup) (K : Kt)
    (h1 : (∀ x ∈ l, 0 ≤ x ∧ x < n) → (S ++ l).Nodup → K (.bool true) (treeH H c n (S ++ l) ++ J)) (h2 : ¬ ((∀ x ∈ l, 0 ≤ x ∧ x < n) ∧ (S ++ l).Nodup) → ∀ S', K (.bool false) (treeH H c n S' ++ J)) :
    aCallV tP (.fn n_zq71 [.ptr (H.length + 2) 0, .ptr (H.length + 3) 0]) [.sl (ints l) .none] (treeH H c n S ++ J) K := by
  simp only [aCallV, callBind1]
  refine zq71_ok fun hs => ?_
  simp [zq71]
  refine zq71_loop2 (Inv := fun q t9 H' => ∃ j : Nat, j ≤ l.length ∧ q = l.length - j ∧ t9 = .int .i64 j ∧ (∀ x ∈ l.take j, 0 ≤ x ∧ x < (n : Int)) ∧ (S ++ l.take j).Nodup ∧ H' = treeH H c n (S ++ l.take j) ++ J) l.length ?_ ?_
  · intro _; exact ⟨0, by omega, by omega, rfl, by simp, by simpa using hnd, by simp⟩
  · rintro q t9 H' ⟨j, hj, rfl, rfl, hr, hn2, rfl⟩ hsc hlen hsF Kb hKb
    by_cases hjl : j < l.length
    · have hsp := split_at hjl
      by_cases h0 : l[j] < 0
      · simp [zq71_b2, hjl, ints, h0]
        exact h2 (fun h => by have := h.1 _ (List.getElem_mem hjl); omega) _
      by_cases hge : (n : Int) ≤ l[j]
      · simp [zq71_b2, hjl, ints, h0, treeH, hge]
        have := h2 (fun h => by have := h.1 _ (List.getElem_mem hjl); omega) (S ++ l.take j)
        simpa [treeH] using this
      obtain ⟨e, he⟩ : ∃ e : Nat, l[j] = e := ⟨(l[j]).toNat, by omega⟩
      have hen : e < n := by omega
      have hen' : ¬ n ≤ e := by omega
      have he0 : ¬ (e : Int) < 0 := by omega
      have hnx : S ++ l.take (j + 1) = (S ++ l.take j) ++ [(e : Int)] := by rw [take_snoc hjl, he, List.append_assoc]
      have hlS : (S ++ l.take j).length ≤ 1000000 := by rw [List.length_append, List.length_take]; omega
      by_cases hm : (e : Int) ∈ S ++ l.take j
      · have h3 := h2 (fun h => by
          have := h.2
          rw [hsp, ← List.append_assoc, he] at this
          exact nodup_mid hm this) (S ++ l.take j)
        generalize S ++ l.take j = S1 at *
        simp [zq71_b2, hjl, ints, he, he0, treeH, hen, hen', aCells, hm]
        simpa [treeH] using h3
      · have hkb := hKb
        generalize hS1 : S ++ l.take j = S1 at *
        simp [zq71_b2, hjl, ints, he, he0, treeH, hen, hen', aCells, hm]
        rw [wrap_in (by omega) (by omega), wrap_in (by omega) (by omega), bools_set (by simpa using hen), marks_set S1 hen]
        refine ⟨by omega, hKb _ _ ⟨l.length - (j + 1), by omega, Back.at (J := []) (H2 := treeH H c n (S1 ++ [(e : Int)]) ++ J) (by simp [treeH]) (by simp [treeH]) ?_ ?_ ⟨_, rfl, j + 1, by omega, rfl, by simp, ?_, ?_, by rw [hnx]⟩⟩⟩
        · exact HSc.swap hs (treeH_sc hsH _ _ _) (by simp [treeH])
        · simp [zq71_fr2, AV.sc, AV.scV, AV.scA, AV.scB, treeH]
        · exact mem_take_succ hjl hr (by rw [he]; omega)
        · rw [hnx]; exact nodup_snocI hn2 hm
    · obtain rfl : j = l.length := by omega
      rw [List.take_length] at *
      simp [zq71_b2]
      exact h1 hr hn2
def allV (c : Cor) : List Int := (c.codes.flatMap fun f => f.params ++ f.capt) ++ c.exprs.flatMap fun e => e.binds.flatten
structure BindP (c : Cor) : Prop where
  range : ∀ x ∈ allV c, 0 ≤ x ∧ x < c.vars.length
  nodup : (allV c).Nodup
  len : (allV c).length = c.vars.length
def parsTo (c : Cor) (i : Nat) : List Int := (c.codes.take i).flatMap fun f => f.params ++ f.capt
def bindsTo (c : Cor) (i : Nat) : List Int := (c.exprs.take i).flatMap fun e => e.binds.flatten
theorem parsTo_succ {c : Cor} {i : Nat} (h : i < c.codes.length) : parsTo c (i + 1) = parsTo c i ++ ((c.codes[i]).params ++ (c.codes[i]).capt) := by
  have := congrArg (List.flatMap fun f : Cod => f.params ++ f.capt) (take_snoc h)
  rw [List.flatMap_append] at this
  simpa [parsTo] using this
theorem bindsTo_succ {c : Cor} {i : Nat} (h : i < c.exprs.length) : bindsTo c (i + 1) = bindsTo c i ++ (c.exprs[i]).binds.flatten := by
  have := congrArg (List.flatMap fun e : CEx => e.binds.flatten) (take_snoc h)
  rw [List.flatMap_append] at this
  simpa [bindsTo] using this
theorem allV_eq (c : Cor) : allV c = parsTo c c.codes.length ++ bindsTo c c.exprs.length := by simp [allV, parsTo, bindsTo]
theorem allV_par {c : Cor} {i : Nat} (h : i < c.codes.length) : ∃ R, allV c = parsTo c i ++ ((c.codes[i]).params ++ ((c.codes[i]).capt ++ R)) := by
  refine ⟨((c.codes.drop (i + 1)).flatMap fun f => f.params ++ f.capt) ++ c.exprs.flatMap fun e => e.binds.flatten, ?_⟩
  have := congrArg (List.flatMap fun f : Cod => f.params ++ f.capt) (split_at h)
  rw [List.flatMap_append, List.flatMap_cons] at this
  rw [allV, this, parsTo]
  simp only [List.append_assoc]
theorem allV_bind {c : Cor} {i : Nat} (h : i < c.exprs.length) {j : Nat} (hj : j < (c.exprs[i]).binds.length) : ∃ R, allV c = (parsTo c c.codes.length ++ bindsTo c i ++ ((c.exprs[i]).binds.take j).flatten) ++ ((c.exprs[i]).binds[j] ++ R) := by
  refine ⟨((c.exprs[i]).binds.drop (j + 1)).flatten ++ (c.exprs.drop (i + 1)).flatMap fun e => e.binds.flatten, ?_⟩
  have h1 := congrArg (List.flatMap fun e : CEx => e.binds.flatten) (split_at h)
  rw [List.flatMap_append, List.flatMap_cons] at h1
  have h2 := congrArg List.flatten (split_at hj)
  rw [List.flatten_append, List.flatten_cons] at h2
  rw [allV, h1, h2, bindsTo]
  have h3 : parsTo c c.codes.length = c.codes.flatMap fun f => f.params ++ f.capt := by simp [parsTo]
  rw [h3]
  simp only [List.append_assoc]
/-- A part that fails makes the whole fail. -/
theorem part_bad {c : Cor} {A l R : List Int} (ha : allV c = A ++ (l ++ R)) (h : ¬ ((∀ x ∈ l, 0 ≤ x ∧ x < (c.vars.length : Int)) ∧ (A ++ l).Nodup)) : ¬ BindP c := by
  intro hp
  refine h ⟨fun x hx => hp.range x (by rw [ha]; simp [hx]), ?_⟩
  have := hp.nodup
  rw [ha, ← List.append_assoc] at this
  exact (List.nodup_append.1 this).1
theorem flat_len {α : Type} (f : α → List Int) (m : Nat) : ∀ l : List α, (∀ x ∈ l, (f x).length ≤ m) → (l.flatMap f).length ≤ l.length * m
  | [], _ => by simp
  | x :: l, h => by
    have h1 := flat_len f m l (fun y hy => h y (by simp [hy]))
    have h2 := h x (by simp)
    rw [List.flatMap_cons, List.length_append, List.length_cons, Nat.add_mul]; omega
@[simp] theorem treeH_len (H : Heap) (c : Cor) (n : Nat) (S : List Int) : (treeH H c n S).length = H.length + 4 := by simp [treeH]
@[simp] theorem treeH_get4 (H : Heap) (c : Cor) (n : Nat) (S : List Int) (J : Heap) : (treeH H c n S ++ J)[H.length + 4]? = J[0]? := by simp [treeH]
theorem zq43_spec (c : Cor) (hc : KCore c) (H : Heap) (K : Kt) (hK : ∀ b, (b = true ↔ BindP c) → K (.bool b) H) : ACalls tP n_zq43 [.agg c.cs] H K := by
  refine ACalls.out (zq43_ok fun hs => ?_)
  obtain ⟨k1, k2, k3, ⟨k4, k5⟩, k6, k7⟩ := hc
  have hF : ¬ BindP c → ∀ J, Out H.length K (.bool false) (H ++ J) := fun h J => Out.bool rfl (Nat.le_refl _) hs (hK _ (by simp [h]))
  have hT : ∀ b : Bool, (b = true ↔ BindP c) → ∀ J, Out H.length K (.bool b) (H ++ J) := fun b h J => Out.bool rfl (Nat.le_refl _) hs (hK _ h)
  have hbad : ∀ {A l R : List Int}, allV c = A ++ (l ++ R) → ¬ ((∀ x ∈ l, 0 ≤ x ∧ x < (c.vars.length : Int)) ∧ (A ++ l).Nodup) → ¬ BindP c := fun h1 h2 => part_bad h1 h2
  generalize hn : c.vars.length = n at *
  have hle : ∀ S : List Int, S.Nodup → (∀ x ∈ S, 0 ≤ x ∧ x < n) → S.length ≤ n := nodup_le n
  simp [zq43, Cor.cs, hn]
  simp only [aMake, Int.toNat_natCast, bools_rep, marks_nil]
  refine ⟨⟨by omega, by omega, by omega, by omega⟩, ?_⟩
  simp
  refine ⟨⟨rfl, rfl⟩, ?_⟩
  refine zq43_loop5 (Inv := fun q t20 H' => ∃ i : Nat, i ≤ c.codes.length ∧ q = c.codes.length - i ∧ t20 = .int .i64 i ∧ (parsTo c i).Nodup ∧ (∀ x ∈ parsTo c i, 0 ≤ x ∧ x < n) ∧ H' = treeH H c n (parsTo c i)) c.codes.length ?_ ?_
  · intro _; exact ⟨0, by omega, by omega, rfl, by simp [parsTo], by simp [parsTo], by simp [treeH, corC, parsTo]⟩
  · rintro q t20 H' ⟨i, hi, rfl, rfl, hnd, hrg, rfl⟩ hsc hlen hsF Kb hKb
    have hSn := hle _ hnd hrg
    by_cases hlt : i < c.codes.length
    · obtain ⟨x, y, z, hv, hx, hy, hz, hat⟩ := cod_at hlt
      obtain ⟨R, hR⟩ := allV_par hlt
      have hps := parsTo_succ hlt
      obtain ⟨_, kp, kc, _⟩ := k6 _ (List.getElem_mem hlt)
      generalize hf : c.codes[i] = f at *
      simp [zq43_b5, hlt, hf, hat, hx, hy, hz]
      refine claimL_spec (S := parsTo c i) hs (by omega) hnd _ (fun hr1 hn1 => ?_) (fun hb S' => ?_)
      · simp
        have hl1 := hle _ hn1 (fun x hx => by
          rcases List.mem_append.1 hx with h | h
          · exact hrg x h
          · exact hr1 x h)
        refine claimL_spec (S := parsTo c i ++ f.params) (l := f.capt) hs (by omega) hn1 _ (fun hr2 hn2 => ?_) (fun hb S' => ?_)
        · simp
          rw [wrap_in (by omega) (by omega)]
          have he : parsTo c i ++ (f.params ++ f.capt) = parsTo c (i + 1) := by rw [hps]
          refine hKb _ _ ⟨c.codes.length - (i + 1), by omega, Back.at (J := [_]) (H2 := treeH H c n (parsTo c (i + 1))) (by rw [he]) (by simp [treeH]) (treeH_sc hs _ _ _) ?_ ⟨_, rfl, i + 1, by omega, rfl, by simp, ?_, ?_, rfl⟩⟩
          · simp [zq43_fr5, AV.sc, AV.scV, AV.scA, AV.scB, treeH]
          · rw [hps, ← List.append_assoc]; exact hn2
          · rw [hps]; intro x hx
            rcases List.mem_append.1 hx with h | h
            · exact hrg x h
            · rcases List.mem_append.1 h with h | h
              · exact hr1 x h
              · exact hr2 x h
        · simp [treeH]
          exact hF (hbad (by rw [hR, List.append_assoc]) hb) _
      · simp [treeH]
        exact hF (hbad hR hb) _
    · obtain rfl : i = c.codes.length := by omega
      simp [zq43_b5, treeH, corC]
      refine zq43_loop11 (Inv := fun q t40 H' => ∃ i : Nat, i ≤ c.exprs.length ∧ q = c.exprs.length - i ∧ t40 = .int .i64 i ∧ (parsTo c c.codes.length ++ bindsTo c i).Nodup ∧ (∀ x ∈ parsTo c c.codes.length ++ bindsTo c i, 0 ≤ x ∧ x < n) ∧ H' = treeH H c n (parsTo c c.codes.length ++ bindsTo c i)) c.exprs.length ?_ ?_
      · intro _; exact ⟨0, by omega, by omega, rfl, by simpa [bindsTo] using hnd, by simpa [bindsTo] using hrg, by simp [treeH, corC, bindsTo]⟩
      · rintro q t40 H' ⟨i, hi, rfl, rfl, hnd, hrg, rfl⟩ hsc1 hlen1 hsF1 Kb1 hKb1
        have hSn := hle _ hnd hrg
        by_cases hlt : i < c.exprs.length
        · obtain ⟨x, y, z, hv, hx, hy, hz, hat⟩ := ex_at hlt
          have hal := fun j hj => allV_bind hlt (j := j) hj
          have hbs := bindsTo_succ hlt
          obtain ⟨_, kb, _, _, kbl⟩ := k7 _ (List.getElem_mem hlt)
          generalize hE : c.exprs[i] = E at *
          simp [zq43_b11, hlt, hE, hat, hx, hy, hz]
          refine zq43_loop14 (Inv := fun q t47 H' => ∃ j : Nat, j ≤ E.binds.length ∧ q = E.binds.length - j ∧ t47 = .int .i64 j ∧ (parsTo c c.codes.length ++ bindsTo c i ++ (E.binds.take j).flatten).Nodup ∧ (∀ x ∈ parsTo c c.codes.length ++ bindsTo c i ++ (E.binds.take j).flatten, 0 ≤ x ∧ x < n) ∧ ∃ J, H' = treeH H c n (parsTo c c.codes.length ++ bindsTo c i ++ (E.binds.take j).flatten) ++ J) E.binds.length ?_ ?_
          · intro _; exact ⟨0, by omega, by omega, rfl, by simpa using hnd, by simpa using hrg, _, by simp; rfl⟩
          · rintro q t47 H' ⟨j, hj, rfl, rfl, hnd3, hrg3, J, rfl⟩ hsc2 hlen2 hsF2 Kb2 hKb2
            by_cases hjl : j < E.binds.length
            · obtain ⟨R, hR⟩ := hal j hjl
              have hkl := kbl _ (List.getElem_mem hjl)
              have hS3 := hle _ hnd3 hrg3
              have hnx : parsTo c c.codes.length ++ bindsTo c i ++ (E.binds.take (j + 1)).flatten = (parsTo c c.codes.length ++ bindsTo c i ++ (E.binds.take j).flatten) ++ E.binds[j] := by
                rw [take_snoc hjl, List.flatten_append]; simp
              generalize hSS : parsTo c c.codes.length ++ bindsTo c i ++ (E.binds.take j).flatten = S3 at *
              simp [zq43_b14, hjl, rows]
              refine claimL_spec (S := S3) hs (by omega) hnd3 _ (fun hr1 hn1 => ?_) (fun hb S' => ?_)
              · simp
                rw [wrap_in (by omega) (by omega)]
                refine hKb2 _ _ ⟨E.binds.length - (j + 1), by omega, Back.at (J := []) (H2 := treeH H c n (S3 ++ E.binds[j]) ++ J) (by simp) (by simpa [treeH] using hlen2) ?_ ?_ ⟨_, rfl, j + 1, by omega, rfl, by simp, ?_, ?_, J, by rw [hnx]⟩⟩
                · exact HSc.swap hsc2 (treeH_sc hs _ _ _) (by simp [treeH])
                · simp [zq43_fr14, AV.sc, AV.scV, AV.scA, AV.scB, treeH]
                · rw [hnx]; exact hn1
                · rw [hnx]; intro x hx
                  rcases List.mem_append.1 hx with h | h
                  · exact hrg3 x h
                  · exact hr1 x h
              · simp [treeH]
                exact hF (hbad hR hb) _
            · obtain rfl : j = E.binds.length := by omega
              rw [List.take_length] at *
              simp [zq43_b14]
              rw [wrap_in (by omega) (by omega)]
              refine hKb1 _ _ ⟨c.exprs.length - (i + 1), by omega, Back.at (J := J) (H2 := treeH H c n (parsTo c c.codes.length ++ bindsTo c (i + 1))) (by rw [hbs]) (by simp [treeH]) (treeH_sc hs _ _ _) ?_ ⟨_, rfl, i + 1, by omega, rfl, by simp, ?_, ?_, rfl⟩⟩
              · simp [zq43_fr11, AV.sc, AV.scV, AV.scA, AV.scB, treeH]
              · rw [hbs, ← List.append_assoc]; exact hnd3
              · rw [hbs, ← List.append_assoc]; exact hrg3
        · obtain rfl : i = c.exprs.length := by omega
          simp [zq43_b11, treeH, corC, hn]
          refine hT _ ?_ _
          have hal : allV c = parsTo c c.codes.length ++ bindsTo c c.exprs.length := allV_eq c
          have hlen' : (allV c).length = (parsTo c c.codes.length).length + (bindsTo c c.exprs.length).length := by rw [hal]; simp
          constructor
          · intro h
            refine ⟨by rw [hal, hn]; exact hrg, by rw [hal]; exact hnd, ?_⟩
            simp at h; omega
          · intro hp
            have := hp.len
            simp; omega
@[congr] theorem aDet_cg {m : WM} {g : Bool} {H : Heap} {p : (AV → Heap → Prop) → Prop} {k : AV → Heap → Prop} : aDet m g H p k = aDet m g H p k := rfl
theorem aDet_call {H : Heap} {p : (AV → Heap → Prop) → Prop} {k : AV → Heap → Prop} (r : AV) (H' : Heap) (h : p fun v H2 => v = r ∧ H2 = H') (hk : k r H') : aDet .w false H p k := ⟨r, H', h, (fun h => by cases h), hk⟩
theorem aDet_grow {H : Heap} {g : Bool} {p : (AV → Heap → Prop) → Prop} {k : AV → Heap → Prop} (r : AV) (H' : Heap) (h : p fun v H2 => v = r ∧ H2 = H') (hg : GrowA H H') (hk : k r H') : aDet .g g H p k := ⟨r, H', h, fun _ => hg, hk⟩
theorem aDet_same {H : Heap} {g : Bool} {p : (AV → Heap → Prop) → Prop} {k : AV → Heap → Prop} (r : AV) (h : p fun v H2 => v = r ∧ H2 = H) (hk : k r H) : aDet .g g H p k := ⟨r, H, h, fun _ => .inl rfl, hk⟩
@[simp] theorem ints_getE {l : List Int} {i : Nat} (h : i < (ints l).length) : (ints l)[i] = [.int .i64 (l[i]'(by simpa using h))] := by simp [ints]
@[simp] theorem rows_getE {l : List (List Int)} {i : Nat} (h : i < (rows l).length) : (rows l)[i] = [.sl (ints (l[i]'(by simpa using h))) .none] := by simp [rows]
def setF (st : List Bool) (l : List Int) (b : Bool) : List Bool := l.foldl (fun st v => st.set v.toNat b) st
@[simp] theorem setF_len (l : List Int) (b : Bool) : ∀ st : List Bool, (setF st l b).length = st.length := by
  induction l with
  | nil => intro st; rfl
  | cons v l ih => intro st; rw [setF, List.foldl_cons, ← setF, ih]; simp
theorem setF_cons (st : List Bool) (v : Int) (l : List Int) (b : Bool) : setF st (v :: l) b = setF (st.set v.toNat b) l b := rfl
theorem setF_snoc (st : List Bool) (v : Int) (l : List Int) (b : Bool) : setF st (l ++ [v]) b = (setF st l b).set v.toNat b := by simp [setF]
mutual
def visitF (c : Cor) : Nat → Nat → List Bool → Option (List Bool)
  | 0, _, _ => none
  | m + 1, i, st => match c.exprs[i]? with
    | none => none
    | some e => if e.vars.all (fun v => decide (0 ≤ v) && st.getD v.toNat false) = true then visitK c m e.binds e.kids st else none
termination_by m _ _ => (m, 0)
def visitK (c : Cor) (m : Nat) : List (List Int) → List Int → List Bool → Option (List Bool)
  | b :: bs, k :: ks, st => match visitF c m k.toNat (setF st b true) with
    | none => none
    | some st' => visitK c m bs ks (setF st' b false)
  | [], _, st => some st
  | _ :: _, [], st => some st
termination_by bs _ _ => (m, bs.length + 1)
end
def scopeH (H : Heap) (c : Cor) (st : List Bool) : Heap := H ++ [corC c, .cells (bools st), .cells [.ms (H.length + 1) 0 c.vars.length c.vars.length], .cells [.fn n_zq72 [.ptr (H.length + 2) 0]],
  .cells [.fn n_zq73 [.ptr H.length 0, .ptr (H.length + 2) 0, .ptr (H.length + 3) 0, .ptr (H.length + 4) 0]]]
theorem scopeH_sc {H : Heap} (hs : HSc H) (c : Cor) (st : List Bool) : HSc (scopeH H c st) := hs.append (by simp [AB.sc, corC, bools_sc, AV.scA, AV.scB])
@[simp] theorem scopeH_len (H : Heap) (c : Cor) (st : List Bool) : (scopeH H c st).length = H.length + 5 := by simp [scopeH]
theorem callScope1 : callable tP n_zq72 = true := by kernel_rfl
theorem callScope2 : callable tP n_zq73 = true := by kernel_rfl
theorem set_spec {H : Heap} {c : Cor} {l : List Int} {st : List Bool} {b : Bool} {J : Heap} (hsH : HSc H) (hst : st.length = c.vars.length) (hl : l.length ≤ 1000000) (hr : ∀ x ∈ l, 0 ≤ x ∧ x < (c.vars.length : Int)) (K : Kt)
    (hK : K (.tup []) (scopeH H c (setF st l b) ++ J)) :
    aCallV tP (.fn n_zq72 [.ptr (H.length + 2) 0]) [.sl (ints l) .none, .bool b] (scopeH H c st ++ J) K := by
  simp only [aCallV, callScope1]
  refine zq72_ok fun hs => ?_
  simp [zq72]
  refine zq72_loop1 (Inv := fun q t9 H' => ∃ j : Nat, j ≤ l.length ∧ q = l.length - j ∧ t9 = .int .i64 j ∧ H' = scopeH H c (setF st (l.take j) b) ++ J) l.length ?_ ?_
  · intro _; exact ⟨0, by omega, by omega, rfl, by simp [setF]⟩
  · rintro q t9 H' ⟨j, hj, rfl, rfl, rfl⟩ hsc hlen hsF Kb hKb
    by_cases hjl : j < l.length
    · have hrr := hr _ (List.getElem_mem hjl)
      obtain ⟨e, he⟩ : ∃ e : Nat, l[j] = e := ⟨(l[j]).toNat, by omega⟩
      have hen : e < c.vars.length := by omega
      have hnx : setF st (l.take (j + 1)) b = (setF st (l.take j) b).set e b := by rw [take_snoc hjl, setF_snoc, he]; rfl
      have hsl : (setF st (l.take j) b).length = c.vars.length := by rw [setF_len, hst]
      generalize setF st (l.take j) b = st1 at *
      simp [zq72_b1, hjl, ints, he, scopeH, hen, hsl]
      rw [wrap_in (by omega) (by omega), bools_set (by omega)]
      refine ⟨by omega, hKb _ _ ⟨l.length - (j + 1), by omega, Back.at (J := []) (H2 := scopeH H c (st1.set e b) ++ J) (by simp [scopeH]) (by simp [scopeH]) ?_ ?_ ⟨_, rfl, j + 1, by omega, rfl, by simp, by rw [hnx]⟩⟩⟩
      · exact HSc.swap hs (scopeH_sc hsH _ _) (by simp [scopeH])
      · simp [zq72_fr1, AV.sc, AV.scV, AV.scA, AV.scB, scopeH]
    · obtain rfl : j = l.length := by omega
      rw [List.take_length] at *
      simp [zq72_b1]
      simpa [aRet] using hK
structure InP (c : Cor) : Prop where
  kcore : KCore c
  binds : ∀ i (h : i < c.exprs.length), (c.exprs[i]).binds.length = (c.exprs[i]).kids.length
  kids : ∀ i (h : i < c.exprs.length), ∀ k ∈ (c.exprs[i]).kids, (i : Int) < k ∧ k < c.exprs.length
  brange : ∀ i (h : i < c.exprs.length), ∀ l ∈ (c.exprs[i]).binds, ∀ x ∈ l, 0 ≤ x ∧ x < (c.vars.length : Int)
  crange : ∀ i (h : i < c.codes.length), (∀ x ∈ (c.codes[i]).params, 0 ≤ x ∧ x < (c.vars.length : Int)) ∧ ∀ x ∈ (c.codes[i]).capt, 0 ≤ x ∧ x < (c.vars.length : Int)
  body : ∀ i (h : i < c.codes.length), ∃ b : Nat, (c.codes[i]).body = b ∧ b < c.exprs.length
theorem visitK_drop (c : Cor) (m : Nat) {bs : List (List Int)} {ks : List Int} {j : Nat} (h1 : j < bs.length) (h2 : j < ks.length) (st : List Bool) : visitK c m (bs.drop j) (ks.drop j) st = match visitF c m (ks[j]).toNat (setF st bs[j] true) with
    | none => none
    | some st' => visitK c m (bs.drop (j + 1)) (ks.drop (j + 1)) (setF st' bs[j] false) := by
  rw [List.drop_eq_getElem_cons h1, List.drop_eq_getElem_cons h2, visitK]
theorem visit_spec {c : Cor} (hp : InP c) {H : Heap} (hsH : HSc H) : ∀ (m i : Nat), c.exprs.length - i ≤ m → i < c.exprs.length → ∀ (st : List Bool) (J : Heap), st.length = c.vars.length → ∀ (K : Kt),
    (∀ st', visitF c m i st = some st' → st'.length = c.vars.length → K (.bool true) (scopeH H c st' ++ J)) → (visitF c m i st = none → ∀ st', st'.length = c.vars.length → K (.bool false) (scopeH H c st' ++ J)) →
    aCallV tP (.fn n_zq73 [.ptr H.length 0, .ptr (H.length + 2) 0, .ptr (H.length + 3) 0, .ptr (H.length + 4) 0]) [.int .i64 i] (scopeH H c st ++ J) K := by
  intro m
  induction m with
  | zero => intro i h1 h2; omega
  | succ m ih =>
  intro i hm hi st J hst K hK1 hK2
  simp only [aCallV, callScope2]
  refine ACalls.out (zq73_ok fun hs => ?_)
  obtain ⟨x, y, z, hv, hx, hy, hz, hat⟩ := ex_at hi
  obtain ⟨k1, k2, k3, ⟨k4, k5⟩, k6, k7⟩ := hp.kcore
  obtain ⟨kv, kb, kk, _, kbl⟩ := k7 _ (List.getElem_mem hi)
  have hbk := hp.binds i hi
  have hkd := hp.kids i hi
  have hbr := hp.brange i hi
  have hvis : visitF c (m + 1) i st = if (c.exprs[i]).vars.all (fun v => decide (0 ≤ v) && st.getD v.toNat false) = true then visitK c m (c.exprs[i]).binds (c.exprs[i]).kids st else none := by
    rw [visitF, List.getElem?_eq_getElem hi]
  rw [hvis] at hK1 hK2
  have hC : corC c = .cells [.sl (c.data.map Dat.cs) .none, .sl (c.codes.map Cod.cs) .none, .sl (VT.css c.vars) .none, .sl (c.exprs.map CEx.cs) .none] := rfl
  have hg0 : ∀ st J, (scopeH H c st ++ J)[H.length]? = some (corC c) := by intro st J; simp [scopeH]
  have hg1 : ∀ st J, (scopeH H c st ++ J)[H.length + 1]? = some (.cells (bools st)) := by intro st J; simp [scopeH]
  have hg2 : ∀ st J, (scopeH H c st ++ J)[H.length + 2]? = some (.cells [.ms (H.length + 1) 0 c.vars.length c.vars.length]) := by intro st J; simp [scopeH]
  have hg3 : ∀ st J, (scopeH H c st ++ J)[H.length + 3]? = some (.cells [.fn n_zq72 [.ptr (H.length + 2) 0]]) := by intro st J; simp [scopeH]
  have hg4 : ∀ st J, (scopeH H c st ++ J)[H.length + 4]? = some (.cells [.fn n_zq73 [.ptr H.length 0, .ptr (H.length + 2) 0, .ptr (H.length + 3) 0, .ptr (H.length + 4) 0]]) := by intro st J; simp [scopeH]
  have hg5 : ∀ st X, (scopeH H c st ++ (J ++ [X]))[H.length + 5 + J.length]? = some X := by
    intro st X
    have : H.length + 5 + J.length = (scopeH H c st ++ J).length := by simp
    rw [← List.append_assoc, this, get_len]; rfl
  have hlenJ : ∀ st', (scopeH H c st' ++ J).length = (scopeH H c st ++ J).length := by intro st'; simp
  have hscJ : ∀ st', HSc (scopeH H c st' ++ J) := fun st' => HSc.swap hs (scopeH_sc hsH _ _) (by simp)
  have hO : ∀ (b : Bool) st' J', K (.bool b) (scopeH H c st' ++ J) → Out (scopeH H c st ++ J).length K (.bool b) (scopeH H c st' ++ J ++ J') := fun b st' J' h => Out.bool rfl (by simp) (hscJ st') h
  simp [zq73, hg0, hC, hi, hat, hx, hy, hz]
  have hOt : ∀ st' X, visitK c m (c.exprs[i]).binds (c.exprs[i]).kids st = some st' → (c.exprs[i]).vars.all (fun v => decide (0 ≤ v) && st.getD v.toNat false) = true → st'.length = c.vars.length → Out (H.length + 5 + J.length) K (.bool true) (scopeH H c st' ++ (J ++ [X])) := fun st' X h1 h2 h3 => by
    have := hO true st' [X] (hK1 st' (by rw [if_pos h2]; exact h1) h3)
    simpa using this
  have hOf : ∀ st' X, (if (c.exprs[i]).vars.all (fun v => decide (0 ≤ v) && st.getD v.toNat false) = true then visitK c m (c.exprs[i]).binds (c.exprs[i]).kids st else none) = none → st'.length = c.vars.length → Out (H.length + 5 + J.length) K (.bool false) (scopeH H c st' ++ (J ++ [X])) := fun st' X h1 h3 => by
    have := hO false st' [X] (hK2 h1 st' h3)
    simpa using this
  have hscX : ∀ st' X, X.sc (H.length + 5 + J.length + 1) = true → HSc (scopeH H c st' ++ (J ++ [X])) := fun st' X h => by
    rw [← List.append_assoc]; exact (hscJ st').snoc (by simpa using h)
  generalize hE : c.exprs[i] = E at *
  generalize hX : AB.cells [.int .i64 E.op, .int .i64 E.num, .sl (ints E.vars) .none, .sl (rows E.binds) .none, .sl (ints E.kids) .none, x, y, z] = X at *
  have hXs : X.sc (H.length + 5 + J.length + 1) = true := by
    rw [← hX]
    have := VT.cs_scA E.ty (H.length + 5 + J.length + 1)
    rw [hv] at this
    simp at this
    simp [AB.sc, this]
  refine zq73_loop3 (Inv := fun q t20 H' => ∃ j : Nat, j ≤ E.vars.length ∧ q = E.vars.length - j ∧ t20 = .int .i64 j ∧ (∀ v ∈ E.vars.take j, (decide (0 ≤ v) && st.getD v.toNat false) = true) ∧ H' = scopeH H c st ++ (J ++ [X])) E.vars.length ?_ ?_
  · intro _; exact ⟨0, by omega, by omega, rfl, by simp, rfl⟩
  · rintro q t20 H' ⟨j, hj, rfl, rfl, hok, rfl⟩ hsc hlen hsF Kb hKb
    by_cases hjl : j < E.vars.length
    · have hbad : (decide (0 ≤ E.vars[j]) && st.getD (E.vars[j]).toNat false) = false → Out (H.length + 5 + J.length) K (.bool false) (scopeH H c st ++ (J ++ [X])) := fun h => by
        refine hOf _ _ ?_ hst
        rw [if_neg]
        intro h'
        rw [List.all_eq_true] at h'
        have := h' _ (List.getElem_mem hjl)
        rw [h] at this; cases this
      by_cases h0 : E.vars[j] < 0
      · simp [zq73_b3, hjl, ints, h0]
        exact hbad (by simp; omega)
      by_cases hge : (c.vars.length : Int) ≤ E.vars[j]
      · simp [zq73_b3, hjl, ints, h0, hg2, hge]
        exact hbad (by
          have : st.length ≤ (E.vars[j]).toNat := by omega
          simp [List.getElem?_eq_none this])
      obtain ⟨e, he⟩ : ∃ e : Nat, E.vars[j] = e := ⟨(E.vars[j]).toNat, by omega⟩
      have hen : e < c.vars.length := by omega
      have hen' : ¬ c.vars.length ≤ e := by omega
      have he0 : ¬ (e : Int) < 0 := by omega
      have hes : e < st.length := by omega
      cases hse : st[e] with
      | false =>
        simp [zq73_b3, hjl, ints, he, he0, hg2, hen, hen', hg1, aCells, hes, hse]
        exact hbad (by rw [he]; simp [hes, hse])
      | true =>
        simp [zq73_b3, hjl, ints, he, he0, hg2, hen, hen', hg1, aCells, hes, hse]
        rw [wrap_in (by omega) (by omega)]
        refine hKb _ _ ⟨E.vars.length - (j + 1), by omega, Back.here (by simp) (hscX _ _ hXs) ?_ ⟨_, rfl, j + 1, by omega, rfl, by simp, ?_, rfl⟩⟩
        · simp [zq73_fr3, AV.sc, AV.scV, AV.scA, AV.scB]; omega
        · exact mem_take_succ hjl hok (by rw [he]; simp [hes, hse])
    · obtain rfl : j = E.vars.length := by omega
      rw [List.take_length] at hok
      have hall : E.vars.all (fun v => decide (0 ≤ v) && st.getD v.toNat false) = true := by rw [List.all_eq_true]; exact hok
      simp [zq73_b3, hg5, ← hX]
      rw [hX]
      have hXE : ∀ st, (scopeH H c st ++ (J ++ [X]))[H.length + 5 + J.length]? = some (.cells [.int .i64 E.op, .int .i64 E.num, .sl (ints E.vars) .none, .sl (rows E.binds) .none, .sl (ints E.kids) .none, x, y, z]) := fun st => by rw [hg5, hX]
      refine zq73_loop9 (Inv := fun q t43 H' => ∃ (j : Nat) (st1 : List Bool), j ≤ E.kids.length ∧ q = E.kids.length - j ∧ t43 = .int .i64 j ∧ st1.length = c.vars.length ∧ visitK c m (E.binds.drop j) (E.kids.drop j) st1 = visitK c m E.binds E.kids st ∧ H' = scopeH H c st1 ++ (J ++ [X])) E.kids.length ?_ ?_
      · intro _; exact ⟨0, st, by omega, by omega, rfl, hst, by simp, rfl⟩
      · rintro q t43 H' ⟨j, st1, hj, rfl, rfl, hs1, hvk, rfl⟩ hsc1 hlen1 hsF1 Kb1 hKb1
        by_cases hjl : j < E.kids.length
        · have hjb : j < E.binds.length := by omega
          rw [visitK_drop c m hjb hjl] at hvk
          have hkr := hkd _ (List.getElem_mem hjl)
          obtain ⟨k, hk⟩ : ∃ k : Nat, E.kids[j] = k := ⟨(E.kids[j]).toNat, by omega⟩
          have hbl := kbl _ (List.getElem_mem hjb)
          have hbr' := hbr _ (List.getElem_mem hjb)
          rw [hk, Int.toNat_natCast] at hvk
          simp [zq73_b9, hjl, hk, hg3, ← hX, hg5, hjb]
          rw [hX]
          refine aDet_call (.tup []) (scopeH H c (setF st1 E.binds[j] true) ++ (J ++ [X])) ?_ ?_
          · exact set_spec hsH hs1 (by omega) hbr' _ ⟨rfl, rfl⟩
          simp [hg4]
          refine ih k (by omega) (by omega) (setF st1 E.binds[j] true) (J ++ [X]) (by simpa using hs1) _ (fun st2 h2 hl2 => ?_) (fun h2 st2 hl2 => ?_)
          · rw [h2] at hvk
            simp [hg3, ← hX, hg5, hjb]
            rw [hX]
            refine aDet_call (.tup []) (scopeH H c (setF st2 E.binds[j] false) ++ (J ++ [X])) ?_ ?_
            · exact set_spec hsH hl2 (by omega) hbr' _ ⟨rfl, rfl⟩
            rw [wrap_in (by omega) (by omega)]
            refine hKb1 _ _ ⟨E.kids.length - (j + 1), by omega, Back.here (by simp) (hscX _ _ hXs) ?_ ⟨_, rfl, j + 1, setF st2 E.binds[j] false, by omega, rfl, by simp, by simpa using hl2, hvk, rfl⟩⟩
            simp [zq73_fr9, AV.sc, AV.scV, AV.scA, AV.scB]; omega
          · rw [h2] at hvk
            simp
            exact hOf _ _ (by rw [if_pos hall]; exact hvk.symm) hl2
        · obtain rfl : j = E.kids.length := by omega
          rw [List.drop_length, ← hbk, List.drop_length, visitK] at hvk
          simp [zq73_b9]
          exact hOt _ _ hvk.symm hall hs1
def scopesF (c : Cor) : List Cod → List Bool → Bool
  | [], _ => true
  | f :: fs, st => match visitF c c.exprs.length f.body.toNat (setF (setF st f.params true) f.capt true) with
    | none => false
    | some st' => scopesF c fs (setF (setF st' f.params false) f.capt false)
theorem zq44_spec (c : Cor) (hp : InP c) (H : Heap) (K : Kt) (hK : K (.bool (scopesF c c.codes (List.replicate c.vars.length false))) H) : ACalls tP n_zq44 [.agg c.cs] H K := by
  refine ACalls.out (zq44_ok fun hs => ?_)
  obtain ⟨k1, k2, k3, ⟨k4, k5⟩, k6, k7⟩ := hp.kcore
  have hO : ∀ J, Out H.length K (.bool (scopesF c c.codes (List.replicate c.vars.length false))) (H ++ J) := fun J => Out.bool rfl (Nat.le_refl _) hs hK
  have hg3 : ∀ st J, (scopeH H c st ++ J)[H.length + 3]? = some (.cells [.fn n_zq72 [.ptr (H.length + 2) 0]]) := by intro st J; simp [scopeH]
  have hg4 : ∀ st J, (scopeH H c st ++ J)[H.length + 4]? = some (.cells [.fn n_zq73 [.ptr H.length 0, .ptr (H.length + 2) 0, .ptr (H.length + 3) 0, .ptr (H.length + 4) 0]]) := by intro st J; simp [scopeH]
  have hg5 : ∀ st J, (scopeH H c st ++ J)[H.length + 5]? = J[0]? := by intro st J; simp [scopeH]
  have hg3' : ∀ st (h : H.length + 3 < (scopeH H c st).length), (scopeH H c st)[H.length + 3] = .cells [.fn n_zq72 [.ptr (H.length + 2) 0]] := by
    intro st h
    have := hg3 st []
    rw [List.append_nil, List.getElem?_eq_getElem h] at this
    exact Option.some.inj this
  have hg4' : ∀ st (h : H.length + 3 + 1 < (scopeH H c st).length), (scopeH H c st)[H.length + 3 + 1] = .cells [.fn n_zq73 [.ptr H.length 0, .ptr (H.length + 2) 0, .ptr (H.length + 3) 0, .ptr (H.length + 4) 0]] := by
    intro st h
    have := hg4 st []
    rw [List.append_nil, List.getElem?_eq_getElem h] at this
    exact Option.some.inj this
  simp [zq44, Cor.cs]
  simp only [aMake, Int.toNat_natCast, bools_rep]
  refine ⟨⟨by omega, by omega, by omega, by omega⟩, ?_⟩
  simp
  refine ⟨rfl, ⟨rfl, rfl, rfl, rfl⟩, ?_⟩
  refine zq44_loop6 (Inv := fun q t17 H' => ∃ (i : Nat) (st : List Bool), i ≤ c.codes.length ∧ q = c.codes.length - i ∧ t17 = .int .i64 i ∧ st.length = c.vars.length ∧ scopesF c (c.codes.drop i) st = scopesF c c.codes (List.replicate c.vars.length false) ∧ H' = scopeH H c st) c.codes.length ?_ ?_
  · intro _; exact ⟨0, _, by omega, by omega, rfl, by simp, rfl, by simp [scopeH, corC]⟩
  · rintro q t17 H' ⟨i, st, hi, rfl, rfl, hst, ho, rfl⟩ hsc hlen hsF Kb hKb
    by_cases hlt : i < c.codes.length
    · obtain ⟨x, y, z, hv, hx, hy, hz, hat⟩ := cod_at hlt
      obtain ⟨_, kp, kc, _⟩ := k6 _ (List.getElem_mem hlt)
      obtain ⟨hr1, hr2⟩ := hp.crange i hlt
      obtain ⟨b, hb, hbl⟩ := hp.body i hlt
      rw [List.drop_eq_getElem_cons hlt, scopesF] at ho
      generalize hf : c.codes[i] = f at *
      rw [hb, Int.toNat_natCast] at ho
      simp [zq44_b6, hlt, hf, hat, hx, hy, hz, hg3, hg3', hg4']
      refine set_spec hs hst (by omega) hr1 _ ?_
      simp [hg3, hg3', hg5]
      refine set_spec hs (by simpa using hst) (by omega) hr2 _ ?_
      simp [hg4, hg4', hg5, hb]
      refine visit_spec hp hs c.exprs.length b (by omega) hbl _ _ (by simpa using hst) _ (fun st1 h1 hl1 => ?_) (fun h1 st1 hl1 => ?_)
      · rw [h1] at ho
        simp [hg3, hg3', hg5]
        refine set_spec hs hl1 (by omega) hr1 _ ?_
        simp [hg3, hg3', hg5]
        refine set_spec hs (by simpa using hl1) (by omega) hr2 _ ?_
        rw [wrap_in (by omega) (by omega)]
        refine hKb _ _ ⟨c.codes.length - (i + 1), by omega, Back.at (J := [_]) (H2 := scopeH H c _) rfl (by simp) (scopeH_sc hs _ _) ?_ ⟨_, rfl, i + 1, _, by omega, rfl, by simp, by simpa using hl1, ho, rfl⟩⟩
        simp [zq44_fr6, AV.sc, AV.scV, AV.scA, AV.scB]
      · rw [h1] at ho
        rw [← ho] at hO
        simp [scopeH]
        exact hO _
    · obtain rfl : i = c.codes.length := by omega
      rw [List.drop_length, scopesF] at ho
      rw [← ho] at hO
      simp [zq44_b6, scopeH]
      exact hO _
end Go.Proofs.Ytkdmpbhbmmhijaa

