/- The core program of the sanity checks. -/
import Derived.Test.YtkdmpbhbmmhijaaKPa
import Derived.Test.YtkdmpbhbmmhijaaKGV1
import Derived.Test.YtkdmpbhbmmhijaaKGF
namespace Go.Proofs.Ytkdmpbhbmmhijaa
open Go Go.Abs
set_option linter.unusedSimpArgs false
set_option linter.unusedVariables false
set_option maxRecDepth 8000
def codeL : List AV := [.str [102], .sl [] .none, .sl [] .none, .int .i64 1, .int .i64 0, .sl [] .none, .int .i64 0]
def exprL (n : Int) : List AV := [.int .i64 3, .int .i64 n, .sl [] .none, .sl [] .none, .sl [] .none, .int .i64 1, .int .i64 0, .sl [] .none]
def c1 (n : Int) : Cor := ⟨[], [⟨[102], [], [], sm 1, 0⟩], [], [⟨3, n, [], [], [], sm 1⟩]⟩
theorem c1_cs (n : Int) : (c1 n).cs = [.sl [] .none, .sl [codeL] .none, .sl [] .none, .sl [exprL n] .none] := rfl
theorem c1_k (n : Int) : KCore (c1 n) := by
  refine ⟨⟨by simp [c1], by simp [c1]⟩, by simp [c1], by simp [c1], ⟨by simp [c1], by simp [c1]⟩, ?_, ?_⟩
  · intro f hf
    simp [c1] at hf
    subst hf
    exact ⟨by simp, by simp, by simp, by simp [sm, VT.nodes, VT.nodesL]⟩
  · intro e he
    simp [c1] at he
    subst he
    exact ⟨by simp, by simp, by simp, by simp [sm, VT.nodes, VT.nodesL], by simp⟩
theorem c1_codes (n : Int) : CodesP (c1 n) := by
  intro i hi
  have h0 : i = 0 := by simp [c1] at hi; omega
  subst h0
  refine ⟨hi, fun _ => ⟨fun j hj => by omega, fun j hj => by omega, rfl⟩, by simp [c1], by simp [c1, tyValid, sm, VT.nodes, VT.nodesL, tyOk, tyOkL, shapeOk], 0, rfl, by simp [c1], by simp [c1, same_iff]⟩
theorem c1_good : ProgV (c1 1) := by
  refine ⟨rfl, rfl, c1_codes 1, ⟨?_, ?_, ?_, rfl⟩, ⟨?_, ?_, rfl⟩, ?_, ?_, ?_⟩
  · intro i h
    have h0 : i = 0 := by simp [c1] at h; omega
    subst h0; rfl
  · intro i h k hk
    have h0 : i = 0 := by simp [c1] at h; omega
    subst h0
    simp [c1] at hk
  · simp [c1, allE]
  · intro x hx; simp [c1, allV] at hx
  · simp [c1, allV]
  · simp [c1, scopesF, visitF, visitK]
  · intro i h
    have h0 : i = 0 := by simp [c1] at h; omega
    subst h0
    simp [c1, progRule, isNum, shapeB, same_iff]
  · intro i h hn
    have h0 : i = 0 := by simp [c1] at h; omega
    subst h0
    simp [c1] at hn
theorem bool_eq {a b : Bool} (h : a = true ↔ b = true) : a = b := by cases a <;> cases b <;> simp_all
end Go.Proofs.Ytkdmpbhbmmhijaa

namespace Go.Proofs.Ytkdmpbhbmmhijaa
open Go Go.Abs
set_option linter.unusedSimpArgs false
set_option linter.unusedVariables false
set_option maxRecDepth 8000
open Classical in
noncomputable def vOk (c : Cor) : Bool := decide (ProgV c)
theorem vOk_iff (c : Cor) : vOk c = true ↔ ProgV c := by simp [vOk]
theorem zq11_b (c : Cor) (hc : KCore c) (H : Heap) (K : Kt) (hK : K (.bool (vOk c)) H) : ACalls Try.prog n_zq11 [.agg c.cs] H K :=
  zq11_spec c hc H K fun b hb => by rw [bool_eq (hb.trans (vOk_iff c).symm)]; exact hK
theorem zq12_b (c : Cor) (hc : KCore c) (H : Heap) (K : Kt) (hK : K (.bool (vOk c)) H) : ACalls Try.prog n_zq12 [.agg c.cs] H K :=
  zq12_spec c hc H K fun b hb => by rw [bool_eq (hb.trans ((valid_iff c hc).symm.trans (vOk_iff c).symm))]; exact hK
theorem one_spec (H : Heap) (K : Kt) (hK : K (.agg (c1 1).cs) H) : ACalls Try.prog n_zq18 [] H K := by
  refine ACalls.out (zq18_ok fun hs => ?_)
  simp [zq18, aBuild, fillA]
  rw [show ∀ k : AV → Prop, aBuildS 7 [(.str []), .snil, .snil, (.int .i64 0), (.int .i64 0), .snil, (.int .i64 0)] 1 [(0, .agg [.str [102], .snil, .snil, .int .i64 1, .int .i64 0, .snil, .int .i64 0])] k = k (.sl [codeL] .full) from fun k => propext Iff.rfl]
  simp
  rw [show ∀ k : AV → Prop, aBuildS 8 [(.int .i64 0), (.int .i64 0), .snil, .snil, .snil, (.int .i64 0), (.int .i64 0), .snil] 1 [(0, .agg [.int .i64 3, .int .i64 1, .snil, .snil, .snil, .int .i64 1, .int .i64 0, .snil])] k = k (.sl [exprL 1] .full) from fun k => propext Iff.rfl]
  simp
  rw [c1_cs] at hK
  exact Out.at rfl (Nat.le_refl _) hs (WkV.agg (ds := [.sl [] .none, .sl [codeL] .none, .sl [] .none, .sl [exprL 1] .none]) ⟨.snil, .sl _ _, .snil, .sl _ _, trivial⟩) rfl (by simp [AV.scV, AV.scA, AV.scB]) hK
theorem let_shape {c : Cor} {e : CEx} (h : progRule c e = true) (h7 : e.op = 7) : ∃ x k0 k1, e.binds = [[], [x]] ∧ e.kids = [k0, k1] := by
  simp [progRule, isNum, isPar, restR, parR, h7, shapeB] at h
  obtain ⟨_, ⟨_, h1⟩, h2, _⟩ := h
  obtain ⟨k0, k1, hk⟩ := len2 (l := e.kids) (by simpa using h1)
  have hl : e.binds.length = 2 := by
    have := congrArg List.length h2
    simpa [lens] using this
  obtain ⟨b0, b1, hb⟩ := len2 (l := e.binds) (by simp [hl])
  rw [hb] at h2
  simp [lens] at h2
  obtain ⟨q1, q2⟩ := h2
  obtain ⟨x, hx⟩ := len1 (l := b1) (by simp; omega)
  exact ⟨x, k0, k1, by rw [hb, q1, hx], hk⟩
def defF : List CEx → Int → Int
  | [], _ => -1
  | e :: l, v => if e.op = 7 ∧ (e.binds.getD 1 []).getD 0 0 = v then e.kids.getD 0 0 else defF l v
noncomputable def defV (c : Cor) (v : Int) : Int := if v < 0 ∨ (c.vars.length : Int) ≤ v ∨ vOk c = false then -1 else defF c.exprs v
def funF (s : List UInt8) : List Cod → Nat → Int
  | [], _ => -1
  | f :: l, i => if f.name = s then i else funF s l (i + 1)
noncomputable def funV (c : Cor) (s : List UInt8) : Int := if s = [] ∨ vOk c = false then -1 else funF s c.codes 0
theorem zq14_spec (c : Cor) (hc : KCore c) (v : Int) (H : Heap) (K : Kt) (hK : K (.int .i64 (defV c v)) H) : ACalls Try.prog n_zq14 [.agg c.cs, .int .i64 v] H K := by
  refine ACalls.out (zq14_ok fun hs => ?_)
  have hO : ∀ r, defV c v = r → ∀ J, Out H.length K (.int .i64 r) (H ++ J) := fun r h J => h ▸ Out.int rfl (Nat.le_refl _) hs hK
  have hat : c.cs = [.sl (c.data.map Dat.cs) .none, .sl (c.codes.map Cod.cs) .none, .sl (VT.css c.vars) .none, .sl (c.exprs.map CEx.cs) .none] := rfl
  have hk := hc
  obtain ⟨k1, k2, k3, ⟨k4, k5⟩, k6, k7⟩ := hk
  have main : ¬ v < 0 → ¬ (c.vars.length : Int) ≤ v → vOk c = true → zq14_l4 (.int .i64 v) (.sl (c.exprs.map CEx.cs) .none) (.int .i64 c.exprs.length) (.int .i64 0) (H ++ [.cells c.cs]) (Out H.length K) := by
    intro h0 h1 hv
    have hR := (((vOk_iff c).1 hv).exprs).rule
    have hd : defV c v = defF c.exprs v := by rw [defV, if_neg (by simp [h0, h1, hv])]
    refine zq14_loop4 (Inv := fun q t24 H' => ∃ i : Nat, i ≤ c.exprs.length ∧ q = c.exprs.length - i ∧ t24 = .int .i64 i ∧ defF (c.exprs.drop i) v = defF c.exprs v ∧ H' = H ++ [.cells c.cs]) c.exprs.length ?_ ?_
    · intro _; exact ⟨0, by omega, by omega, rfl, rfl, rfl⟩
    rintro q t24 H' ⟨i, hi, rfl, rfl, ho, rfl⟩ hsc hlen hsF Kb hKb
    by_cases hlt : i < c.exprs.length
    · obtain ⟨x, y, z, hvv, hx, hy, hz, hce⟩ := ex_at hlt
      have hRi := hR i hlt
      rw [List.drop_eq_getElem_cons hlt, defF] at ho
      generalize hE : c.exprs[i] = E at *
      have back : defF (c.exprs.drop (i + 1)) v = defF c.exprs v → ∀ J, Kb (zq14_fr4 (.int .i64 v) (.sl (c.exprs.map CEx.cs) .none) (.int .i64 c.exprs.length) (.int .i64 ((i : Int) + 1))) (H ++ [.cells c.cs] ++ J) := fun h J => by
        refine hKb _ _ ⟨c.exprs.length - (i + 1), by omega, Back.at (J := J) (H2 := H ++ [.cells c.cs]) rfl (by simp) hsc ?_ ⟨_, rfl, i + 1, by omega, rfl, by simp, h, rfl⟩⟩
        simp [zq14_fr4, AV.sc, AV.scV, AV.scA, AV.scB]
      by_cases h7 : E.op = 7
      · obtain ⟨b, k0, k1, hb, hk⟩ := let_shape hRi h7
        by_cases hbv : b = v
        · rw [if_pos ⟨h7, by simp [hb, hbv]⟩] at ho
          simp [zq14_b4, hlt, hE, hce, hx, hy, hz, h7, hb, hk, rows, ints, hbv]
          refine hO _ ?_ _
          rw [hd, ← ho]; simp [hk]
        · rw [if_neg (by simp [hb, hbv])] at ho
          have := back ho [.cells [.int .i64 7, .int .i64 E.num, .sl (ints E.vars) .none, .sl (rows [[], [b]]) .none, .sl (ints [k0, k1]) .none, x, y, z]]
          simp [zq14_b4, hlt, hE, hce, hx, hy, hz, h7, hb, hk, rows, ints, nb hbv] at this ⊢
          rw [wrap_in (by omega) (by omega)]
          exact this
      · rw [if_neg (fun h => h7 h.1)] at ho
        have := back ho [.cells [.int .i64 E.op, .int .i64 E.num, .sl (ints E.vars) .none, .sl (rows E.binds) .none, .sl (ints E.kids) .none, x, y, z]]
        simp [zq14_b4, hlt, hE, hce, hx, hy, hz, nb h7] at this ⊢
        rw [wrap_in (by omega) (by omega)]
        exact this
    · obtain rfl : i = c.exprs.length := by omega
      rw [List.drop_length, defF] at ho
      simp [zq14_b4]
      exact hO _ (hd.trans ho.symm) _
  by_cases h0 : v < 0
  · simp [zq14, hat, h0]
    exact hO _ (by rw [defV, if_pos (.inl h0)]) _
  by_cases h1 : (c.vars.length : Int) ≤ v
  · simp [zq14, hat, h0, h1]
    exact hO _ (by rw [defV, if_pos (.inr (.inl h1))]) _
  simp [zq14, hat, h0, h1]
  rw [← hat]
  refine zq11_b c hc _ _ ?_
  cases hv : vOk c with
  | false =>
    simp
    exact hO _ (by rw [defV, if_pos (.inr (.inr hv))]) _
  | true =>
    have := main h0 h1 hv
    simp [hat] at this ⊢
    exact this
theorem zq15_spec (c : Cor) (hc : KCore c) (v : Int) (H : Heap) (K : Kt) (hK : K (.int .i64 (defV c v)) H) : ACalls Try.prog n_zq15 [.agg c.cs, .int .i64 v] H K := by
  refine ACalls.out (zq15_ok fun hs => ?_)
  have hO : ∀ r, defV c v = r → ∀ J, Out H.length K (.int .i64 r) (H ++ J) := fun r h J => h ▸ Out.int rfl (Nat.le_refl _) hs hK
  have hat : c.cs = [.sl (c.data.map Dat.cs) .none, .sl (c.codes.map Cod.cs) .none, .sl (VT.css c.vars) .none, .sl (c.exprs.map CEx.cs) .none] := rfl
  have hk := hc
  obtain ⟨k1, k2, k3, ⟨k4, k5⟩, k6, k7⟩ := hk
  have main : ¬ v < 0 → ¬ (c.vars.length : Int) ≤ v → vOk c = true → zq15_l4 (.int .i64 v) (.sl (c.exprs.map CEx.cs) .none) (.int .i64 c.exprs.length) (.int .i64 0) (H ++ [.cells c.cs]) (Out H.length K) := by
    intro h0 h1 hv
    have hR := (((vOk_iff c).1 hv).exprs).rule
    have hd : defV c v = defF c.exprs v := by rw [defV, if_neg (by simp [h0, h1, hv])]
    refine zq15_loop4 (Inv := fun q t24 H' => ∃ i : Nat, i ≤ c.exprs.length ∧ q = c.exprs.length - i ∧ t24 = .int .i64 i ∧ defF (c.exprs.drop i) v = defF c.exprs v ∧ H' = H ++ [.cells c.cs]) c.exprs.length ?_ ?_
    · intro _; exact ⟨0, by omega, by omega, rfl, rfl, rfl⟩
    rintro q t24 H' ⟨i, hi, rfl, rfl, ho, rfl⟩ hsc hlen hsF Kb hKb
    by_cases hlt : i < c.exprs.length
    · obtain ⟨x, y, z, hvv, hx, hy, hz, hce⟩ := ex_at hlt
      have hRi := hR i hlt
      rw [List.drop_eq_getElem_cons hlt, defF] at ho
      generalize hE : c.exprs[i] = E at *
      have back : defF (c.exprs.drop (i + 1)) v = defF c.exprs v → ∀ J, Kb (zq15_fr4 (.int .i64 v) (.sl (c.exprs.map CEx.cs) .none) (.int .i64 c.exprs.length) (.int .i64 ((i : Int) + 1))) (H ++ [.cells c.cs] ++ J) := fun h J => by
        refine hKb _ _ ⟨c.exprs.length - (i + 1), by omega, Back.at (J := J) (H2 := H ++ [.cells c.cs]) rfl (by simp) hsc ?_ ⟨_, rfl, i + 1, by omega, rfl, by simp, h, rfl⟩⟩
        simp [zq15_fr4, AV.sc, AV.scV, AV.scA, AV.scB]
      by_cases h7 : E.op = 7
      · obtain ⟨b, k0, k1, hb, hk⟩ := let_shape hRi h7
        by_cases hbv : b = v
        · rw [if_pos ⟨h7, by simp [hb, hbv]⟩] at ho
          simp [zq15_b4, hlt, hE, hce, hx, hy, hz, h7, hb, hk, rows, ints, hbv]
          refine hO _ ?_ _
          rw [hd, ← ho]; simp [hk]
        · rw [if_neg (by simp [hb, hbv])] at ho
          have := back ho [.cells [.int .i64 7, .int .i64 E.num, .sl (ints E.vars) .none, .sl (rows [[], [b]]) .none, .sl (ints [k0, k1]) .none, x, y, z]]
          simp [zq15_b4, hlt, hE, hce, hx, hy, hz, h7, hb, hk, rows, ints, nb hbv] at this ⊢
          rw [wrap_in (by omega) (by omega)]
          exact this
      · rw [if_neg (fun h => h7 h.1)] at ho
        have := back ho [.cells [.int .i64 E.op, .int .i64 E.num, .sl (ints E.vars) .none, .sl (rows E.binds) .none, .sl (ints E.kids) .none, x, y, z]]
        simp [zq15_b4, hlt, hE, hce, hx, hy, hz, nb h7] at this ⊢
        rw [wrap_in (by omega) (by omega)]
        exact this
    · obtain rfl : i = c.exprs.length := by omega
      rw [List.drop_length, defF] at ho
      simp [zq15_b4]
      exact hO _ (hd.trans ho.symm) _
  simp [zq15, hat]
  rw [← hat]
  refine zq12_b c hc _ _ ?_
  cases hv : vOk c with
  | false =>
    simp
    exact hO _ (by rw [defV, if_pos (.inr (.inr hv))]) _
  | true =>
  by_cases h0 : v < 0
  · simp [hat, h0]
    exact hO _ (by rw [defV, if_pos (.inl h0)]) _
  by_cases h1 : (c.vars.length : Int) ≤ v
  · simp [hat, h0, h1]
    exact hO _ (by rw [defV, if_pos (.inr (.inl h1))]) _
  have := main h0 h1 hv
  simp [hat, h0, h1] at this ⊢
  exact this
theorem zq16_spec (c : Cor) (hc : KCore c) (s : List UInt8) (H : Heap) (K : Kt) (hK : K (.int .i64 (funV c s)) H) : ACalls Try.prog n_zq16 [.agg c.cs, .str s] H K := by
  refine ACalls.out (zq16_ok fun hs => ?_)
  have hO : ∀ r, funV c s = r → ∀ J, Out H.length K (.int .i64 r) (H ++ J) := fun r h J => h ▸ Out.int rfl (Nat.le_refl _) hs hK
  have hat : c.cs = [.sl (c.data.map Dat.cs) .none, .sl (c.codes.map Cod.cs) .none, .sl (VT.css c.vars) .none, .sl (c.exprs.map CEx.cs) .none] := rfl
  have hk := hc
  obtain ⟨k1, k2, k3, ⟨k4, k5⟩, k6, k7⟩ := hk
  have main : s ≠ [] → vOk c = true → zq16_l4 (.str s) (.sl (c.codes.map Cod.cs) .none) (.int .i64 c.codes.length) (.int .i64 0) (H ++ [.cells c.cs]) (Out H.length K) := by
    intro h0 hv
    have hd : funV c s = funF s c.codes 0 := by rw [funV, if_neg (by simp [h0, hv])]
    refine zq16_loop4 (Inv := fun q t17 H' => ∃ i : Nat, i ≤ c.codes.length ∧ q = c.codes.length - i ∧ t17 = .int .i64 i ∧ funF s (c.codes.drop i) i = funF s c.codes 0 ∧ H' = H ++ [.cells c.cs]) c.codes.length ?_ ?_
    · intro _; exact ⟨0, by omega, by omega, rfl, rfl, rfl⟩
    rintro q t17 H' ⟨i, hi, rfl, rfl, ho, rfl⟩ hsc hlen hsF Kb hKb
    by_cases hlt : i < c.codes.length
    · obtain ⟨x, y, z, hvv, hx, hy, hz, hce⟩ := cod_at hlt
      rw [List.drop_eq_getElem_cons hlt, funF] at ho
      cases hn : ((c.codes[i]).name == s) with
      | true =>
        rw [if_pos (by simpa using hn)] at ho
        simp [zq16_b4, hlt, hce, hx, hy, hz, hn]
        exact hO _ (hd.trans ho.symm) _
      | false =>
        rw [if_neg (by simpa using hn)] at ho
        simp [zq16_b4, hlt, hce, hx, hy, hz, hn]
        rw [wrap_in (by omega) (by omega)]
        refine hKb _ _ ⟨c.codes.length - (i + 1), by omega, Back.at (J := [_]) (H2 := H ++ [.cells c.cs]) (by simp; rfl) (by simp) hsc ?_ ⟨_, rfl, i + 1, by omega, rfl, by simp, ho, rfl⟩⟩
        simp [zq16_fr4, AV.sc, AV.scV, AV.scA, AV.scB]
    · obtain rfl : i = c.codes.length := by omega
      rw [List.drop_length, funF] at ho
      simp [zq16_b4]
      exact hO _ (hd.trans ho.symm) _
  cases h0 : (s == ([] : List UInt8)) with
  | true =>
    have h0' : s = [] := by simpa using h0
    subst h0'
    simp [zq16, hat]
    exact hO _ (by rw [funV, if_pos (.inl rfl)]) _
  | false =>
  have h0' : s ≠ [] := by simpa using h0
  have h0'' : s.isEmpty = false := by cases s <;> simp at h0' ⊢
  simp [zq16, hat, h0, h0'']
  rw [← hat]
  refine zq11_b c hc _ _ ?_
  cases hv : vOk c with
  | false =>
    simp
    exact hO _ (by rw [funV, if_pos (.inr hv)]) _
  | true =>
    have := main h0' hv
    simp [hat] at this ⊢
    exact this
theorem zq17_spec (c : Cor) (hc : KCore c) (s : List UInt8) (H : Heap) (K : Kt) (hK : K (.int .i64 (funV c s)) H) : ACalls Try.prog n_zq17 [.agg c.cs, .str s] H K := by
  refine ACalls.out (zq17_ok fun hs => ?_)
  have hO : ∀ r, funV c s = r → ∀ J, Out H.length K (.int .i64 r) (H ++ J) := fun r h J => h ▸ Out.int rfl (Nat.le_refl _) hs hK
  have hat : c.cs = [.sl (c.data.map Dat.cs) .none, .sl (c.codes.map Cod.cs) .none, .sl (VT.css c.vars) .none, .sl (c.exprs.map CEx.cs) .none] := rfl
  have hk := hc
  obtain ⟨k1, k2, k3, ⟨k4, k5⟩, k6, k7⟩ := hk
  have main : s ≠ [] → vOk c = true → zq17_l4 (.str s) (.sl (c.codes.map Cod.cs) .none) (.int .i64 c.codes.length) (.int .i64 0) (H ++ [.cells c.cs]) (Out H.length K) := by
    intro h0 hv
    have hd : funV c s = funF s c.codes 0 := by rw [funV, if_neg (by simp [h0, hv])]
    refine zq17_loop4 (Inv := fun q t17 H' => ∃ i : Nat, i ≤ c.codes.length ∧ q = c.codes.length - i ∧ t17 = .int .i64 i ∧ funF s (c.codes.drop i) i = funF s c.codes 0 ∧ H' = H ++ [.cells c.cs]) c.codes.length ?_ ?_
    · intro _; exact ⟨0, by omega, by omega, rfl, rfl, rfl⟩
    rintro q t17 H' ⟨i, hi, rfl, rfl, ho, rfl⟩ hsc hlen hsF Kb hKb
    by_cases hlt : i < c.codes.length
    · obtain ⟨x, y, z, hvv, hx, hy, hz, hce⟩ := cod_at hlt
      rw [List.drop_eq_getElem_cons hlt, funF] at ho
      cases hn : ((c.codes[i]).name == s) with
      | true =>
        rw [if_pos (by simpa using hn)] at ho
        simp [zq17_b4, hlt, hce, hx, hy, hz, hn]
        exact hO _ (hd.trans ho.symm) _
      | false =>
        rw [if_neg (by simpa using hn)] at ho
        simp [zq17_b4, hlt, hce, hx, hy, hz, hn]
        rw [wrap_in (by omega) (by omega)]
        refine hKb _ _ ⟨c.codes.length - (i + 1), by omega, Back.at (J := [_]) (H2 := H ++ [.cells c.cs]) (by simp; rfl) (by simp) hsc ?_ ⟨_, rfl, i + 1, by omega, rfl, by simp, ho, rfl⟩⟩
        simp [zq17_fr4, AV.sc, AV.scV, AV.scA, AV.scB]
    · obtain rfl : i = c.codes.length := by omega
      rw [List.drop_length, funF] at ho
      simp [zq17_b4]
      exact hO _ (hd.trans ho.symm) _
  simp [zq17, hat]
  rw [← hat]
  refine zq12_b c hc _ _ ?_
  cases hv : vOk c with
  | false =>
    simp
    exact hO _ (by rw [funV, if_pos (.inr hv)]) _
  | true =>
  cases h0 : (s == ([] : List UInt8)) with
  | true =>
    have h0' : s = [] := by simpa using h0
    subst h0'
    simp [hat]
    exact hO _ (by rw [funV, if_pos (.inl rfl)]) _
  | false =>
  have h0' : s ≠ [] := by simpa using h0
  have h0'' : s.isEmpty = false := by cases s <;> simp at h0' ⊢
  have := main h0' hv
  simp [hat, h0, h0''] at this ⊢
  exact this
theorem CoreFinds_spec (c : Cor) (h1 : c.data.length ≤ 9223372036854775807) (h2 : c.vars.length ≤ 9223372036854775807) (v : Int) (s : List UInt8) : ACalls Try.prog n_zq2 [.agg c.cs, .int .i64 v, .str s] [] fun r _ => r = .bool true := by
  refine zq2_ok fun hs => ?_
  have hat : c.cs = [.sl (c.data.map Dat.cs) .none, .sl (c.codes.map Cod.cs) .none, .sl (VT.css c.vars) .none, .sl (c.exprs.map CEx.cs) .none] := rfl
  simp [zq2, hat]
  rw [← hat]
  refine zq10_spec c h1 h2 _ _ fun b hb => ?_
  cases b with
  | false => simp
  | true =>
  have hc := hb rfl
  by_cases hl : (400 : Int) < s.length
  · simp [hl]
  simp [hat, hl]
  rw [← hat]
  refine aPureX_call (.int .i64 (defV c v)) (fun J => zq14_spec c hc v _ _ ⟨rfl, rfl⟩) ?_
  refine aPureX_call (.int .i64 (defV c v)) (fun J => zq15_spec c hc v _ _ ⟨rfl, rfl⟩) ?_
  simp [hat]
  rw [← hat]
  refine aPureX_call (.int .i64 (funV c s)) (fun J => zq16_spec c hc s _ _ ⟨rfl, rfl⟩) ?_
  refine aPureX_call (.int .i64 (funV c s)) (fun J => zq17_spec c hc s _ _ ⟨rfl, rfl⟩) ?_
  simp
  refine aPureX_call (.agg (c1 1).cs) (fun J => one_spec _ _ ⟨rfl, rfl⟩) ?_
  refine aPureX_call (.int .i64 (defV (c1 1) 0)) (fun J => zq14_spec (c1 1) (c1_k 1) 0 _ _ ⟨rfl, rfl⟩) ?_
  have : defV (c1 1) 0 = -1 := by rw [defV, if_pos (.inr (.inl (by simp [c1])))]
  simp [this]
end Go.Proofs.Ytkdmpbhbmmhijaa

