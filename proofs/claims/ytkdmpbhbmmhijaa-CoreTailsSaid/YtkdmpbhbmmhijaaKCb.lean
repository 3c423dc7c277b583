/- The reference's rule: what it decides. -/
import Derived.Test.YtkdmpbhbmmhijaaKCa
import Derived.Test.YtkdmpbhbmmhijaaKGU
namespace Go.Proofs.Ytkdmpbhbmmhijaa
open Go Go.Abs
set_option linter.unusedSimpArgs false
set_option linter.unusedVariables false
set_option maxRecDepth 8000
def hd0 (l : List VT) : VT := l.getD 0 (.mk 0 0 [])
def hd1 (l : List VT) : VT := l.getD 1 (.mk 0 0 [])
def bAt (bs : List (List VT)) (k : Nat) : List VT := bs.getD k []
def caseR (c : Cor) (t u : VT) (ks : List VT) (bs : List (List VT)) (k : Nat) : Bool := (match fields c.data t k with | some fs => VT.sameL (bAt bs k) fs | none => false) && (ks.getD k (.mk 0 0 [])).same u
def codeAt' (c : Cor) (n : Int) : Cod := (c.codes[n.toNat]?).getD ⟨[], [], [], .mk 0 0 [], 0⟩
def refR9 (c : Cor) (e : CEx) (nz lf : Bool) (vs ks : List VT) (bs : List (List VT)) : Bool :=
  if e.op = 19 then nz && (lf && (((vs.length : Int) == 1) && ((e.ty.kind == 8) && (hd0 vs).same (kid0 e.ty))))
  else if e.op = 20 then nz && (lf && (((vs.length : Int) == 1) && (((hd0 vs).kind == 8) && (kid0 (hd0 vs)).same e.ty)))
  else if e.op = 21 then nz && (lf && (((vs.length : Int) == 2) && (((hd0 vs).kind == 8) && ((kid0 (hd0 vs)).same (hd1 vs) && e.ty.same (sm 3)))))
  else if e.op = 22 then decide (-1000 ≤ e.num) && (decide (e.num ≤ 1000) && (lf && (((vs.length : Int) == 0) && (e.ty.kind == 3))))
  else if e.op = 23 then nz && (lf && VT.sameL vs [sm 1])
  else if e.op = 24 then nz && (((vs.length : Int) == 0) && (VT.sameL ks [e.ty, e.ty] && (((bAt bs 0).length : Int) == 0 && VT.sameL (bAt bs 1) [sm 1])))
  else false
def refR7 (c : Cor) (e : CEx) (nz lf : Bool) (vs ks : List VT) (bs : List (List VT)) : Bool :=
  if e.op = 14 then decide (1 ≤ e.num) && (decide (e.num ≤ 8) && (lf && (VT.sameL vs [sm 1, sm 1] && (e.ty.kind == if 6 ≤ e.num then 2 else 1))))
  else if e.op = 15 then nz && (lf && (((vs.length : Int) == 2) && ((e.ty.kind == 7) && VT.sameL vs [sm 1, kid0 e.ty])))
  else if e.op = 16 then nz && (lf && (((vs.length : Int) == 2) && (((hd0 vs).kind == 7) && (VT.sameL (vs.drop 1) [sm 1] && (kid0 (hd0 vs)).same e.ty))))
  else if e.op = 17 then nz && (lf && (((vs.length : Int) == 3) && (((hd0 vs).kind == 7) && (VT.sameL (vs.drop 1) [sm 1, kid0 (hd0 vs)] && e.ty.same (sm 3)))))
  else if e.op = 18 then nz && (lf && (((vs.length : Int) == 1) && (((hd0 vs).kind == 7) && (e.ty.kind == 1))))
  else refR9 c e nz lf vs ks bs
def refR6 (c : Cor) (e : CEx) (nz lf : Bool) (vs ks : List VT) (bs : List (List VT)) : Bool :=
  if e.op = 9 then nz && (VT.sameL vs [sm 2] && (VT.sameL ks [e.ty, e.ty] && (((bAt bs 0).length : Int) == 0 && ((bAt bs 1).length : Int) == 0)))
  else if e.op = 10 then nz && (((vs.length : Int) == 1) && (((hd0 vs).kind == 5) && ((ks.length : Int) == conLen c (hd0 vs) && (List.range ks.length).all (caseR c (hd0 vs) e.ty ks bs))))
  else if e.op = 11 then lf && ((e.ty.kind == 9) && (VT.sameL vs (typesOf c (codeAt' c e.num).capt) && VT.sameL e.ty.kids (typesOf c (codeAt' c e.num).params ++ [(codeAt' c e.num).res])))
  else if e.op = 12 then decide (0 ≤ e.num) && (decide (e.num < c.codes.length) && (!(codeAt' c e.num).name.isEmpty && (lf && (VT.sameL vs (typesOf c (codeAt' c e.num).params) && e.ty.same (codeAt' c e.num).res))))
  else if e.op = 13 then nz && (lf && (decide (1 ≤ (vs.length : Int)) && (((hd0 vs).kind == 9) && VT.sameL (vs.drop 1 ++ [e.ty]) (hd0 vs).kids)))
  else refR7 c e nz lf vs ks bs
def refR5 (c : Cor) (e : CEx) (nz lf : Bool) (vs ks : List VT) (bs : List (List VT)) : Bool :=
  if e.op = 4 then nz && (lf && VT.sameL vs [e.ty])
  else if e.op = 5 then nz && (lf && ((e.ty.kind == 6) && VT.sameL vs e.ty.kids))
  else if e.op = 6 then decide (0 ≤ e.num) && (decide (e.num < 8) && (lf && (match fields c.data e.ty e.num with | some fs => VT.sameL vs fs | none => false)))
  else if e.op = 7 then nz && (((vs.length : Int) == 0) && (((ks.length : Int) == 2) && (((bAt bs 0).length : Int) == 0 && (VT.sameL (bAt bs 1) [hd0 ks] && (hd1 ks).same e.ty))))
  else if e.op = 8 then nz && (((vs.length : Int) == 1) && (((hd0 vs).kind == 6) && (((ks.length : Int) == 1) && (VT.sameL (bAt bs 0) (hd0 vs).kids && (hd0 ks).same e.ty))))
  else refR6 c e nz lf vs ks bs
def refR4 (c : Cor) (e : CEx) (nz lf : Bool) (vs ks : List VT) (bs : List (List VT)) : Bool :=
  if e.op = 1 then nz && (lf && (((vs.length : Int) == 0) && (e.ty.kind == 3)))
  else if e.op = 2 then (e.num == 0 || e.num == 1) && (lf && (((vs.length : Int) == 0) && (e.ty.kind == 2)))
  else if e.op = 3 then decide (-1000000 ≤ e.num) && (decide (e.num ≤ 1000000) && (lf && (((vs.length : Int) == 0) && (e.ty.kind == 1))))
  else refR5 c e nz lf vs ks bs
def bsV (bs : List (List VT)) : List (List AV) := bs.map fun b => [.sl (VT.css b) .none]
def eCells (e : CEx) : List AV := [.int .i64 e.op, .int .i64 e.num, .sl (ints e.vars) .none, .sl (rows e.binds) .none, .sl (ints e.kids) .none, .int .i64 e.ty.kind, .int .i64 e.ty.num, .sl (VT.css e.ty.kids) .none]
def ruleH (H : Heap) (c : Cor) (e : CEx) (P1 P2 P3 : AB) : Heap := H ++ [.cells [.sl (c.data.map Dat.cs) .none, .sl (c.codes.map Cod.cs) .none, .sl (VT.css c.vars) .none, .sl (c.exprs.map CEx.cs) .none], .cells (eCells e), P1, P2, P3, .cells [.int .i64 1, .int .i64 0, .sl [] .none], .cells [.int .i64 2, .int .i64 0, .sl [] .none], .cells [.int .i64 3, .int .i64 0, .sl [] .none]]
/-- What is known where the rule looks at the kind of an expression. -/
structure RIn (c : Cor) (e : CEx) (vs ks : List VT) (bs : List (List VT)) : Prop where
  kcore : KCore c
  ety : tyValid c.data 0 e.ty = true
  en : e.ty.nodes ≤ 250
  vsP : ∀ v ∈ vs, tyValid c.data 0 v = true ∧ v.nodes ≤ 250
  vl : vs.length ≤ 40
  ksP : ∀ v ∈ ks, v.nodes ≤ 250
  kl : ks.length ≤ 10
  bl : bs.length = ks.length
  bsP : ∀ b ∈ bs, b.length ≤ 10 ∧ ∀ v ∈ b, v.nodes ≤ 250
  codes : ∀ f ∈ c.codes, inV c f.params ∧ inV c f.capt
  lam : e.op = 11 → ∃ n : Nat, e.num = n ∧ n < c.codes.length
theorem rsame_tok (x ts : List VT) (hx : ∀ v ∈ x, v.nodes ≤ 250) (hl : x.length ≤ 1000) {es fs : List (List AV)} {t1 t2 : Tok} (he : es = VT.css x) (hf : fs = VT.css ts) (H : Heap) (K : Kt) (hK : K (.bool (VT.sameL x ts)) H) : ACalls tP n_zq80 [.sl es t1, .sl fs t2] H K := by
  subst he hf
  exact ACalls.wk (zq80_spec x ts (fun v hv => by have := hx v hv; omega) (by omega) H K hK) ⟨.atom (.sl _ _), .atom (.sl _ _), trivial⟩
theorem rsame2_tok (x ts : List VT) (hx : ∀ v ∈ x, v.nodes ≤ 250) (hl : x.length ≤ 1000) {es fs : List (List AV)} {t1 t2 : Tok} (he : es = VT.css x) (hf : fs = VT.css ts) (H : Heap) (K : Kt) (hK : K (.bool (VT.sameL x ts)) H) : ACalls tP n_zq79 [.sl es t1, .sl fs t2] H K := by
  refine zq79_ok fun hs => ?_
  simp [zq79]
  exact rsame_tok x ts hx hl he hf H K hK
theorem rEqual_spec {v u : VT} (hv : v.nodes ≤ 1000) (H : Heap) (K : Kt) (hK : K (.bool (v.same u)) H) : ACalls tP n_zq49 [.agg v.cs, .agg u.cs] H K := zq49_spec _ v u (Nat.le_refl _) (by omega) H K hK
theorem rFields_spec {c : Cor} (hc : KCore c) {t : VT} (ht : t.nodes ≤ 1000) (k : Int) (H : Heap) (K : Kt) (hK : K (fieldsR (fields c.data t k)) H) : ACalls tP n_zq81 [.sl (c.data.map Dat.cs) .none, .agg t.cs, .int .i64 k] H K :=
  zq81_spec c.data (by obtain ⟨⟨k1, _⟩, _⟩ := hc; omega) (kdata_small hc).1 (kdata_small hc).2 t ht k H K hK
theorem len1 {α : Type} {l : List α} (h : ((l.length : Int) == 1) = true) : ∃ a, l = [a] := by
  have : l.length = 1 := by have := eq_of_beq h; omega
  match l, this with
  | [a], _ => exact ⟨a, rfl⟩
theorem len2 {α : Type} {l : List α} (h : ((l.length : Int) == 2) = true) : ∃ a b, l = [a, b] := by
  have : l.length = 2 := by have := eq_of_beq h; omega
  match l, this with
  | [a, b], _ => exact ⟨a, b, rfl⟩
theorem len3 {α : Type} {l : List α} (h : ((l.length : Int) == 3) = true) : ∃ a b c, l = [a, b, c] := by
  have : l.length = 3 := by have := eq_of_beq h; omega
  match l, this with
  | [a, b, d], _ => exact ⟨a, b, d, rfl⟩
theorem cs_eq (v : VT) : v.cs = [.int .i64 v.kind, .int .i64 v.num, .sl (VT.css v.kids) .none] := by cases v; rfl
theorem vt_kid {c : Cor} {t : VT} (h : tyValid c.data 0 t = true) (hk : (t.kind == 7) = true ∨ (t.kind == 8) = true) : ∃ a, t.kids = [a] ∧ kid0 t = a := by
  obtain ⟨a, ha, _⟩ := vt_one h (by rcases hk with h | h <;> simp at h <;> simp [h])
  exact ⟨a, ha, by simp [kid0, ha]⟩
theorem kid_nodes {t a : VT} (h : t.kids = [a]) (ht : t.nodes ≤ 250) : a.nodes ≤ 250 := by
  obtain ⟨k, n, ks⟩ := t
  simp only [VT.kids] at h
  subst h
  simp [VT.nodes, VT.nodesL] at ht
  omega
theorem sameL_len : ∀ {x y : List VT}, VT.sameL x y = true → x.length = y.length
  | [], [], _ => rfl
  | a :: x, b :: y, h => by
    rw [VT.sameL, Bool.and_eq_true] at h
    simp [sameL_len h.2]
  | [], _ :: _, h => by simp [VT.sameL] at h
  | _ :: _, [], h => by simp [VT.sameL] at h
theorem rule_j9 {c : Cor} {e : CEx} {vs ks : List VT} {bs : List (List VT)} (hr : RIn c e vs ks bs) (nz lf : Bool) (tv tk tb : Tok) {H : Heap} (hs : HSc H) (P1 P2 P3 : AB) (K : Kt) (hb : ∀ b, refR9 c e nz lf vs ks bs = b → ∀ J, Out H.length K (.bool b) (H ++ J)) :
    zq51_j9 (.ptr (H.length + 1) 0) (.sl (VT.css vs) tv) (.sl (VT.css ks) tk) (.sl (bsV bs) tb) (.ptr (H.length + 5) 0) (.ptr (H.length + 7) 0) (.int .i64 e.ty.kind) (.bool nz) (.bool lf) (.int .i64 e.op) (.bool (e.op == 19)) (ruleH H c e P1 P2 P3) (Out H.length K) := by
  have hR := refR9.eq_1 c e nz lf vs ks bs
  generalize refR9 c e nz lf vs ks bs = R at hR hb
  have sm1 : AV.agg [.int .i64 1, .int .i64 0, .sl [] .none] = .agg (sm 1).cs := rfl
  have sm2 : AV.agg [.int .i64 2, .int .i64 0, .sl [] .none] = .agg (sm 2).cs := rfl
  have sm3 : AV.agg [.int .i64 3, .int .i64 0, .sl [] .none] = .agg (sm 3).cs := rfl
  refine zq51_j9_ok fun hs1 => ?_
  unfold zq51_j9b
  by_cases hop19 : e.op = 19
  · rw [if_pos hop19] at hR
    cases hq1 : nz with
    | false =>
      rw [hq1, Bool.false_and] at hR
      simp [ruleH, eCells, hop19, hq1]
      exact hb _ hR _
    | true =>
    rw [hq1, Bool.true_and] at hR
    cases hq2 : lf with
    | false =>
      rw [hq2, Bool.false_and] at hR
      simp [ruleH, eCells, hop19, hq1, hq2]
      exact hb _ hR _
    | true =>
    rw [hq2, Bool.true_and] at hR
    cases hq3 : ((vs.length : Int) == 1) with
    | false =>
      rw [hq3, Bool.false_and] at hR
      simp [ruleH, eCells, hop19, hq1, hq2, hq3]
      exact hb _ hR _
    | true =>
    rw [hq3, Bool.true_and] at hR
    obtain ⟨a, rfl⟩ := len1 hq3
    obtain ⟨ha, han⟩ := hr.vsP a (by simp)
    cases hq4 : (e.ty.kind == 8) with
    | false =>
      rw [hq4, Bool.false_and] at hR
      simp [ruleH, eCells, hop19, hq1, hq2, VT.css, cs_eq a, hq4]
      exact hb _ hR _
    | true =>
    rw [hq4, Bool.true_and] at hR
    obtain ⟨el, hel, hk0⟩ := vt_kid hr.ety (.inr hq4)
    have heln := kid_nodes hel hr.en
    rw [hk0] at hR
    simp [ruleH, eCells, hop19, hq1, hq2, VT.css, cs_eq a, hq4, hel, cs_eq el]
    rw [← cs_eq a, ← cs_eq el]
    refine aPureX_call (.bool (a.same el)) (fun J => rEqual_spec (v := a) (u := el) (by omega) _ _ ⟨rfl, rfl⟩) ?_
    exact hb _ hR _
  rw [if_neg hop19] at hR
  by_cases hop20 : e.op = 20
  · rw [if_pos hop20] at hR
    cases hq6 : nz with
    | false =>
      rw [hq6, Bool.false_and] at hR
      simp [ruleH, eCells, hop20, hq6]
      exact hb _ hR _
    | true =>
    rw [hq6, Bool.true_and] at hR
    cases hq7 : lf with
    | false =>
      rw [hq7, Bool.false_and] at hR
      simp [ruleH, eCells, hop20, hq6, hq7]
      exact hb _ hR _
    | true =>
    rw [hq7, Bool.true_and] at hR
    cases hq8 : ((vs.length : Int) == 1) with
    | false =>
      rw [hq8, Bool.false_and] at hR
      simp [ruleH, eCells, hop20, hq6, hq7, hq8]
      exact hb _ hR _
    | true =>
    rw [hq8, Bool.true_and] at hR
    obtain ⟨a, rfl⟩ := len1 hq8
    obtain ⟨ha, han⟩ := hr.vsP a (by simp)
    cases hq9 : ((hd0 [a]).kind == 8) with
    | false =>
      rw [hq9, Bool.false_and] at hR
      have hk : (a.kind == 8) = false := hq9
      simp [ruleH, eCells, hop20, hq6, hq7, VT.css, cs_eq a, hk]
      exact hb _ hR _
    | true =>
    rw [hq9, Bool.true_and] at hR
    have hk : (a.kind == 8) = true := hq9
    obtain ⟨el, hel, hk0⟩ := vt_kid ha (.inr hk)
    have heln := kid_nodes hel han
    rw [show kid0 (hd0 [a]) = el from hk0] at hR
    simp [ruleH, eCells, hop20, hq6, hq7, VT.css, cs_eq a, hk, hel, cs_eq el]
    rw [← cs_eq el, ← cs_eq e.ty]
    refine aPureX_call (.bool (el.same e.ty)) (fun J => rEqual_spec (v := el) (u := e.ty) (by omega) _ _ ⟨rfl, rfl⟩) ?_
    exact hb _ hR _
  rw [if_neg hop20] at hR
  by_cases hop21 : e.op = 21
  · rw [if_pos hop21] at hR
    cases hq11 : nz with
    | false =>
      rw [hq11, Bool.false_and] at hR
      simp [ruleH, eCells, hop21, hq11]
      exact hb _ hR _
    | true =>
    rw [hq11, Bool.true_and] at hR
    cases hq12 : lf with
    | false =>
      rw [hq12, Bool.false_and] at hR
      simp [ruleH, eCells, hop21, hq11, hq12]
      exact hb _ hR _
    | true =>
    rw [hq12, Bool.true_and] at hR
    cases hq13 : ((vs.length : Int) == 2) with
    | false =>
      rw [hq13, Bool.false_and] at hR
      simp [ruleH, eCells, hop21, hq11, hq12, hq13]
      exact hb _ hR _
    | true =>
    rw [hq13, Bool.true_and] at hR
    obtain ⟨a, b, rfl⟩ := len2 hq13
    obtain ⟨ha, han⟩ := hr.vsP a (by simp)
    obtain ⟨hb2, hbn⟩ := hr.vsP b (by simp)
    try rw [show hd1 [a, b] = b from rfl] at hR
    cases hq14 : ((hd0 [a, b]).kind == 8) with
    | false =>
      rw [hq14, Bool.false_and] at hR
      have hk : (a.kind == 8) = false := hq14
      simp [ruleH, eCells, hop21, hq11, hq12, VT.css, cs_eq a, cs_eq b, hk]
      exact hb _ hR _
    | true =>
    rw [hq14, Bool.true_and] at hR
    have hk : (a.kind == 8) = true := hq14
    obtain ⟨el, hel, hk0⟩ := vt_kid ha (.inr hk)
    have heln := kid_nodes hel han
    rw [show kid0 (hd0 [a, b]) = el from hk0] at hR
    simp [ruleH, eCells, hop21, hq11, hq12, VT.css, cs_eq a, cs_eq b, hk, hel, cs_eq el]
    rw [← cs_eq el, ← cs_eq b]
    refine aPureX_call (.bool (el.same b)) (fun J => rEqual_spec (v := el) (u := b) (by omega) _ _ ⟨rfl, rfl⟩) ?_
    cases hq15 : el.same b with
    | false =>
      rw [hq15, Bool.false_and] at hR
      simp
      exact hb _ hR _
    | true =>
    rw [hq15, Bool.true_and] at hR
    simp [ruleH, eCells, hop21, hq11, hq12, VT.css, cs_eq a, cs_eq b, hk, hel, cs_eq el]
    rw [sm3, ← cs_eq e.ty]
    refine aPureX_call (.bool (e.ty.same (sm 3))) (fun J => rEqual_spec (v := e.ty) (u := sm 3) (by have := hr.en; omega) _ _ ⟨rfl, rfl⟩) ?_
    exact hb _ hR _
  rw [if_neg hop21] at hR
  by_cases hop22 : e.op = 22
  · rw [if_pos hop22] at hR
    cases hq17 : (decide (-1000 ≤ e.num)) with
    | false =>
      rw [hq17, Bool.false_and] at hR
      have hn1 : ¬ -1000 ≤ e.num := of_decide_eq_false hq17
      simp [ruleH, eCells, hop22, hn1]
      exact hb _ hR _
    | true =>
    rw [hq17, Bool.true_and] at hR
    have hn1 : -1000 ≤ e.num := of_decide_eq_true hq17
    cases hq18 : (decide (e.num ≤ 1000)) with
    | false =>
      rw [hq18, Bool.false_and] at hR
      have hn2 : ¬ e.num ≤ 1000 := of_decide_eq_false hq18
      simp [ruleH, eCells, hop22, hn1, hn2]
      exact hb _ hR _
    | true =>
    rw [hq18, Bool.true_and] at hR
    have hn2 : e.num ≤ 1000 := of_decide_eq_true hq18
    cases hq19 : lf with
    | false =>
      rw [hq19, Bool.false_and] at hR
      simp [ruleH, eCells, hop22, hn1, hn2, hq19]
      exact hb _ hR _
    | true =>
    rw [hq19, Bool.true_and] at hR
    cases hq20 : ((vs.length : Int) == 0) with
    | false =>
      rw [hq20, Bool.false_and] at hR
      simp [ruleH, eCells, hop22, hn1, hn2, hq19, hq20]
      exact hb _ hR _
    | true =>
    rw [hq20, Bool.true_and] at hR
    simp [ruleH, eCells, hop22, hn1, hn2, hq19, hq20]
    exact hb _ hR _
  rw [if_neg hop22] at hR
  by_cases hop23 : e.op = 23
  · rw [if_pos hop23] at hR
    cases hq22 : nz with
    | false =>
      rw [hq22, Bool.false_and] at hR
      simp [ruleH, eCells, hop23, hq22]
      exact hb _ hR _
    | true =>
    rw [hq22, Bool.true_and] at hR
    cases hq23 : lf with
    | false =>
      rw [hq23, Bool.false_and] at hR
      simp [ruleH, eCells, hop23, hq22, hq23]
      exact hb _ hR _
    | true =>
    rw [hq23, Bool.true_and] at hR
    simp [ruleH, eCells, hop23, hq22, hq23]
    rw [sm1, buildS_vt]
    refine rsame2_tok vs [sm 1] (fun v hv => (hr.vsP v hv).2) (by have := hr.vl; omega) rfl rfl _ _ ?_
    exact hb _ hR _
  rw [if_neg hop23] at hR
  by_cases hop24 : e.op = 24
  · rw [if_pos hop24] at hR
    cases hq25 : nz with
    | false =>
      rw [hq25, Bool.false_and] at hR
      simp [ruleH, eCells, hop24, hq25]
      exact hb _ hR _
    | true =>
    rw [hq25, Bool.true_and] at hR
    cases hq26 : ((vs.length : Int) == 0) with
    | false =>
      rw [hq26, Bool.false_and] at hR
      simp [ruleH, eCells, hop24, hq25, hq26]
      exact hb _ hR _
    | true =>
    rw [hq26, Bool.true_and] at hR
    simp [ruleH, eCells, hop24, hq25, hq26]
    rw [← cs_eq e.ty, buildS_vt2]
    refine aPureX_call (.bool (VT.sameL ks [e.ty, e.ty])) (fun J => rsame2_tok ks [e.ty, e.ty] hr.ksP (by have := hr.kl; omega) rfl rfl _ _ ⟨rfl, rfl⟩) ?_
    cases hq27 : VT.sameL ks [e.ty, e.ty] with
    | false =>
      rw [hq27, Bool.false_and] at hR
      simp
      exact hb _ hR _
    | true =>
    rw [hq27, Bool.true_and] at hR
    obtain ⟨b0, b1, rfl⟩ := len2 (l := bs) (by have := sameL_len hq27; rw [hr.bl, this]; rfl)
    obtain ⟨hb0, hb0n⟩ := hr.bsP b0 (by simp)
    obtain ⟨hb1, hb1n⟩ := hr.bsP b1 (by simp)
    try rw [show bAt [b0, b1] 1 = b1 from rfl] at hR
    cases hq28 : (((bAt [b0, b1] 0).length : Int) == 0) with
    | false =>
      rw [hq28, Bool.false_and] at hR
      have hq0 : ((b0.length : Int) == 0) = false := hq28
      simp [ruleH, eCells, hop24, hq25, hq26, bsV, cs_eq e.ty, hq0]
      exact hb _ hR _
    | true =>
    rw [hq28, Bool.true_and] at hR
    have hq0 : ((b0.length : Int) == 0) = true := hq28
    simp [ruleH, eCells, hop24, hq25, hq26, bsV, cs_eq e.ty, hq0]
    rw [sm1, buildS_vt]
    refine aPureX_call (.bool (VT.sameL b1 [sm 1])) (fun J => rsame2_tok b1 [sm 1] hb1n (by omega) rfl rfl _ _ ⟨rfl, rfl⟩) ?_
    exact hb _ hR _
  rw [if_neg hop24] at hR
  simp [ruleH, eCells, nb hop19, nb hop20, nb hop21, nb hop22, nb hop23, nb hop24]
  exact hb _ hR _
theorem rule_j8 {c : Cor} {e : CEx} {vs ks : List VT} {bs : List (List VT)} (hr : RIn c e vs ks bs) (lf : Bool) (tv : Tok) {H : Heap} (hs : HSc H) (P1 P2 P3 : AB) (w : Int) (K : Kt) (hb : ∀ b, (decide (1 ≤ e.num) && (decide (e.num ≤ 8) && (lf && (VT.sameL vs [sm 1, sm 1] && (e.ty.kind == w))))) = b → ∀ J, Out H.length K (.bool b) (H ++ J)) :
    zq51_j8 (.ptr (H.length + 1) 0) (.sl (VT.css vs) tv) (.ptr (H.length + 5) 0) (.int .i64 e.ty.kind) (.bool lf) (.int .i64 w) (ruleH H c e P1 P2 P3) (Out H.length K) := by
  refine zq51_j8_ok fun hs1 => ?_
  unfold zq51_j8b
  have sm1 : AV.agg [.int .i64 1, .int .i64 0, .sl [] .none] = .agg (sm 1).cs := rfl
  generalize hR : (decide (1 ≤ e.num) && (decide (e.num ≤ 8) && (lf && (VT.sameL vs [sm 1, sm 1] && (e.ty.kind == w))))) = R at hb
  have hR := hR.symm
  have hop0 : True := trivial
  cases hq1 : (decide (1 ≤ e.num)) with
  | false =>
    rw [hq1, Bool.false_and] at hR
    have hn1 : ¬ 1 ≤ e.num := of_decide_eq_false hq1
    simp [ruleH, eCells, hop0, hn1]
    exact hb _ hR _
  | true =>
  rw [hq1, Bool.true_and] at hR
  have hn1 : 1 ≤ e.num := of_decide_eq_true hq1
  cases hq2 : (decide (e.num ≤ 8)) with
  | false =>
    rw [hq2, Bool.false_and] at hR
    have hn2 : ¬ e.num ≤ 8 := of_decide_eq_false hq2
    simp [ruleH, eCells, hop0, hn1, hn2]
    exact hb _ hR _
  | true =>
  rw [hq2, Bool.true_and] at hR
  have hn2 : e.num ≤ 8 := of_decide_eq_true hq2
  cases hq3 : lf with
  | false =>
    rw [hq3, Bool.false_and] at hR
    simp [ruleH, eCells, hop0, hn1, hn2, hq3]
    exact hb _ hR _
  | true =>
  rw [hq3, Bool.true_and] at hR
  simp [ruleH, eCells, hop0, hn1, hn2, hq3]
  rw [sm1, buildS_vt2]
  refine rsame2_tok vs [sm 1, sm 1] (fun v hv => (hr.vsP v hv).2) (by have := hr.vl; omega) rfl rfl _ _ ?_
  cases hq4 : VT.sameL vs [sm 1, sm 1] with
  | false =>
    rw [hq4, Bool.false_and] at hR
    simp
    exact hb _ hR _
  | true =>
  rw [hq4, Bool.true_and] at hR
  simp [ruleH, eCells, hop0, hn1, hn2, hq3]
  exact hb _ hR _
theorem rule_j7 {c : Cor} {e : CEx} {vs ks : List VT} {bs : List (List VT)} (hr : RIn c e vs ks bs) (nz lf : Bool) (tv tk tb : Tok) {H : Heap} (hs : HSc H) (P1 P2 P3 : AB) (K : Kt) (hb : ∀ b, refR7 c e nz lf vs ks bs = b → ∀ J, Out H.length K (.bool b) (H ++ J)) :
    zq51_j7 (.ptr (H.length + 1) 0) (.sl (VT.css vs) tv) (.sl (VT.css ks) tk) (.sl (bsV bs) tb) (.ptr (H.length + 5) 0) (.ptr (H.length + 7) 0) (.int .i64 e.ty.kind) (.bool nz) (.bool lf) (.int .i64 e.op) (.bool (e.op == 14)) (ruleH H c e P1 P2 P3) (Out H.length K) := by
  have hR := refR7.eq_1 c e nz lf vs ks bs
  generalize refR7 c e nz lf vs ks bs = R at hR hb
  have sm1 : AV.agg [.int .i64 1, .int .i64 0, .sl [] .none] = .agg (sm 1).cs := rfl
  have sm2 : AV.agg [.int .i64 2, .int .i64 0, .sl [] .none] = .agg (sm 2).cs := rfl
  have sm3 : AV.agg [.int .i64 3, .int .i64 0, .sl [] .none] = .agg (sm 3).cs := rfl
  refine zq51_j7_ok fun hs1 => ?_
  unfold zq51_j7b
  by_cases hop14 : e.op = 14
  · rw [if_pos hop14] at hR
    by_cases hn6 : 6 ≤ e.num
    · rw [if_pos hn6] at hR
      have := rule_j8 hr lf tv hs P1 P2 P3 2 K (fun b h J => hb b (hR.trans h) J)
      simp [ruleH, eCells, hop14, hn6] at this ⊢
      exact this
    · rw [if_neg hn6] at hR
      have := rule_j8 hr lf tv hs P1 P2 P3 1 K (fun b h J => hb b (hR.trans h) J)
      simp [ruleH, eCells, hop14, hn6] at this ⊢
      exact this
  rw [if_neg hop14] at hR
  by_cases hop15 : e.op = 15
  · rw [if_pos hop15] at hR
    cases hq1 : nz with
    | false =>
      rw [hq1, Bool.false_and] at hR
      simp [ruleH, eCells, hop15, nb hop14, hq1]
      exact hb _ hR _
    | true =>
    rw [hq1, Bool.true_and] at hR
    cases hq2 : lf with
    | false =>
      rw [hq2, Bool.false_and] at hR
      simp [ruleH, eCells, hop15, nb hop14, hq1, hq2]
      exact hb _ hR _
    | true =>
    rw [hq2, Bool.true_and] at hR
    cases hq3 : ((vs.length : Int) == 2) with
    | false =>
      rw [hq3, Bool.false_and] at hR
      simp [ruleH, eCells, hop15, nb hop14, hq1, hq2, hq3]
      exact hb _ hR _
    | true =>
    rw [hq3, Bool.true_and] at hR
    obtain ⟨a, b, rfl⟩ := len2 hq3
    obtain ⟨ha, han⟩ := hr.vsP a (by simp)
    obtain ⟨hb2, hbn⟩ := hr.vsP b (by simp)
    try rw [show hd1 [a, b] = b from rfl] at hR
    cases hq4 : (e.ty.kind == 7) with
    | false =>
      rw [hq4, Bool.false_and] at hR
      simp [ruleH, eCells, hop15, nb hop14, hq1, hq2, VT.css, cs_eq a, cs_eq b, hq4]
      exact hb _ hR _
    | true =>
    rw [hq4, Bool.true_and] at hR
    obtain ⟨el, hel, hk0⟩ := vt_kid hr.ety (.inl hq4)
    have heln := kid_nodes hel hr.en
    rw [hk0] at hR
    simp [ruleH, eCells, hop15, nb hop14, hq1, hq2, VT.css, cs_eq a, cs_eq b, hq4, hel, cs_eq el]
    rw [sm1, ← cs_eq el, ← cs_eq a, ← cs_eq b, buildS_vt2]
    refine aPureX_call (.bool (VT.sameL [a, b] [sm 1, el])) (fun J => rsame2_tok [a, b] [sm 1, el] (fun v hv => (hr.vsP v hv).2) (by simp) rfl rfl _ _ ⟨rfl, rfl⟩) ?_
    exact hb _ hR _
  rw [if_neg hop15] at hR
  by_cases hop16 : e.op = 16
  · rw [if_pos hop16] at hR
    cases hq6 : nz with
    | false =>
      rw [hq6, Bool.false_and] at hR
      simp [ruleH, eCells, hop16, nb hop14, nb hop15, hq6]
      exact hb _ hR _
    | true =>
    rw [hq6, Bool.true_and] at hR
    cases hq7 : lf with
    | false =>
      rw [hq7, Bool.false_and] at hR
      simp [ruleH, eCells, hop16, nb hop14, nb hop15, hq6, hq7]
      exact hb _ hR _
    | true =>
    rw [hq7, Bool.true_and] at hR
    cases hq8 : ((vs.length : Int) == 2) with
    | false =>
      rw [hq8, Bool.false_and] at hR
      simp [ruleH, eCells, hop16, nb hop14, nb hop15, hq6, hq7, hq8]
      exact hb _ hR _
    | true =>
    rw [hq8, Bool.true_and] at hR
    obtain ⟨a, b, rfl⟩ := len2 hq8
    obtain ⟨ha, han⟩ := hr.vsP a (by simp)
    obtain ⟨hb2, hbn⟩ := hr.vsP b (by simp)
    try rw [show hd1 [a, b] = b from rfl] at hR
    cases hq9 : ((hd0 [a, b]).kind == 7) with
    | false =>
      rw [hq9, Bool.false_and] at hR
      have hk : (a.kind == 7) = false := hq9
      simp [ruleH, eCells, hop16, nb hop14, nb hop15, hq6, hq7, VT.css, cs_eq a, cs_eq b, hk]
      exact hb _ hR _
    | true =>
    rw [hq9, Bool.true_and] at hR
    have hk : (a.kind == 7) = true := hq9
    obtain ⟨el, hel, hk0⟩ := vt_kid ha (.inl hk)
    have heln := kid_nodes hel han
    try rw [show kid0 (hd0 [a, b]) = el from hk0] at hR
    simp [ruleH, eCells, hop16, nb hop14, nb hop15, hq6, hq7, VT.css, cs_eq a, cs_eq b, hk, hel, cs_eq el]
    rw [sm1, ← cs_eq b, buildS_vt]
    refine aPureX_call (.bool (VT.sameL ([a, b].drop 1) [sm 1])) (fun J => rsame2_tok [b] [sm 1] (fun v hv => (hr.vsP v (by simp at hv; simp [hv])).2) (by simp) rfl rfl _ _ ⟨rfl, rfl⟩) ?_
    cases hq10 : VT.sameL ([a, b].drop 1) [sm 1] with
    | false =>
      rw [hq10, Bool.false_and] at hR
      simp
      exact hb _ hR _
    | true =>
    rw [hq10, Bool.true_and] at hR
    simp [ruleH, eCells, hop16, nb hop14, nb hop15, hq6, hq7, VT.css, cs_eq a, cs_eq b, hk, hel, cs_eq el]
    rw [← cs_eq el, ← cs_eq e.ty]
    refine aPureX_call (.bool (el.same e.ty)) (fun J => rEqual_spec (v := el) (u := e.ty) (by omega) _ _ ⟨rfl, rfl⟩) ?_
    exact hb _ hR _
  rw [if_neg hop16] at hR
  by_cases hop17 : e.op = 17
  · rw [if_pos hop17] at hR
    cases hq12 : nz with
    | false =>
      rw [hq12, Bool.false_and] at hR
      simp [ruleH, eCells, hop17, nb hop14, nb hop15, nb hop16, hq12]
      exact hb _ hR _
    | true =>
    rw [hq12, Bool.true_and] at hR
    cases hq13 : lf with
    | false =>
      rw [hq13, Bool.false_and] at hR
      simp [ruleH, eCells, hop17, nb hop14, nb hop15, nb hop16, hq12, hq13]
      exact hb _ hR _
    | true =>
    rw [hq13, Bool.true_and] at hR
    cases hq14 : ((vs.length : Int) == 3) with
    | false =>
      rw [hq14, Bool.false_and] at hR
      simp [ruleH, eCells, hop17, nb hop14, nb hop15, nb hop16, hq12, hq13, hq14]
      exact hb _ hR _
    | true =>
    rw [hq14, Bool.true_and] at hR
    obtain ⟨a, b, d, rfl⟩ := len3 hq14
    obtain ⟨ha, han⟩ := hr.vsP a (by simp)
    cases hq15 : ((hd0 [a, b, d]).kind == 7) with
    | false =>
      rw [hq15, Bool.false_and] at hR
      have hk : (a.kind == 7) = false := hq15
      simp [ruleH, eCells, hop17, nb hop14, nb hop15, nb hop16, hq12, hq13, VT.css, cs_eq a, cs_eq b, cs_eq d, hk]
      exact hb _ hR _
    | true =>
    rw [hq15, Bool.true_and] at hR
    have hk : (a.kind == 7) = true := hq15
    obtain ⟨el, hel, hk0⟩ := vt_kid ha (.inl hk)
    have heln := kid_nodes hel han
    try rw [show kid0 (hd0 [a, b, d]) = el from hk0] at hR
    simp [ruleH, eCells, hop17, nb hop14, nb hop15, nb hop16, hq12, hq13, VT.css, cs_eq a, cs_eq b, cs_eq d, hk, hel, cs_eq el]
    rw [sm1, ← cs_eq el, ← cs_eq b, ← cs_eq d, buildS_vt2]
    refine aPureX_call (.bool (VT.sameL ([a, b, d].drop 1) [sm 1, el])) (fun J => rsame2_tok [b, d] [sm 1, el] (fun v hv => (hr.vsP v (by simp at hv; rcases hv with rfl | rfl <;> simp)).2) (by simp) rfl rfl _ _ ⟨rfl, rfl⟩) ?_
    cases hq16 : VT.sameL ([a, b, d].drop 1) [sm 1, el] with
    | false =>
      rw [hq16, Bool.false_and] at hR
      simp
      exact hb _ hR _
    | true =>
    rw [hq16, Bool.true_and] at hR
    simp [ruleH, eCells, hop17, nb hop14, nb hop15, nb hop16, hq12, hq13, VT.css, cs_eq a, cs_eq b, cs_eq d, hk, hel, cs_eq el]
    rw [sm3, ← cs_eq e.ty]
    refine aPureX_call (.bool (e.ty.same (sm 3))) (fun J => rEqual_spec (v := e.ty) (u := sm 3) (by have := hr.en; omega) _ _ ⟨rfl, rfl⟩) ?_
    exact hb _ hR _
  rw [if_neg hop17] at hR
  by_cases hop18 : e.op = 18
  · rw [if_pos hop18] at hR
    cases hq18 : nz with
    | false =>
      rw [hq18, Bool.false_and] at hR
      simp [ruleH, eCells, hop18, nb hop14, nb hop15, nb hop16, nb hop17, hq18]
      exact hb _ hR _
    | true =>
    rw [hq18, Bool.true_and] at hR
    cases hq19 : lf with
    | false =>
      rw [hq19, Bool.false_and] at hR
      simp [ruleH, eCells, hop18, nb hop14, nb hop15, nb hop16, nb hop17, hq18, hq19]
      exact hb _ hR _
    | true =>
    rw [hq19, Bool.true_and] at hR
    cases hq20 : ((vs.length : Int) == 1) with
    | false =>
      rw [hq20, Bool.false_and] at hR
      simp [ruleH, eCells, hop18, nb hop14, nb hop15, nb hop16, nb hop17, hq18, hq19, hq20]
      exact hb _ hR _
    | true =>
    rw [hq20, Bool.true_and] at hR
    obtain ⟨a, rfl⟩ := len1 hq20
    obtain ⟨ha, han⟩ := hr.vsP a (by simp)
    cases hq21 : ((hd0 [a]).kind == 7) with
    | false =>
      rw [hq21, Bool.false_and] at hR
      have hk : (a.kind == 7) = false := hq21
      simp [ruleH, eCells, hop18, nb hop14, nb hop15, nb hop16, nb hop17, hq18, hq19, VT.css, cs_eq a, hk]
      exact hb _ hR _
    | true =>
    rw [hq21, Bool.true_and] at hR
    have hk : (a.kind == 7) = true := hq21
    obtain ⟨el, hel, hk0⟩ := vt_kid ha (.inl hk)
    have heln := kid_nodes hel han
    try rw [show kid0 (hd0 [a]) = el from hk0] at hR
    simp [ruleH, eCells, hop18, nb hop14, nb hop15, nb hop16, nb hop17, hq18, hq19, VT.css, cs_eq a, hk, hel, cs_eq el]
    exact hb _ hR _
  rw [if_neg hop18] at hR
  simp [ruleH, eCells, nb hop14, nb hop15, nb hop16, nb hop17, nb hop18]
  exact rule_j9 hr nz lf tv tk tb hs P1 P2 P3 K fun b h J => hb b (hR.trans h) J
end Go.Proofs.Ytkdmpbhbmmhijaa

