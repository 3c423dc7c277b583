import Derived.Test.YtkdmpbhbmmhijaaKC3
import Derived.Test.YtkdmpbhbmmhijaaKGU
set_option linter.unusedSimpArgs false
set_option linter.unusedVariables false
namespace Go.Proofs.Ytkdmpbhbmmhijaa
open Go Go.Abs
set_option maxRecDepth 8000
def hd0 (l : List VT) : VT := l.getD 0 (.mk 0 0 [])
def hd1 (l : List VT) : VT := l.getD 1 (.mk 0 0 [])
def bAt (bs : List (List VT)) (k : Nat) : List VT := bs.getD k []
def caseR (c : Cor) (t u : VT) (ks : List VT) (bs : List (List VT)) (k : Nat) : Bool := (match zbq c.data t k with | some fs => VT.sameL (bAt bs k) fs | none => false) && (ks.getD k (.mk 0 0 [])).same u
def zdc (c : Cor) (n : Int) : Cod := (c.codes[n.toNat]?).getD ⟨[], [], [], .mk 0 0 [], 0⟩
def refR9 (c : Cor) (e : CEx) (nz lf : Bool) (vs ks : List VT) (bs : List (List VT)) : Bool :=
 if e.op = 19 then nz && (lf && (((vs.length : Int) == 1) && ((e.ty.kind == 8) && (hd0 vs).same (zbY e.ty))))
 else if e.op = 20 then nz && (lf && (((vs.length : Int) == 1) && (((hd0 vs).kind == 8) && (zbY (hd0 vs)).same e.ty)))
 else if e.op = 21 then nz && (lf && (((vs.length : Int) == 2) && (((hd0 vs).kind == 8) && ((zbY (hd0 vs)).same (hd1 vs) && e.ty.same (sm 3)))))
 else if e.op = 22 then decide (-1000 ≤ e.num) && (decide (e.num ≤ 1000) && (lf && (((vs.length : Int) == 0) && (e.ty.kind == 3))))
 else if e.op = 23 then nz && (lf && VT.sameL vs [sm 1])
 else if e.op = 24 then nz && (((vs.length : Int) == 0) && (VT.sameL ks [e.ty, e.ty] && (((bAt bs 0).length : Int) == 0 && VT.sameL (bAt bs 1) [sm 1])))
 else false
def refR7 (c : Cor) (e : CEx) (nz lf : Bool) (vs ks : List VT) (bs : List (List VT)) : Bool :=
 if e.op = 14 then decide (1 ≤ e.num) && (decide (e.num ≤ 8) && (lf && (VT.sameL vs [sm 1, sm 1] && (e.ty.kind == if 6 ≤ e.num then 2 else 1))))
 else if e.op = 15 then nz && (lf && (((vs.length : Int) == 2) && ((e.ty.kind == 7) && VT.sameL vs [sm 1, zbY e.ty])))
 else if e.op = 16 then nz && (lf && (((vs.length : Int) == 2) && (((hd0 vs).kind == 7) && (VT.sameL (vs.drop 1) [sm 1] && (zbY (hd0 vs)).same e.ty))))
 else if e.op = 17 then nz && (lf && (((vs.length : Int) == 3) && (((hd0 vs).kind == 7) && (VT.sameL (vs.drop 1) [sm 1, zbY (hd0 vs)] && e.ty.same (sm 3)))))
 else if e.op = 18 then nz && (lf && (((vs.length : Int) == 1) && (((hd0 vs).kind == 7) && (e.ty.kind == 1))))
 else refR9 c e nz lf vs ks bs
def refR6 (c : Cor) (e : CEx) (nz lf : Bool) (vs ks : List VT) (bs : List (List VT)) : Bool :=
 if e.op = 9 then nz && (VT.sameL vs [sm 2] && (VT.sameL ks [e.ty, e.ty] && (((bAt bs 0).length : Int) == 0 && ((bAt bs 1).length : Int) == 0)))
 else if e.op = 10 then nz && (((vs.length : Int) == 1) && (((hd0 vs).kind == 5) && ((ks.length : Int) == zhb c (hd0 vs) && (List.range ks.length).all (caseR c (hd0 vs) e.ty ks bs))))
 else if e.op = 11 then lf && ((e.ty.kind == 9) && (VT.sameL vs (zan c (zdc c e.num).capt) && VT.sameL e.ty.kids (zan c (zdc c e.num).params ++ [(zdc c e.num).res])))
 else if e.op = 12 then decide (0 ≤ e.num) && (decide (e.num < c.codes.length) && (!(zdc c e.num).name.isEmpty && (lf && (VT.sameL vs (zan c (zdc c e.num).params) && e.ty.same (zdc c e.num).res))))
 else if e.op = 13 then nz && (lf && (decide (1 ≤ (vs.length : Int)) && (((hd0 vs).kind == 9) && VT.sameL (vs.drop 1 ++ [e.ty]) (hd0 vs).kids)))
 else refR7 c e nz lf vs ks bs
def refR5 (c : Cor) (e : CEx) (nz lf : Bool) (vs ks : List VT) (bs : List (List VT)) : Bool :=
 if e.op = 4 then nz && (lf && VT.sameL vs [e.ty])
 else if e.op = 5 then nz && (lf && ((e.ty.kind == 6) && VT.sameL vs e.ty.kids))
 else if e.op = 6 then decide (0 ≤ e.num) && (decide (e.num < 8) && (lf && (match zbq c.data e.ty e.num with | some fs => VT.sameL vs fs | none => false)))
 else if e.op = 7 then nz && (((vs.length : Int) == 0) && (((ks.length : Int) == 2) && (((bAt bs 0).length : Int) == 0 && (VT.sameL (bAt bs 1) [hd0 ks] && (hd1 ks).same e.ty))))
 else if e.op = 8 then nz && (((vs.length : Int) == 1) && (((hd0 vs).kind == 6) && (((ks.length : Int) == 1) && (VT.sameL (bAt bs 0) (hd0 vs).kids && (hd0 ks).same e.ty))))
 else refR6 c e nz lf vs ks bs
def refR4 (c : Cor) (e : CEx) (nz lf : Bool) (vs ks : List VT) (bs : List (List VT)) : Bool :=
 if e.op = 1 then nz && (lf && (((vs.length : Int) == 0) && (e.ty.kind == 3)))
 else if e.op = 2 then (e.num == 0 || e.num == 1) && (lf && (((vs.length : Int) == 0) && (e.ty.kind == 2)))
 else if e.op = 3 then decide (-1000000 ≤ e.num) && (decide (e.num ≤ 1000000) && (lf && (((vs.length : Int) == 0) && (e.ty.kind == 1))))
 else refR5 c e nz lf vs ks bs
def bsV (bs : List (List VT)) : List (List AV) := bs.map fun b => [.sl (VT.css b) .none]
def zam (e : CEx) : List AV := [.int .i64 e.op, .int .i64 e.num, .sl (ints e.vars) .none, .sl (rows e.binds) .none, .sl (ints e.kids) .none, .int .i64 e.ty.kind, .int .i64 e.ty.num, .sl (VT.css e.ty.kids) .none]
def zao (H : zaa) (c : Cor) (e : CEx) (P1 P2 P3 : AB) : zaa := H ++ [.cells [.sl (c.data.map Dat.cs) .none, .sl (c.codes.map Cod.cs) .none, .sl (VT.css c.vars) .none, .sl (c.exprs.map CEx.cs) .none], .cells (zam e), P1, P2, P3, .cells [.int .i64 1, .int .i64 0, .sl [] .none], .cells [.int .i64 2, .int .i64 0, .sl [] .none], .cells [.int .i64 3, .int .i64 0, .sl [] .none]]
structure RIn (c : Cor) (e : CEx) (vs ks : List VT) (bs : List (List VT)) : Prop where
 kcore : zaR c
 ety : zax c.data 0 e.ty = true
 en : e.ty.nodes ≤ 250
 vsP : ∀ v ∈ vs, zax c.data 0 v = true ∧ v.nodes ≤ 250
 vl : vs.length ≤ 40
 ksP : ∀ v ∈ ks, v.nodes ≤ 250
 kl : ks.length ≤ 10
 bl : bs.length = ks.length
 bsP : ∀ b ∈ bs, b.length ≤ 10 ∧ ∀ v ∈ b, v.nodes ≤ 250
 codes : ∀ f ∈ c.codes, inV c f.params ∧ inV c f.capt
 lam : e.op = 11 → ∃ n : Nat, e.num = n ∧ n < c.codes.length
theorem zeb (x ts : List VT) (hx : ∀ v ∈ x, v.nodes ≤ 250) (hl : x.length ≤ 1000) {es fs : List (List AV)} {t1 t2 : Tok} (he : es = VT.css x) (hf : fs = VT.css ts) (H : zaa) (K : AV → zaa → Prop) (hK : K (.bool (VT.sameL x ts)) H) : ACalls tP zdh [.sl es t1, .sl fs t2] H K := by
 subst he hf
 exact ACalls.wk (zNF x ts (fun v hv => by have := hx v hv; omega) (by omega) H K hK) ⟨.atom (.sl _ _), .atom (.sl _ _), trivial⟩
theorem zdw (x ts : List VT) (hx : ∀ v ∈ x, v.nodes ≤ 250) (hl : x.length ≤ 1000) {es fs : List (List AV)} {t1 t2 : Tok} (he : es = VT.css x) (hf : fs = VT.css ts) (H : zaa) (K : AV → zaa → Prop) (hK : K (.bool (VT.sameL x ts)) H) : ACalls tP zc1 [.sl es t1, .sl fs t2] H K := by
 refine zNz fun hs => ?_
 simp [zrX]
 exact zeb x ts hx hl he hf H K hK
theorem zdu {v u : VT} (hv : v.nodes ≤ 1000) (H : zaa) (K : AV → zaa → Prop) (hK : K (.bool (v.same u)) H) : ACalls tP zcr [.agg v.cs, .agg u.cs] H K := zzd _ v u (Nat.le_refl _) (by omega) H K hK
theorem zuf {c : Cor} (hc : zaR c) {t : VT} (ht : t.nodes ≤ 1000) (k : Int) (H : zaa) (K : AV → zaa → Prop) (hK : K (zco (zbq c.data t k)) H) : ACalls tP zi1 [.sl (c.data.map Dat.cs) .none, .agg t.cs, .int .i64 k] H K :=
 zNK c.data (by obtain ⟨⟨k1, _⟩, _⟩ := hc; omega) (ziN hc).1 (ziN hc).2 t ht k H K hK
theorem zcp {α : Type} {l : List α} (h : ((l.length : Int) == 1) = true) : ∃ a, l = [a] := by
 have : l.length = 1 := by have := eq_of_beq h; omega
 match l, this with
 | [a], _ => exact ⟨a, rfl⟩
theorem zcq {α : Type} {l : List α} (h : ((l.length : Int) == 2) = true) : ∃ a b, l = [a, b] := by
 have : l.length = 2 := by have := eq_of_beq h; omega
 match l, this with
 | [a, b], _ => exact ⟨a, b, rfl⟩
theorem ztE {α : Type} {l : List α} (h : ((l.length : Int) == 3) = true) : ∃ a b c, l = [a, b, c] := by
 have : l.length = 3 := by have := eq_of_beq h; omega
 match l, this with
 | [a, b, d], _ => exact ⟨a, b, d, rfl⟩
theorem zau (v : VT) : v.cs = [.int .i64 v.kind, .int .i64 v.num, .sl (VT.css v.kids) .none] := by cases v; rfl
theorem zfw {c : Cor} {t : VT} (h : zax c.data 0 t = true) (hk : (t.kind == 7) = true ∨ (t.kind == 8) = true) : ∃ a, t.kids = [a] ∧ zbY t = a := by
 obtain ⟨a, ha, _⟩ := zu4 h (by rcases hk with h | h <;> simp at h <;> simp [h])
 exact ⟨a, ha, by simp [zbY, ha]⟩
theorem zfi {t a : VT} (h : t.kids = [a]) (ht : t.nodes ≤ 250) : a.nodes ≤ 250 := by
 obtain ⟨k, n, ks⟩ := t
 simp only [VT.kids] at h
 subst h
 simp [VT.nodes, VT.nodesL] at ht
 omega
theorem sameL_len : ∀ {x y : List VT}, VT.sameL x y = true → x.length = y.length
 | [], [], _ => rfl
 | a :: x, b :: y, h => by
  rw [VT.sameL, Bool.and_eq_true] at h
  simp [sameL_len h.2]
 | [], _ :: _, h => by simp [VT.sameL] at h
 | _ :: _, [], h => by simp [VT.sameL] at h
theorem zFS {c : Cor} {e : CEx} {vs ks : List VT} {bs : List (List VT)} (hr : RIn c e vs ks bs) (nz lf : Bool) (tv tk tb : Tok) {H : zaa} (hs : HSc H) (P1 P2 P3 : AB) (K : AV → zaa → Prop) (hb : ∀ b, refR9 c e nz lf vs ks bs = b → ∀ J, Out H.length K (.bool b) (H ++ J)) :
  zru (.ptr (H.length + 1) 0) (.sl (VT.css vs) tv) (.sl (VT.css ks) tk) (.sl (bsV bs) tb) (.ptr (H.length + 5) 0) (.ptr (H.length + 7) 0) (.int .i64 e.ty.kind) (.bool nz) (.bool lf) (.int .i64 e.op) (.bool (e.op == 19)) (zao H c e P1 P2 P3) (Out H.length K) := by
 have hR := refR9.eq_1 c e nz lf vs ks bs
 generalize refR9 c e nz lf vs ks bs = R at hR hb
 have sm1 : AV.agg [.int .i64 1, .int .i64 0, .sl [] .none] = .agg (sm 1).cs := rfl
 have sm2 : AV.agg [.int .i64 2, .int .i64 0, .sl [] .none] = .agg (sm 2).cs := rfl
 have sm3 : AV.agg [.int .i64 3, .int .i64 0, .sl [] .none] = .agg (sm 3).cs := rfl
 refine zL0 fun hs1 => ?_
 unfold zrv
 by_cases hop19 : e.op = 19
 ·rw [if_pos hop19] at hR
  cases hq1 : nz with
  | false =>
   rw [hq1, Bool.false_and] at hR
   simp [zao, zam, hop19, hq1]
   exact hb _ hR _
  | true =>
  rw [hq1, Bool.true_and] at hR
  cases hq2 : lf with
  | false =>
   rw [hq2, Bool.false_and] at hR
   simp [zao, zam, hop19, hq1, hq2]
   exact hb _ hR _
  | true =>
  rw [hq2, Bool.true_and] at hR
  cases hq3 : ((vs.length : Int) == 1) with
  | false =>
   rw [hq3, Bool.false_and] at hR
   simp [zao, zam, hop19, hq1, hq2, hq3]
   exact hb _ hR _
  | true =>
  rw [hq3, Bool.true_and] at hR
  obtain ⟨a, rfl⟩ := zcp hq3
  obtain ⟨ha, han⟩ := hr.vsP a (by simp)
  cases hq4 : (e.ty.kind == 8) with
  | false =>
   rw [hq4, Bool.false_and] at hR
   simp [zao, zam, hop19, hq1, hq2, VT.css, zau a, hq4]
   exact hb _ hR _
  | true =>
  rw [hq4, Bool.true_and] at hR
  obtain ⟨el, hel, hk0⟩ := zfw hr.ety (.inr hq4)
  have heln := zfi hel hr.en
  rw [hk0] at hR
  simp [zao, zam, hop19, hq1, hq2, VT.css, zau a, hq4, hel, zau el]
  rw [← zau a, ← zau el]
  refine zaz (.bool (a.same el)) (fun J => zdu (v := a) (u := el) (by omega) _ _ ⟨rfl, rfl⟩) ?_
  exact hb _ hR _
 rw [if_neg hop19] at hR
 by_cases hop20 : e.op = 20
 ·rw [if_pos hop20] at hR
  cases hq6 : nz with
  | false =>
   rw [hq6, Bool.false_and] at hR
   simp [zao, zam, hop20, hq6]
   exact hb _ hR _
  | true =>
  rw [hq6, Bool.true_and] at hR
  cases hq7 : lf with
  | false =>
   rw [hq7, Bool.false_and] at hR
   simp [zao, zam, hop20, hq6, hq7]
   exact hb _ hR _
  | true =>
  rw [hq7, Bool.true_and] at hR
  cases hq8 : ((vs.length : Int) == 1) with
  | false =>
   rw [hq8, Bool.false_and] at hR
   simp [zao, zam, hop20, hq6, hq7, hq8]
   exact hb _ hR _
  | true =>
  rw [hq8, Bool.true_and] at hR
  obtain ⟨a, rfl⟩ := zcp hq8
  obtain ⟨ha, han⟩ := hr.vsP a (by simp)
  cases hq9 : ((hd0 [a]).kind == 8) with
  | false =>
   rw [hq9, Bool.false_and] at hR
   have hk : (a.kind == 8) = false := hq9
   simp [zao, zam, hop20, hq6, hq7, VT.css, zau a, hk]
   exact hb _ hR _
  | true =>
  rw [hq9, Bool.true_and] at hR
  have hk : (a.kind == 8) = true := hq9
  obtain ⟨el, hel, hk0⟩ := zfw ha (.inr hk)
  have heln := zfi hel han
  rw [show zbY (hd0 [a]) = el from hk0] at hR
  simp [zao, zam, hop20, hq6, hq7, VT.css, zau a, hk, hel, zau el]
  rw [← zau el, ← zau e.ty]
  refine zaz (.bool (el.same e.ty)) (fun J => zdu (v := el) (u := e.ty) (by omega) _ _ ⟨rfl, rfl⟩) ?_
  exact hb _ hR _
 rw [if_neg hop20] at hR
 by_cases hop21 : e.op = 21
 ·rw [if_pos hop21] at hR
  cases hq11 : nz with
  | false =>
   rw [hq11, Bool.false_and] at hR
   simp [zao, zam, hop21, hq11]
   exact hb _ hR _
  | true =>
  rw [hq11, Bool.true_and] at hR
  cases hq12 : lf with
  | false =>
   rw [hq12, Bool.false_and] at hR
   simp [zao, zam, hop21, hq11, hq12]
   exact hb _ hR _
  | true =>
  rw [hq12, Bool.true_and] at hR
  cases hq13 : ((vs.length : Int) == 2) with
  | false =>
   rw [hq13, Bool.false_and] at hR
   simp [zao, zam, hop21, hq11, hq12, hq13]
   exact hb _ hR _
  | true =>
  rw [hq13, Bool.true_and] at hR
  obtain ⟨a, b, rfl⟩ := zcq hq13
  obtain ⟨ha, han⟩ := hr.vsP a (by simp)
  obtain ⟨hb2, hbn⟩ := hr.vsP b (by simp)
  try rw [show hd1 [a, b] = b from rfl] at hR
  cases hq14 : ((hd0 [a, b]).kind == 8) with
  | false =>
   rw [hq14, Bool.false_and] at hR
   have hk : (a.kind == 8) = false := hq14
   simp [zao, zam, hop21, hq11, hq12, VT.css, zau a, zau b, hk]
   exact hb _ hR _
  | true =>
  rw [hq14, Bool.true_and] at hR
  have hk : (a.kind == 8) = true := hq14
  obtain ⟨el, hel, hk0⟩ := zfw ha (.inr hk)
  have heln := zfi hel han
  rw [show zbY (hd0 [a, b]) = el from hk0] at hR
  simp [zao, zam, hop21, hq11, hq12, VT.css, zau a, zau b, hk, hel, zau el]
  rw [← zau el, ← zau b]
  refine zaz (.bool (el.same b)) (fun J => zdu (v := el) (u := b) (by omega) _ _ ⟨rfl, rfl⟩) ?_
  cases hq15 : el.same b with
  | false =>
   rw [hq15, Bool.false_and] at hR
   simp
   exact hb _ hR _
  | true =>
  rw [hq15, Bool.true_and] at hR
  simp [zao, zam, hop21, hq11, hq12, VT.css, zau a, zau b, hk, hel, zau el]
  rw [sm3, ← zau e.ty]
  refine zaz (.bool (e.ty.same (sm 3))) (fun J => zdu (v := e.ty) (u := sm 3) (by have := hr.en; omega) _ _ ⟨rfl, rfl⟩) ?_
  exact hb _ hR _
 rw [if_neg hop21] at hR
 by_cases hop22 : e.op = 22
 ·rw [if_pos hop22] at hR
  cases hq17 : (decide (-1000 ≤ e.num)) with
  | false =>
   rw [hq17, Bool.false_and] at hR
   have hn1 : ¬ -1000 ≤ e.num := of_decide_eq_false hq17
   simp [zao, zam, hop22, hn1]
   exact hb _ hR _
  | true =>
  rw [hq17, Bool.true_and] at hR
  have hn1 : -1000 ≤ e.num := of_decide_eq_true hq17
  cases hq18 : (decide (e.num ≤ 1000)) with
  | false =>
   rw [hq18, Bool.false_and] at hR
   have hn2 : ¬ e.num ≤ 1000 := of_decide_eq_false hq18
   simp [zao, zam, hop22, hn1, hn2]
   exact hb _ hR _
  | true =>
  rw [hq18, Bool.true_and] at hR
  have hn2 : e.num ≤ 1000 := of_decide_eq_true hq18
  cases hq19 : lf with
  | false =>
   rw [hq19, Bool.false_and] at hR
   simp [zao, zam, hop22, hn1, hn2, hq19]
   exact hb _ hR _
  | true =>
  rw [hq19, Bool.true_and] at hR
  cases hq20 : ((vs.length : Int) == 0) with
  | false =>
   rw [hq20, Bool.false_and] at hR
   simp [zao, zam, hop22, hn1, hn2, hq19, hq20]
   exact hb _ hR _
  | true =>
  rw [hq20, Bool.true_and] at hR
  simp [zao, zam, hop22, hn1, hn2, hq19, hq20]
  exact hb _ hR _
 rw [if_neg hop22] at hR
 by_cases hop23 : e.op = 23
 ·rw [if_pos hop23] at hR
  cases hq22 : nz with
  | false =>
   rw [hq22, Bool.false_and] at hR
   simp [zao, zam, hop23, hq22]
   exact hb _ hR _
  | true =>
  rw [hq22, Bool.true_and] at hR
  cases hq23 : lf with
  | false =>
   rw [hq23, Bool.false_and] at hR
   simp [zao, zam, hop23, hq22, hq23]
   exact hb _ hR _
  | true =>
  rw [hq23, Bool.true_and] at hR
  simp [zao, zam, hop23, hq22, hq23]
  rw [sm1, zbJ]
  refine zdw vs [sm 1] (fun v hv => (hr.vsP v hv).2) (by have := hr.vl; omega) rfl rfl _ _ ?_
  exact hb _ hR _
 rw [if_neg hop23] at hR
 by_cases hop24 : e.op = 24
 ·rw [if_pos hop24] at hR
  cases hq25 : nz with
  | false =>
   rw [hq25, Bool.false_and] at hR
   simp [zao, zam, hop24, hq25]
   exact hb _ hR _
  | true =>
  rw [hq25, Bool.true_and] at hR
  cases hq26 : ((vs.length : Int) == 0) with
  | false =>
   rw [hq26, Bool.false_and] at hR
   simp [zao, zam, hop24, hq25, hq26]
   exact hb _ hR _
  | true =>
  rw [hq26, Bool.true_and] at hR
  simp [zao, zam, hop24, hq25, hq26]
  rw [← zau e.ty, zd4]
  refine zaz (.bool (VT.sameL ks [e.ty, e.ty])) (fun J => zdw ks [e.ty, e.ty] hr.ksP (by have := hr.kl; omega) rfl rfl _ _ ⟨rfl, rfl⟩) ?_
  cases hq27 : VT.sameL ks [e.ty, e.ty] with
  | false =>
   rw [hq27, Bool.false_and] at hR
   simp
   exact hb _ hR _
  | true =>
  rw [hq27, Bool.true_and] at hR
  obtain ⟨b0, b1, rfl⟩ := zcq (l := bs) (by have := sameL_len hq27; rw [hr.bl, this]; rfl)
  obtain ⟨hb0, hb0n⟩ := hr.bsP b0 (by simp)
  obtain ⟨hb1, hb1n⟩ := hr.bsP b1 (by simp)
  try rw [show bAt [b0, b1] 1 = b1 from rfl] at hR
  cases hq28 : (((bAt [b0, b1] 0).length : Int) == 0) with
  | false =>
   rw [hq28, Bool.false_and] at hR
   have hq0 : ((b0.length : Int) == 0) = false := hq28
   simp [zao, zam, hop24, hq25, hq26, bsV, zau e.ty, hq0]
   exact hb _ hR _
  | true =>
  rw [hq28, Bool.true_and] at hR
  have hq0 : ((b0.length : Int) == 0) = true := hq28
  simp [zao, zam, hop24, hq25, hq26, bsV, zau e.ty, hq0]
  rw [sm1, zbJ]
  refine zaz (.bool (VT.sameL b1 [sm 1])) (fun J => zdw b1 [sm 1] hb1n (by omega) rfl rfl _ _ ⟨rfl, rfl⟩) ?_
  exact hb _ hR _
 rw [if_neg hop24] at hR
 simp [zao, zam, nb hop19, nb hop20, nb hop21, nb hop22, nb hop23, nb hop24]
 exact hb _ hR _
theorem zul {c : Cor} {e : CEx} {vs ks : List VT} {bs : List (List VT)} (hr : RIn c e vs ks bs) (lf : Bool) (tv : Tok) {H : zaa} (hs : HSc H) (P1 P2 P3 : AB) (w : Int) (K : AV → zaa → Prop) (hb : ∀ b, (decide (1 ≤ e.num) && (decide (e.num ≤ 8) && (lf && (VT.sameL vs [sm 1, sm 1] && (e.ty.kind == w))))) = b → ∀ J, Out H.length K (.bool b) (H ++ J)) :
  zmC (.ptr (H.length + 1) 0) (.sl (VT.css vs) tv) (.ptr (H.length + 5) 0) (.int .i64 e.ty.kind) (.bool lf) (.int .i64 w) (zao H c e P1 P2 P3) (Out H.length K) := by
 refine zLY fun hs1 => ?_
 unfold zrt
 have sm1 : AV.agg [.int .i64 1, .int .i64 0, .sl [] .none] = .agg (sm 1).cs := rfl
 generalize hR : (decide (1 ≤ e.num) && (decide (e.num ≤ 8) && (lf && (VT.sameL vs [sm 1, sm 1] && (e.ty.kind == w))))) = R at hb
 have hR := hR.symm
 have hop0 : True := trivial
 cases hq1 : (decide (1 ≤ e.num)) with
 | false =>
  rw [hq1, Bool.false_and] at hR
  have hn1 : ¬ 1 ≤ e.num := of_decide_eq_false hq1
  simp [zao, zam, hop0, hn1]
  exact hb _ hR _
 | true =>
 rw [hq1, Bool.true_and] at hR
 have hn1 : 1 ≤ e.num := of_decide_eq_true hq1
 cases hq2 : (decide (e.num ≤ 8)) with
 | false =>
  rw [hq2, Bool.false_and] at hR
  have hn2 : ¬ e.num ≤ 8 := of_decide_eq_false hq2
  simp [zao, zam, hop0, hn1, hn2]
  exact hb _ hR _
 | true =>
 rw [hq2, Bool.true_and] at hR
 have hn2 : e.num ≤ 8 := of_decide_eq_true hq2
 cases hq3 : lf with
 | false =>
  rw [hq3, Bool.false_and] at hR
  simp [zao, zam, hop0, hn1, hn2, hq3]
  exact hb _ hR _
 | true =>
 rw [hq3, Bool.true_and] at hR
 simp [zao, zam, hop0, hn1, hn2, hq3]
 rw [sm1, zd4]
 refine zdw vs [sm 1, sm 1] (fun v hv => (hr.vsP v hv).2) (by have := hr.vl; omega) rfl rfl _ _ ?_
 cases hq4 : VT.sameL vs [sm 1, sm 1] with
 | false =>
  rw [hq4, Bool.false_and] at hR
  simp
  exact hb _ hR _
 | true =>
 rw [hq4, Bool.true_and] at hR
 simp [zao, zam, hop0, hn1, hn2, hq3]
 exact hb _ hR _
theorem zFR {c : Cor} {e : CEx} {vs ks : List VT} {bs : List (List VT)} (hr : RIn c e vs ks bs) (nz lf : Bool) (tv tk tb : Tok) {H : zaa} (hs : HSc H) (P1 P2 P3 : AB) (K : AV → zaa → Prop) (hb : ∀ b, refR7 c e nz lf vs ks bs = b → ∀ J, Out H.length K (.bool b) (H ++ J)) :
  zrr (.ptr (H.length + 1) 0) (.sl (VT.css vs) tv) (.sl (VT.css ks) tk) (.sl (bsV bs) tb) (.ptr (H.length + 5) 0) (.ptr (H.length + 7) 0) (.int .i64 e.ty.kind) (.bool nz) (.bool lf) (.int .i64 e.op) (.bool (e.op == 14)) (zao H c e P1 P2 P3) (Out H.length K) := by
 have hR := refR7.eq_1 c e nz lf vs ks bs
 generalize refR7 c e nz lf vs ks bs = R at hR hb
 have sm1 : AV.agg [.int .i64 1, .int .i64 0, .sl [] .none] = .agg (sm 1).cs := rfl
 have sm2 : AV.agg [.int .i64 2, .int .i64 0, .sl [] .none] = .agg (sm 2).cs := rfl
 have sm3 : AV.agg [.int .i64 3, .int .i64 0, .sl [] .none] = .agg (sm 3).cs := rfl
 refine zLW fun hs1 => ?_
 unfold zrs
 by_cases hop14 : e.op = 14
 ·rw [if_pos hop14] at hR
  by_cases hn6 : 6 ≤ e.num
  ·rw [if_pos hn6] at hR
   have := zul hr lf tv hs P1 P2 P3 2 K (fun b h J => hb b (hR.trans h) J)
   simp [zao, zam, hop14, hn6] at this ⊢
   exact this
  ·rw [if_neg hn6] at hR
   have := zul hr lf tv hs P1 P2 P3 1 K (fun b h J => hb b (hR.trans h) J)
   simp [zao, zam, hop14, hn6] at this ⊢
   exact this
 rw [if_neg hop14] at hR
 by_cases hop15 : e.op = 15
 ·rw [if_pos hop15] at hR
  cases hq1 : nz with
  | false =>
   rw [hq1, Bool.false_and] at hR
   simp [zao, zam, hop15, nb hop14, hq1]
   exact hb _ hR _
  | true =>
  rw [hq1, Bool.true_and] at hR
  cases hq2 : lf with
  | false =>
   rw [hq2, Bool.false_and] at hR
   simp [zao, zam, hop15, nb hop14, hq1, hq2]
   exact hb _ hR _
  | true =>
  rw [hq2, Bool.true_and] at hR
  cases hq3 : ((vs.length : Int) == 2) with
  | false =>
   rw [hq3, Bool.false_and] at hR
   simp [zao, zam, hop15, nb hop14, hq1, hq2, hq3]
   exact hb _ hR _
  | true =>
  rw [hq3, Bool.true_and] at hR
  obtain ⟨a, b, rfl⟩ := zcq hq3
  obtain ⟨ha, han⟩ := hr.vsP a (by simp)
  obtain ⟨hb2, hbn⟩ := hr.vsP b (by simp)
  try rw [show hd1 [a, b] = b from rfl] at hR
  cases hq4 : (e.ty.kind == 7) with
  | false =>
   rw [hq4, Bool.false_and] at hR
   simp [zao, zam, hop15, nb hop14, hq1, hq2, VT.css, zau a, zau b, hq4]
   exact hb _ hR _
  | true =>
  rw [hq4, Bool.true_and] at hR
  obtain ⟨el, hel, hk0⟩ := zfw hr.ety (.inl hq4)
  have heln := zfi hel hr.en
  rw [hk0] at hR
  simp [zao, zam, hop15, nb hop14, hq1, hq2, VT.css, zau a, zau b, hq4, hel, zau el]
  rw [sm1, ← zau el, ← zau a, ← zau b, zd4]
  refine zaz (.bool (VT.sameL [a, b] [sm 1, el])) (fun J => zdw [a, b] [sm 1, el] (fun v hv => (hr.vsP v hv).2) (by simp) rfl rfl _ _ ⟨rfl, rfl⟩) ?_
  exact hb _ hR _
 rw [if_neg hop15] at hR
 by_cases hop16 : e.op = 16
 ·rw [if_pos hop16] at hR
  cases hq6 : nz with
  | false =>
   rw [hq6, Bool.false_and] at hR
   simp [zao, zam, hop16, nb hop14, nb hop15, hq6]
   exact hb _ hR _
  | true =>
  rw [hq6, Bool.true_and] at hR
  cases hq7 : lf with
  | false =>
   rw [hq7, Bool.false_and] at hR
   simp [zao, zam, hop16, nb hop14, nb hop15, hq6, hq7]
   exact hb _ hR _
  | true =>
  rw [hq7, Bool.true_and] at hR
  cases hq8 : ((vs.length : Int) == 2) with
  | false =>
   rw [hq8, Bool.false_and] at hR
   simp [zao, zam, hop16, nb hop14, nb hop15, hq6, hq7, hq8]
   exact hb _ hR _
  | true =>
  rw [hq8, Bool.true_and] at hR
  obtain ⟨a, b, rfl⟩ := zcq hq8
  obtain ⟨ha, han⟩ := hr.vsP a (by simp)
  obtain ⟨hb2, hbn⟩ := hr.vsP b (by simp)
  try rw [show hd1 [a, b] = b from rfl] at hR
  cases hq9 : ((hd0 [a, b]).kind == 7) with
  | false =>
   rw [hq9, Bool.false_and] at hR
   have hk : (a.kind == 7) = false := hq9
   simp [zao, zam, hop16, nb hop14, nb hop15, hq6, hq7, VT.css, zau a, zau b, hk]
   exact hb _ hR _
  | true =>
  rw [hq9, Bool.true_and] at hR
  have hk : (a.kind == 7) = true := hq9
  obtain ⟨el, hel, hk0⟩ := zfw ha (.inl hk)
  have heln := zfi hel han
  try rw [show zbY (hd0 [a, b]) = el from hk0] at hR
  simp [zao, zam, hop16, nb hop14, nb hop15, hq6, hq7, VT.css, zau a, zau b, hk, hel, zau el]
  rw [sm1, ← zau b, zbJ]
  refine zaz (.bool (VT.sameL ([a, b].drop 1) [sm 1])) (fun J => zdw [b] [sm 1] (fun v hv => (hr.vsP v (by simp at hv; simp [hv])).2) (by simp) rfl rfl _ _ ⟨rfl, rfl⟩) ?_
  cases hq10 : VT.sameL ([a, b].drop 1) [sm 1] with
  | false =>
   rw [hq10, Bool.false_and] at hR
   simp
   exact hb _ hR _
  | true =>
  rw [hq10, Bool.true_and] at hR
  simp [zao, zam, hop16, nb hop14, nb hop15, hq6, hq7, VT.css, zau a, zau b, hk, hel, zau el]
  rw [← zau el, ← zau e.ty]
  refine zaz (.bool (el.same e.ty)) (fun J => zdu (v := el) (u := e.ty) (by omega) _ _ ⟨rfl, rfl⟩) ?_
  exact hb _ hR _
 rw [if_neg hop16] at hR
 by_cases hop17 : e.op = 17
 ·rw [if_pos hop17] at hR
  cases hq12 : nz with
  | false =>
   rw [hq12, Bool.false_and] at hR
   simp [zao, zam, hop17, nb hop14, nb hop15, nb hop16, hq12]
   exact hb _ hR _
  | true =>
  rw [hq12, Bool.true_and] at hR
  cases hq13 : lf with
  | false =>
   rw [hq13, Bool.false_and] at hR
   simp [zao, zam, hop17, nb hop14, nb hop15, nb hop16, hq12, hq13]
   exact hb _ hR _
  | true =>
  rw [hq13, Bool.true_and] at hR
  cases hq14 : ((vs.length : Int) == 3) with
  | false =>
   rw [hq14, Bool.false_and] at hR
   simp [zao, zam, hop17, nb hop14, nb hop15, nb hop16, hq12, hq13, hq14]
   exact hb _ hR _
  | true =>
  rw [hq14, Bool.true_and] at hR
  obtain ⟨a, b, d, rfl⟩ := ztE hq14
  obtain ⟨ha, han⟩ := hr.vsP a (by simp)
  cases hq15 : ((hd0 [a, b, d]).kind == 7) with
  | false =>
   rw [hq15, Bool.false_and] at hR
   have hk : (a.kind == 7) = false := hq15
   simp [zao, zam, hop17, nb hop14, nb hop15, nb hop16, hq12, hq13, VT.css, zau a, zau b, zau d, hk]
   exact hb _ hR _
  | true =>
  rw [hq15, Bool.true_and] at hR
  have hk : (a.kind == 7) = true := hq15
  obtain ⟨el, hel, hk0⟩ := zfw ha (.inl hk)
  have heln := zfi hel han
  try rw [show zbY (hd0 [a, b, d]) = el from hk0] at hR
  simp [zao, zam, hop17, nb hop14, nb hop15, nb hop16, hq12, hq13, VT.css, zau a, zau b, zau d, hk, hel, zau el]
  rw [sm1, ← zau el, ← zau b, ← zau d, zd4]
  refine zaz (.bool (VT.sameL ([a, b, d].drop 1) [sm 1, el])) (fun J => zdw [b, d] [sm 1, el] (fun v hv => (hr.vsP v (by simp at hv; rcases hv with rfl | rfl <;> simp)).2) (by simp) rfl rfl _ _ ⟨rfl, rfl⟩) ?_
  cases hq16 : VT.sameL ([a, b, d].drop 1) [sm 1, el] with
  | false =>
   rw [hq16, Bool.false_and] at hR
   simp
   exact hb _ hR _
  | true =>
  rw [hq16, Bool.true_and] at hR
  simp [zao, zam, hop17, nb hop14, nb hop15, nb hop16, hq12, hq13, VT.css, zau a, zau b, zau d, hk, hel, zau el]
  rw [sm3, ← zau e.ty]
  refine zaz (.bool (e.ty.same (sm 3))) (fun J => zdu (v := e.ty) (u := sm 3) (by have := hr.en; omega) _ _ ⟨rfl, rfl⟩) ?_
  exact hb _ hR _
 rw [if_neg hop17] at hR
 by_cases hop18 : e.op = 18
 ·rw [if_pos hop18] at hR
  cases hq18 : nz with
  | false =>
   rw [hq18, Bool.false_and] at hR
   simp [zao, zam, hop18, nb hop14, nb hop15, nb hop16, nb hop17, hq18]
   exact hb _ hR _
  | true =>
  rw [hq18, Bool.true_and] at hR
  cases hq19 : lf with
  | false =>
   rw [hq19, Bool.false_and] at hR
   simp [zao, zam, hop18, nb hop14, nb hop15, nb hop16, nb hop17, hq18, hq19]
   exact hb _ hR _
  | true =>
  rw [hq19, Bool.true_and] at hR
  cases hq20 : ((vs.length : Int) == 1) with
  | false =>
   rw [hq20, Bool.false_and] at hR
   simp [zao, zam, hop18, nb hop14, nb hop15, nb hop16, nb hop17, hq18, hq19, hq20]
   exact hb _ hR _
  | true =>
  rw [hq20, Bool.true_and] at hR
  obtain ⟨a, rfl⟩ := zcp hq20
  obtain ⟨ha, han⟩ := hr.vsP a (by simp)
  cases hq21 : ((hd0 [a]).kind == 7) with
  | false =>
   rw [hq21, Bool.false_and] at hR
   have hk : (a.kind == 7) = false := hq21
   simp [zao, zam, hop18, nb hop14, nb hop15, nb hop16, nb hop17, hq18, hq19, VT.css, zau a, hk]
   exact hb _ hR _
  | true =>
  rw [hq21, Bool.true_and] at hR
  have hk : (a.kind == 7) = true := hq21
  obtain ⟨el, hel, hk0⟩ := zfw ha (.inl hk)
  have heln := zfi hel han
  try rw [show zbY (hd0 [a]) = el from hk0] at hR
  simp [zao, zam, hop18, nb hop14, nb hop15, nb hop16, nb hop17, hq18, hq19, VT.css, zau a, hk, hel, zau el]
  exact hb _ hR _
 rw [if_neg hop18] at hR
 simp [zao, zam, nb hop14, nb hop15, nb hop16, nb hop17, nb hop18]
 exact zFS hr nz lf tv tk tb hs P1 P2 P3 K fun b h J => hb b (hR.trans h) J
def zaI (c : Cor) : List AV := [.sl (c.data.map Dat.cs) .none, .sl (c.codes.map Cod.cs) .none, .sl (VT.css c.vars) .none, .sl (c.exprs.map CEx.cs) .none]
def zbe (f : Cod) : List AV := [.str f.name, .sl (ints f.params) .none, .sl (ints f.capt) .none, .int .i64 f.res.kind, .int .i64 f.res.num, .sl (VT.css f.res.kids) .none, .int .i64 f.body]
theorem zhd (f : Cod) : f.cs = zbe f := by rw [Cod.cs, zau f.res]; rfl
theorem HSc.permN {B : zaa} {e s n : Nat} (h : HSc (B ++ [.perm e s n])) (m : Nat) : HSc (B ++ [.perm e s m]) := by
 intro x hx
 rcases List.mem_append.1 hx with h1 | h1
 ·have := h x (List.mem_append_left _ h1); simpa using this
 ·simp at h1; subst h1; rfl
theorem zjb {c : Cor} {B : zaa} {N i2 i : Nat} {l : List Int} (hN : N = B.length) (h2 : B[i2]? = some (.cells (zaI c))) (hr : inV c l) (hlt : i < l.length) (hl : l.length ≤ 1000) {K : AV → zaa → Prop}
  (hK : K (.sl (VT.css (zan c (l.take (i + 1)))) (.own N)) (B ++ [.perm zaD 3 (i + 1)])) :
  zaj 1 (.sl (ints l) .none) (.int .i64 i) fun a => zae false 1 a (B ++ [.perm zaD 3 i]) fun v => zaf 2 (.ptr i2 0) fun p => zae false 1 p (B ++ [.perm zaD 3 i]) fun s => zaj 3 s v fun q => zae true 3 q (B ++ [.perm zaD 3 i]) fun t =>
   zaA 3 [.int .i64 0, .int .i64 0, .snil] 1 [(0, t)] fun y => zaJ zaD 3 40 (.sl (VT.css (zan c (l.take i))) (.own N)) y (B ++ [.perm zaD 3 i]) K := by
 subst hN
 have hrr := hr _ (List.getElem_mem hlt)
 obtain ⟨e, he⟩ : ∃ e : Nat, l[i] = e := ⟨(l[i]).toNat, by omega⟩
 have hen : e < c.vars.length := by omega
 have hts := zuR (c := c) hlt
 rw [he, zfx hen] at hts
 have hg : ∀ J, (B ++ J)[i2]? = some (.cells (zaI c)) := fun J => zaT h2
 have hll : (zan c (l.take i)).length = i := by simp [zan]; omega
 simp [hlt, he, hg, zaI, hen, zau c.vars[e]]
 rw [← zau, zbJ]
 simp [zaJ, zbH, zbh, hll]
 refine ⟨⟨by omega, by omega⟩, ?_⟩
 rw [← hts]
 exact hK
theorem zEI {t v : VT} (h : v ∈ t.kids) : v.nodes ≤ t.nodes := by
 obtain ⟨k, n, ks⟩ := t
 exact zj3 (k := k) (n := n) v h
theorem zEH (t : VT) : t.kids.length ≤ t.nodes := by
 obtain ⟨k, n, ks⟩ := t
 have := VT.len_le ks
 simp [VT.kids, VT.nodes]
 omega
theorem zFT {c : Cor} {e : CEx} {vs ks : List VT} {bs : List (List VT)} (hr : RIn c e vs ks bs) (lf : Bool) (tv : Tok) {H B : zaa} (hB : ∃ J, B = H ++ J) (f : Cod) (hf : f ∈ c.codes) {i2 i3 i28 : Nat} (h2 : B[i2]? = some (.cells (zaI c))) (h3 : B[i3]? = some (.cells (zam e))) (h28 : B[i28]? = some (.cells (zbe f)))
  (K : AV → zaa → Prop) (hb : ∀ b, (lf && ((e.ty.kind == 9) && (VT.sameL vs (zan c f.capt) && VT.sameL e.ty.kids (zan c f.params ++ [f.res])))) = b → ∀ J, Out H.length K (.bool b) (H ++ J)) :
  zju (.ptr i2 0) (.ptr i3 0) (.sl (VT.css vs) tv) (.int .i64 e.ty.kind) (.bool lf) (.ptr i28 0) .snil .snil (.sl (ints f.params) .none) (.int .i64 f.params.length) (.int .i64 0) B (Out H.length K) := by
 generalize hR : (lf && ((e.ty.kind == 9) && (VT.sameL vs (zan c f.capt) && VT.sameL e.ty.kids (zan c f.params ++ [f.res])))) = R at hb
 have hR := hR.symm
 obtain ⟨J0, hB⟩ := hB
 have hbJ : ∀ b J, R = b → Out H.length K (.bool b) (B ++ J) := fun b J h => by rw [hB, List.append_assoc]; exact hb b h _
 obtain ⟨hcp, hcc⟩ := hr.codes _ hf
 obtain ⟨_, kp, kc, kr⟩ := hr.kcore.2.2.2.2.1 _ hf
 have hi2 := zbW h2
 have hi3 := zbW h3
 have hi28 := zbW h28
 have hvl := hr.vl
 have hen := hr.en
 have g2 : ∀ J, (B ++ J)[i2]? = some (.cells (zaI c)) := fun J => zaT h2
 have g3 : ∀ J, (B ++ J)[i3]? = some (.cells (zam e)) := fun J => zaT h3
 have g28 : ∀ J, (B ++ J)[i28]? = some (.cells (zbe f)) := fun J => zaT h28
 unfold zju
 refine ALoop.own 29 zaD 3 rfl ?_
 show zju (.ptr i2 0) (.ptr i3 0) (.sl (VT.css vs) tv) (.int .i64 e.ty.kind) (.bool lf) (.ptr i28 0) (.sl [] (.own B.length)) .snil (.sl (ints f.params) .none) (.int .i64 f.params.length) (.int .i64 0) (B ++ [.perm zaD 3 0]) (Out H.length K)
 refine zL6 (Inv := fun q t29 t426 H' => ∃ i : Nat, i ≤ f.params.length ∧ q = f.params.length - i ∧ t426 = .int .i64 i ∧ t29 = .sl (VT.css (zan c (f.params.take i))) (.own B.length) ∧ H' = B ++ [.perm zaD 3 i]) f.params.length ?_ ?_
 ·intro _; exact ⟨0, by omega, by omega, rfl, by simp [zan, VT.css], rfl⟩
 ·rintro q t29 t426 H' ⟨i, hi, rfl, rfl, rfl, rfl⟩ hsc hlen hsF Kb hKb
  by_cases hlt : i < f.params.length
  ·simp only [zmz, zg8, decide_eq_true (show (i : Int) < f.params.length by omega), zha]
   refine zjb rfl h2 hcp hlt (by omega) ?_
   simp
   rw [zar (by omega) (by omega)]
   refine hKb _ _ ⟨f.params.length - (i + 1), by omega, Back.here (by simp) ?_ ?_ ⟨_, _, rfl, i + 1, by omega, rfl, by simp, rfl, rfl⟩⟩
   ·exact HSc.permN hsc _
   ·have h9 := hsF
    simp [zgA, AV.sc, AV.scV, AV.scA, AV.scB] at h9 ⊢
    exact h9
  ·obtain rfl : i = f.params.length := by omega
   rw [List.take_length] at *
   simp [zmz, g28, zbe]
   unfold zmG
   refine ALoop.own 30 zaD 3 rfl ?_
   have hBl : (B ++ [AB.perm zaD 3 f.params.length]).length = B.length + 1 := by simp
   rw [hBl]
   show zmG (.ptr i2 0) (.ptr i3 0) (.sl (VT.css vs) tv) (.int .i64 e.ty.kind) (.bool lf) (.ptr i28 0) (.sl (VT.css (zan c f.params)) (.own B.length)) (.sl [] (.own (B.length + 1))) (.sl (ints f.capt) .none) (.int .i64 f.capt.length) (.int .i64 0) (B ++ [.perm zaD 3 f.params.length] ++ [.perm zaD 3 0]) (Out H.length K)
   refine zL7 (Inv := fun q t30 t442 H' => ∃ i : Nat, i ≤ f.capt.length ∧ q = f.capt.length - i ∧ t442 = .int .i64 i ∧ t30 = .sl (VT.css (zan c (f.capt.take i))) (.own (B.length + 1)) ∧ H' = B ++ [.perm zaD 3 f.params.length] ++ [.perm zaD 3 i]) f.capt.length ?_ ?_
   ·intro _; exact ⟨0, by omega, by omega, rfl, by simp [zan, VT.css], rfl⟩
   ·rintro q t30 t442 H' ⟨i, hi, rfl, rfl, rfl, rfl⟩ hsc1 hlen1 hsF1 Kb1 hKb1
    by_cases hlt : i < f.capt.length
    ·simp only [zh7, zg8, decide_eq_true (show (i : Int) < f.capt.length by omega), zha]
     refine zjb (by simp) (g2 _) hcc hlt (by omega) ?_
     simp only [zjK]
     rw [zar (by omega) (by omega)]
     refine hKb1 _ _ ⟨f.capt.length - (i + 1), by omega, Back.here (by simp) (HSc.permN hsc1 _) ?_ ⟨_, _, rfl, i + 1, by omega, rfl, by simp, rfl, rfl⟩⟩
     have h9 := hsF1
     simp [zgB, AV.sc, AV.scV, AV.scA, AV.scB] at h9 ⊢
     exact h9
    ·obtain rfl : i = f.capt.length := by omega
     rw [List.take_length] at *
     have hll : (zan c f.params).length = f.params.length := by simp [zan]
     cases hlf : lf with
     | false =>
      rw [hlf, Bool.false_and] at hR
      simp [zh7]
      exact hbJ _ _ hR
     | true =>
     rw [hlf, Bool.true_and] at hR
     cases hk9 : (e.ty.kind == 9) with
     | false =>
      rw [hk9, Bool.false_and] at hR
      simp [zh7, hk9]
      exact hbJ _ _ hR
     | true =>
     rw [hk9, Bool.true_and] at hR
     simp [zh7, hk9]
     refine zaz (.bool (VT.sameL vs (zan c f.capt))) (fun J => zeb vs _ (fun v hv => (hr.vsP v hv).2) (by omega) rfl rfl _ _ ⟨rfl, rfl⟩) ?_
     cases hsl : VT.sameL vs (zan c f.capt) with
     | false =>
      rw [hsl, Bool.false_and] at hR
      simp
      exact hbJ _ _ hR
     | true =>
     rw [hsl, Bool.true_and] at hR
     simp [g3, g28, zam, zbe]
     rw [← zau f.res, zbJ]
     simp [zaJ, zbH, zbh, hll]
     refine ⟨by omega, ?_⟩
     refine zaz (.bool (VT.sameL e.ty.kids (zan c f.params ++ [f.res]))) (fun J => zeb e.ty.kids (zan c f.params ++ [f.res]) (fun v hv => by have := zEI hv; omega) (by have := zEH e.ty; omega) rfl (by simp [VT.css_map]) _ _ ⟨rfl, rfl⟩) ?_
     exact hbJ _ _ hR
theorem zFN {c : Cor} {e : CEx} {vs ks : List VT} {bs : List (List VT)} (hr : RIn c e vs ks bs) (lf : Bool) (tv : Tok) {H B : zaa} (hB : ∃ J, B = H ++ J) (f : Cod) (hf : f ∈ c.codes) {i2 i3 i35 : Nat} (h2 : B[i2]? = some (.cells (zaI c))) (h3 : B[i3]? = some (.cells (zam e))) (h28 : B[i35]? = some (.cells (zbe f)))
  (K : AV → zaa → Prop) (hb : ∀ b, (lf && (VT.sameL vs (zan c f.params) && e.ty.same f.res)) = b → ∀ J, Out H.length K (.bool b) (H ++ J)) :
  zjv (.ptr i2 0) (.ptr i3 0) (.sl (VT.css vs) tv) (.bool lf) (.ptr i35 0) .snil (.sl (ints f.params) .none) (.int .i64 f.params.length) (.int .i64 0) B (Out H.length K) := by
 generalize hR : (lf && (VT.sameL vs (zan c f.params) && e.ty.same f.res)) = R at hb
 have hR := hR.symm
 obtain ⟨J0, hB⟩ := hB
 have hbJ : ∀ b J, R = b → Out H.length K (.bool b) (B ++ J) := fun b J h => by rw [hB, List.append_assoc]; exact hb b h _
 obtain ⟨hcp, hcc⟩ := hr.codes _ hf
 obtain ⟨_, kp, kc, kr⟩ := hr.kcore.2.2.2.2.1 _ hf
 have hvl := hr.vl
 have hen := hr.en
 have g2 : ∀ J, (B ++ J)[i2]? = some (.cells (zaI c)) := fun J => zaT h2
 have g3 : ∀ J, (B ++ J)[i3]? = some (.cells (zam e)) := fun J => zaT h3
 have g28 : ∀ J, (B ++ J)[i35]? = some (.cells (zbe f)) := fun J => zaT h28
 unfold zjv
 refine ALoop.own 36 zaD 3 rfl ?_
 show zjv (.ptr i2 0) (.ptr i3 0) (.sl (VT.css vs) tv) (.bool lf) (.ptr i35 0) (.sl [] (.own B.length)) (.sl (ints f.params) .none) (.int .i64 f.params.length) (.int .i64 0) (B ++ [.perm zaD 3 0]) (Out H.length K)
 refine zL8 (Inv := fun q t36 t508 H' => ∃ i : Nat, i ≤ f.params.length ∧ q = f.params.length - i ∧ t508 = .int .i64 i ∧ t36 = .sl (VT.css (zan c (f.params.take i))) (.own B.length) ∧ H' = B ++ [.perm zaD 3 i]) f.params.length ?_ ?_
 ·intro _; exact ⟨0, by omega, by omega, rfl, by simp [zan, VT.css], rfl⟩
 ·rintro q t36 t508 H' ⟨i, hi, rfl, rfl, rfl, rfl⟩ hsc hlen hsF Kb hKb
  by_cases hlt : i < f.params.length
  ·simp only [zjs, zg8, decide_eq_true (show (i : Int) < f.params.length by omega), zha]
   refine zjb rfl h2 hcp hlt (by omega) ?_
   simp
   rw [zar (by omega) (by omega)]
   refine hKb _ _ ⟨f.params.length - (i + 1), by omega, Back.here (by simp) (HSc.permN hsc _) ?_ ⟨_, _, rfl, i + 1, by omega, rfl, by simp, rfl, rfl⟩⟩
   have h9 := hsF
   simp [zgC, AV.sc, AV.scV, AV.scA, AV.scB] at h9 ⊢
   exact h9
  ·obtain rfl : i = f.params.length := by omega
   rw [List.take_length] at *
   cases hlf : lf with
   | false =>
    rw [hlf, Bool.false_and] at hR
    simp [zjs]
    exact hbJ _ _ hR
   | true =>
   rw [hlf, Bool.true_and] at hR
   simp [zjs]
   refine zeb vs _ (fun v hv => (hr.vsP v hv).2) (by omega) rfl rfl _ _ ?_
   cases hsl : VT.sameL vs (zan c f.params) with
   | false =>
    rw [hsl, Bool.false_and] at hR
    simp
    exact hbJ _ _ hR
   | true =>
   rw [hsl, Bool.true_and] at hR
   simp [g3, g28, zam, zbe]
   rw [← zau e.ty, ← zau f.res]
   refine zdu (by omega) _ _ ?_
   exact hbJ _ _ hR
@[simp] theorem zRW (bs : List (List VT)) : (bsV bs).length = bs.length := by simp [bsV]
@[simp] theorem zRV {bs : List (List VT)} {i : Nat} (h : i < (bsV bs).length) : (bsV bs)[i] = [.sl (VT.css (bs[i]'(by simpa using h))) .none] := by simp [bsV]
theorem zFQ {c : Cor} {e : CEx} {vs ks : List VT} {bs : List (List VT)} (hr : RIn c e vs ks bs) (nz lf : Bool) (tv tk tb : Tok) {H : zaa} (hs : HSc H) (P1 P2 P3 : AB) (K : AV → zaa → Prop) (hb : ∀ b, refR6 c e nz lf vs ks bs = b → ∀ J, Out H.length K (.bool b) (H ++ J)) :
  zrp (.ptr H.length 0) (.ptr (H.length + 1) 0) (.sl (VT.css vs) tv) (.sl (VT.css ks) tk) (.sl (bsV bs) tb) (.ptr (H.length + 5) 0) (.ptr (H.length + 6) 0) (.ptr (H.length + 7) 0) (.int .i64 e.ty.kind) (.bool nz) (.bool lf) (.int .i64 e.op) (.bool (e.op == 9)) (zao H c e P1 P2 P3) (Out H.length K) := by
 have hR := refR6.eq_1 c e nz lf vs ks bs
 generalize refR6 c e nz lf vs ks bs = R at hR hb
 have sm1 : AV.agg [.int .i64 1, .int .i64 0, .sl [] .none] = .agg (sm 1).cs := rfl
 have sm2 : AV.agg [.int .i64 2, .int .i64 0, .sl [] .none] = .agg (sm 2).cs := rfl
 have sm3 : AV.agg [.int .i64 3, .int .i64 0, .sl [] .none] = .agg (sm 3).cs := rfl
 refine zLU fun hs1 => ?_
 unfold zrq
 by_cases hop9 : e.op = 9
 ·rw [if_pos hop9] at hR
  cases hq1 : nz with
  | false =>
   rw [hq1, Bool.false_and] at hR
   simp [zao, zam, hop9, hq1]
   exact hb _ hR _
  | true =>
  rw [hq1, Bool.true_and] at hR
  simp [zao, zam, hop9, hq1]
  rw [sm2, zbJ]
  refine zdw vs [sm 2] (fun v hv => (hr.vsP v hv).2) (by have := hr.vl; omega) rfl rfl _ _ ?_
  cases hq2 : VT.sameL vs [sm 2] with
  | false =>
   rw [hq2, Bool.false_and] at hR
   simp
   exact hb _ hR _
  | true =>
  rw [hq2, Bool.true_and] at hR
  simp [zao, zam, hop9, hq1]
  rw [← zau e.ty, zd4]
  refine zdw ks [e.ty, e.ty] hr.ksP (by have := hr.kl; omega) rfl rfl _ _ ?_
  cases hq3 : VT.sameL ks [e.ty, e.ty] with
  | false =>
   rw [hq3, Bool.false_and] at hR
   simp
   exact hb _ hR _
  | true =>
  rw [hq3, Bool.true_and] at hR
  obtain ⟨b0, b1, rfl⟩ := zcq (l := bs) (by have := sameL_len hq3; rw [hr.bl, this]; rfl)
  obtain ⟨hb0, hb0n⟩ := hr.bsP b0 (by simp)
  obtain ⟨hb1, hb1n⟩ := hr.bsP b1 (by simp)
  try rw [show bAt [b0, b1] 1 = b1 from rfl] at hR
  cases hq4 : (((bAt [b0, b1] 0).length : Int) == 0) with
  | false =>
   rw [hq4, Bool.false_and] at hR
   have hq0 : ((b0.length : Int) == 0) = false := hq4
   simp [zao, zam, hop9, hq1, bsV, zau e.ty, hq0]
   exact hb _ hR _
  | true =>
  rw [hq4, Bool.true_and] at hR
  have hq0 : ((b0.length : Int) == 0) = true := hq4
  simp [zao, zam, hop9, hq1, bsV, zau e.ty, hq0]
  exact hb _ hR _
 rw [if_neg hop9] at hR
 by_cases hop10 : e.op = 10
 ·rw [if_pos hop10] at hR
  cases hn : nz with
  | false =>
   rw [hn, Bool.false_and] at hR
   simp [zao, zam, hop10]
   exact hb _ hR _
  | true =>
  rw [hn, Bool.true_and] at hR
  cases hl1 : ((vs.length : Int) == 1) with
  | false =>
   rw [hl1, Bool.false_and] at hR
   have hl1' : ((vs.length : Int) != 1) = true := by simp [bne, hl1]
   simp [zao, zam, hop10, hl1']
   exact hb _ hR _
  | true =>
  rw [hl1, Bool.true_and] at hR
  obtain ⟨a, rfl⟩ := zcp hl1
  obtain ⟨ha, han⟩ := hr.vsP a (by simp)
  rw [show hd0 [a] = a from rfl] at hR
  by_cases hk5 : a.kind ≠ 5
  ·rw [nb hk5, Bool.false_and] at hR
   simp [zao, zam, hop10, VT.css, zau a, nbt hk5]
   exact hb _ hR _
  have hk5' : a.kind = 5 := by simpa using hk5
  obtain ⟨d, hd, hdl⟩ := zu2 ha hk5'
  have hcl : zhb c a = (c.data[d]).cons.length := by simp [zhb, hd, hdl]
  rw [hcl, hk5'] at hR
  have ha5 : a.cs = [.int .i64 5, .int .i64 d, .sl (VT.css a.kids) .none] := by rw [zau, hk5', hd]
  by_cases hkn : ks.length ≠ (c.data[d]).cons.length
  ·rw [nb (show (ks.length : Int) ≠ (c.data[d]).cons.length by omega)] at hR
   have h4 : ((ks.length : Int) != (c.data[d]).cons.length) = true := nbt (by omega)
   simp [zao, zam, hop10, VT.css, ha5, hdl, Dat.cs, h4]
   exact hb _ hR _
  have hkn' : ks.length = (c.data[d]).cons.length := by omega
  have h4 : ((ks.length : Int) != (c.data[d]).cons.length) = false := by simp [hkn']
  have h5 : ((ks.length : Int) == (c.data[d]).cons.length) = true := by simp [hkn']
  rw [h5] at hR
  simp only [beq_self_eq_true, Bool.true_and] at hR
  simp [zao, zam, hop10, VT.css, ha5, hdl, Dat.cs, h4]
  have hbl := hr.bl
  have hkl := hr.kl
  refine zL5 (Inv := fun q t380 H' => ∃ i : Nat, i ≤ ks.length ∧ q = ks.length - i ∧ t380 = .int .i64 i ∧ (∀ k, k < i → caseR c a e.ty ks bs k = true) ∧ H' = zao H c e P1 P2 P3) ks.length ?_ ?_
  ·intro _; exact ⟨0, by omega, by omega, rfl, by omega, by simp [zao, zam, hop10]⟩
  ·rintro q t380 H' ⟨i, hi, rfl, rfl, hok, rfl⟩ hsc hlen hsF Kb hKb
   by_cases hlt : i < ks.length
   ·have hib : i < bs.length := by omega
    have hbg : bAt bs i = bs[i] := by rw [bAt, List.getD_eq_getElem?_getD, List.getElem?_eq_getElem hib]; rfl
    have hkg : ks.getD i (.mk 0 0 []) = ks[i] := by rw [List.getD_eq_getElem?_getD, List.getElem?_eq_getElem hlt]; rfl
    have hbad : caseR c a e.ty ks bs i = false → R = false := fun h => by
     rw [hR, List.all_eq_false]
     exact ⟨i, by simp; omega, by simp [h]⟩
    have hco := caseR.eq_1 c a e.ty ks bs i
    rw [hbg, hkg] at hco
    obtain ⟨hbi, hbin⟩ := hr.bsP _ (List.getElem_mem hib)
    have hki := hr.ksP _ (List.getElem_mem hlt)
    simp [zmy, hlt, zao, zam, ha5]
    rw [← ha5]
    refine zaz (zco (zbq c.data a i)) (fun J => zuf hr.kcore (by omega) _ _ _ ⟨rfl, rfl⟩) ?_
    cases hf : zbq c.data a i with
    | none =>
     rw [hf] at hco
     simp [zco]
     exact hb _ (hbad hco) _
    | some fs =>
     rw [hf] at hco
     simp only [] at hco
     simp [zco, hib]
     refine zaz (.bool (VT.sameL bs[i] fs)) (fun J => zeb _ _ hbin (by omega) rfl rfl _ _ ⟨rfl, rfl⟩) ?_
     cases hsl : VT.sameL bs[i] fs with
     | false =>
      rw [hsl, Bool.false_and] at hco
      simp
      exact hb _ (hbad hco) _
     | true =>
      rw [hsl, Bool.true_and] at hco
      simp [hlt, zau ks[i]]
      rw [← zau ks[i], ← zau e.ty]
      refine zaz (.bool ((ks[i]).same e.ty)) (fun J => zdu (by omega) _ _ ⟨rfl, rfl⟩) ?_
      cases hse : (ks[i]).same e.ty with
      | false =>
       rw [hse] at hco
       simp
       exact hb _ (hbad hco) _
      | true =>
       rw [hse] at hco
       simp
       rw [zar (by omega) (by omega)]
       refine hKb _ _ ⟨ks.length - (i + 1), by omega, Back.here (by simp) ?_ ?_ ⟨.int .i64 ((i : Int) + 1), by rw [ha5], i + 1, by omega, rfl, by simp, fun k hk => ?_, by rw [zao, zam, zau e.ty]⟩⟩
       ·rw [zau e.ty]; exact hsc
       ·have h9 := hsF
        rw [ha5]
        simp only [zao, List.length_append, List.length_cons, List.length_nil] at h9
        simp [zgz, AV.sc, AV.scV, AV.scA, AV.scB] at h9 ⊢
        exact h9
       ·by_cases hki : k = i
        ·subst hki; exact hco
        ·exact hok k (by omega)
   ·obtain rfl : i = ks.length := by omega
    have hall : (List.range ks.length).all (caseR c a e.ty ks bs) = true := by
     rw [List.all_eq_true]
     intro k hk
     exact hok k (by simpa using hk)
    rw [hall] at hR
    simp [zmy, zao]
    exact hb _ hR _
 rw [if_neg hop10] at hR

 by_cases hop11 : e.op = 11
 ·rw [if_pos hop11] at hR
  obtain ⟨n, hn, hnl⟩ := hr.lam hop11
  have hcd : zdc c e.num = c.codes[n] := by simp [zdc, hn, hnl]
  rw [hcd] at hR
  have hcat : (c.codes[n]).cs = zbe c.codes[n] := zhd _
  have := zFT hr lf tv (H := H) (B := zao H c e P1 P2 P3 ++ [.cells (zbe c.codes[n])]) ⟨_, by rw [zao, List.append_assoc]⟩ c.codes[n] (List.getElem_mem hnl) (i2 := H.length) (i3 := H.length + 1) (i28 := H.length + 8) (by simp [zao, zaI]) (by simp [zao]) (by simp [zao]) K (fun b h J => hb b (hR.trans h) J)
  simp [zao, zam, hop11, hn, hnl, hcat, zbe] at this ⊢
  exact this
 rw [if_neg hop11] at hR
 by_cases hop12 : e.op = 12
 ·rw [if_pos hop12] at hR
  by_cases hn0 : 0 ≤ e.num
  ·by_cases hnc : e.num < c.codes.length
   ·obtain ⟨n, hn⟩ : ∃ n : Nat, e.num = n := ⟨e.num.toNat, by omega⟩
    have hnl : n < c.codes.length := by omega
    have hcd : zdc c e.num = c.codes[n] := by simp [zdc, hn, hnl]
    rw [hcd] at hR
    simp only [hn0, hnc, decide_true, Bool.true_and] at hR
    have hcat : (c.codes[n]).cs = zbe c.codes[n] := zhd _
    have hn0' : ¬ (n : Int) < 0 := by omega
    have hnc' : ¬ c.codes.length ≤ n := by omega
    cases hnm : (c.codes[n]).name.isEmpty with
    | true =>
     rw [hnm] at hR
     simp only [Bool.not_true, Bool.false_and] at hR
     simp [zao, zam, hop12, hn, hnl, hcat, zbe, hn0', hnc', hnm]
     exact hb _ hR _
    | false =>
     rw [hnm] at hR
     simp only [Bool.not_false, Bool.true_and] at hR
     have := zFN hr lf tv (H := H) (B := zao H c e P1 P2 P3 ++ [.cells (zbe c.codes[n])]) ⟨_, by rw [zao, List.append_assoc]⟩ c.codes[n] (List.getElem_mem hnl) (i2 := H.length) (i3 := H.length + 1) (i35 := H.length + 8) (by simp [zao, zaI]) (by simp [zao]) (by simp [zao]) K (fun b h J => hb b (hR.trans h) J)
     simp [zao, zam, hop12, hn, hnl, hcat, zbe, hn0', hnc', hnm] at this ⊢
     exact this
   ·simp only [hn0, hnc, decide_true, decide_false, Bool.true_and, Bool.false_and] at hR
    have hn0' : ¬ e.num < 0 := by omega
    have hnc' : (c.codes.length : Int) ≤ e.num := by omega
    simp [zao, zam, hop12, hn0', hnc']
    exact hb _ hR _
  ·simp only [hn0, decide_false, Bool.false_and] at hR
   have hn0' : e.num < 0 := by omega
   simp [zao, zam, hop12, hn0']
   exact hb _ hR _
 rw [if_neg hop12] at hR
 by_cases hop13 : e.op = 13
 ·rw [if_pos hop13] at hR
  cases hn : nz with
  | false =>
   rw [hn, Bool.false_and] at hR
   simp [zao, zam, hop13]
   exact hb _ hR _
  | true =>
  rw [hn, Bool.true_and] at hR
  cases hl : lf with
  | false =>
   rw [hl, Bool.false_and] at hR
   simp [zao, zam, hop13]
   exact hb _ hR _
  | true =>
  rw [hl, Bool.true_and] at hR
  have hvn := hr.vl
  cases vs with
  | nil =>
   simp at hR
   simp [zao, zam, hop13, VT.css]
   exact hb _ hR _
  | cons a l =>
  have h1 : (1 : Int) ≤ ((a :: l).length : Nat) := by simp; omega
  have h1' : (1 : Int) ≤ (l.length : Int) + 1 := by omega
  simp only [h1, decide_true, Bool.true_and, show hd0 (a :: l) = a from rfl, List.drop_succ_cons, List.drop_zero] at hR
  obtain ⟨ha, han⟩ := hr.vsP a (by simp)
  cases hk9 : (a.kind == 9) with
  | false =>
   rw [hk9, Bool.false_and] at hR
   simp [zao, zam, hop13, VT.css, zau a, hk9, h1']
   exact hb _ hR _
  | true =>
  rw [hk9, Bool.true_and] at hR
  simp [zao, zam, hop13, VT.css, zau a, hk9, h1']
  simp [zaJ, zbH, zbh]
  have hcs3 : ∀ v ∈ VT.css l, v.length = 3 := by
   intro v hv
   rw [VT.css_map] at hv
   obtain ⟨w, _, rfl⟩ := List.mem_map.1 hv
   rw [zau]; rfl
  have htk : (VT.css l).take l.length = VT.css l := List.take_of_length_le (by simp)
  have hll : l.length + 1 ≤ 40 := by simpa using hvn
  rw [htk]
  refine ⟨hcs3, hcs3, ⟨by omega, by omega⟩, ?_⟩
  rw [← zau e.ty, zbJ]
  simp
  refine ⟨by omega, ?_⟩
  refine zaz (.bool (VT.sameL (l ++ [e.ty]) a.kids)) (fun J => zeb (l ++ [e.ty]) a.kids (fun v hv => by
   rcases List.mem_append.1 hv with h | h
   ·exact (hr.vsP v (by simp [h])).2
   ·simp at h; subst h; exact hr.en) (by simp; omega) (by simp [VT.css_map]) rfl _ _ ⟨rfl, rfl⟩) ?_
  exact hb _ hR _
 rw [if_neg hop13] at hR
 simp [zao, zam, nb hop9, nb hop10, nb hop11, nb hop12, nb hop13]
 exact zFR hr nz lf tv tk tb hs P1 P2 P3 K fun b h J => hb b (hR.trans h) J
theorem zFP {c : Cor} {e : CEx} {vs ks : List VT} {bs : List (List VT)} (hr : RIn c e vs ks bs) (nz lf : Bool) (tv tk tb : Tok) {H : zaa} (hs : HSc H) (P1 P2 P3 : AB) (K : AV → zaa → Prop) (hb : ∀ b, refR5 c e nz lf vs ks bs = b → ∀ J, Out H.length K (.bool b) (H ++ J)) :
  zrn (.ptr H.length 0) (.ptr (H.length + 1) 0) (.sl (VT.css vs) tv) (.sl (VT.css ks) tk) (.sl (bsV bs) tb) (.ptr (H.length + 5) 0) (.ptr (H.length + 6) 0) (.ptr (H.length + 7) 0) (.int .i64 e.ty.kind) (.bool nz) (.bool lf) (.int .i64 e.op) (.bool (e.op == 4)) (zao H c e P1 P2 P3) (Out H.length K) := by
 have hR := refR5.eq_1 c e nz lf vs ks bs
 generalize refR5 c e nz lf vs ks bs = R at hR hb
 have sm1 : AV.agg [.int .i64 1, .int .i64 0, .sl [] .none] = .agg (sm 1).cs := rfl
 have sm2 : AV.agg [.int .i64 2, .int .i64 0, .sl [] .none] = .agg (sm 2).cs := rfl
 have sm3 : AV.agg [.int .i64 3, .int .i64 0, .sl [] .none] = .agg (sm 3).cs := rfl
 refine zLS fun hs1 => ?_
 unfold zro
 by_cases hop4 : e.op = 4
 ·rw [if_pos hop4] at hR
  cases hq1 : nz with
  | false =>
   rw [hq1, Bool.false_and] at hR
   simp [zao, zam, hop4, hq1]
   exact hb _ hR _
  | true =>
  rw [hq1, Bool.true_and] at hR
  cases hq2 : lf with
  | false =>
   rw [hq2, Bool.false_and] at hR
   simp [zao, zam, hop4, hq1, hq2]
   exact hb _ hR _
  | true =>
  rw [hq2, Bool.true_and] at hR
  simp [zao, zam, hop4, hq1, hq2]
  rw [← zau e.ty, zbJ]
  refine zdw vs [e.ty] (fun v hv => (hr.vsP v hv).2) (by have := hr.vl; omega) rfl rfl _ _ ?_
  exact hb _ hR _
 rw [if_neg hop4] at hR
 by_cases hop5 : e.op = 5
 ·rw [if_pos hop5] at hR
  cases hq4 : nz with
  | false =>
   rw [hq4, Bool.false_and] at hR
   simp [zao, zam, hop5, hq4]
   exact hb _ hR _
  | true =>
  rw [hq4, Bool.true_and] at hR
  cases hq5 : lf with
  | false =>
   rw [hq5, Bool.false_and] at hR
   simp [zao, zam, hop5, hq4, hq5]
   exact hb _ hR _
  | true =>
  rw [hq5, Bool.true_and] at hR
  cases hq6 : (e.ty.kind == 6) with
  | false =>
   rw [hq6, Bool.false_and] at hR
   simp [zao, zam, hop5, hq4, hq5, hq6]
   exact hb _ hR _
  | true =>
  rw [hq6, Bool.true_and] at hR
  simp [zao, zam, hop5, hq4, hq5, hq6]
  refine zeb vs e.ty.kids (fun v hv => (hr.vsP v hv).2) (by have := hr.vl; omega) rfl rfl _ _ ?_
  exact hb _ hR _
 rw [if_neg hop5] at hR
 by_cases hop6 : e.op = 6
 ·rw [if_pos hop6] at hR
  by_cases hn0 : 0 ≤ e.num
  ·by_cases hnc : e.num < 8
   ·simp only [hn0, hnc, decide_true, Bool.true_and] at hR
    have hn0' : ¬ e.num < 0 := by omega
    have hnc' : ¬ 8 ≤ e.num := by omega
    simp [zao, zam, hop6, hn0', hnc']
    rw [← zau e.ty]
    refine zuf hr.kcore (by have := hr.en; omega) _ _ _ ?_
    cases hl : lf with
    | false =>
     rw [hl, Bool.false_and] at hR
     cases hf : zbq c.data e.ty e.num <;> simp [zco] <;> exact hb _ hR _
    | true =>
     rw [hl, Bool.true_and] at hR
     cases hf : zbq c.data e.ty e.num with
     | none =>
      rw [hf] at hR
      simp [zco]
      exact hb _ hR _
     | some fs =>
      rw [hf] at hR
      simp [zco]
      refine zeb vs fs (fun v hv => (hr.vsP v hv).2) (by have := hr.vl; omega) rfl rfl _ _ ?_
      exact hb _ hR _
   ·simp only [hn0, hnc, decide_true, decide_false, Bool.true_and, Bool.false_and] at hR
    have hn0' : ¬ e.num < 0 := by omega
    have hnc' : 8 ≤ e.num := by omega
    simp [zao, zam, hop6, hn0', hnc']
    exact hb _ hR _
  ·simp only [hn0, decide_false, Bool.false_and] at hR
   have hn0' : e.num < 0 := by omega
   simp [zao, zam, hop6, hn0']
   exact hb _ hR _
 rw [if_neg hop6] at hR
 by_cases hop7 : e.op = 7
 ·rw [if_pos hop7] at hR
  cases hq8 : nz with
  | false =>
   rw [hq8, Bool.false_and] at hR
   simp [zao, zam, hop7, hq8]
   exact hb _ hR _
  | true =>
  rw [hq8, Bool.true_and] at hR
  cases hq9 : ((vs.length : Int) == 0) with
  | false =>
   rw [hq9, Bool.false_and] at hR
   simp [zao, zam, hop7, hq8, hq9]
   exact hb _ hR _
  | true =>
  rw [hq9, Bool.true_and] at hR
  cases hq10 : ((ks.length : Int) == 2) with
  | false =>
   rw [hq10, Bool.false_and] at hR
   simp [zao, zam, hop7, hq8, hq9, hq10]
   exact hb _ hR _
  | true =>
  rw [hq10, Bool.true_and] at hR
  obtain ⟨b0, b1, rfl⟩ := zcq (l := bs) (by rw [hr.bl]; exact hq10)
  obtain ⟨ka, kb, rfl⟩ := zcq hq10
  obtain ⟨hb0, hb0n⟩ := hr.bsP b0 (by simp)
  obtain ⟨hb1, hb1n⟩ := hr.bsP b1 (by simp)
  have hkan := hr.ksP ka (by simp)
  have hkbn := hr.ksP kb (by simp)
  rw [show hd0 [ka, kb] = ka from rfl, show hd1 [ka, kb] = kb from rfl] at hR
  cases hq11 : (((bAt [b0, b1] 0).length : Int) == 0) with
  | false =>
   rw [hq11, Bool.false_and] at hR
   have hq0 : ((b0.length : Int) == 0) = false := hq11
   simp [zao, zam, hop7, hq8, hq9, VT.css, zau ka, zau kb, bsV, hq0]
   exact hb _ hR _
  | true =>
  rw [hq11, Bool.true_and] at hR
  have hq0 : ((b0.length : Int) == 0) = true := hq11
  try rw [show bAt [b0, b1] 1 = b1 from rfl] at hR
  simp [zao, zam, hop7, hq8, hq9, VT.css, zau ka, zau kb, bsV, hq0]
  rw [← zau ka, zbJ]
  refine zaz (.bool (VT.sameL b1 [ka])) (fun J => zdw b1 [ka] hb1n (by omega) rfl rfl _ _ ⟨rfl, rfl⟩) ?_
  cases hq12 : VT.sameL b1 [ka] with
  | false =>
   rw [hq12, Bool.false_and] at hR
   simp
   exact hb _ hR _
  | true =>
  rw [hq12, Bool.true_and] at hR
  simp [zao, zam, hop7, hq8, hq9, VT.css, zau ka, zau kb, bsV, hq0]
  rw [← zau kb, ← zau e.ty]
  refine zaz (.bool (kb.same e.ty)) (fun J => zdu (v := kb) (u := e.ty) (by omega) _ _ ⟨rfl, rfl⟩) ?_
  exact hb _ hR _
 rw [if_neg hop7] at hR
 by_cases hop8 : e.op = 8
 ·rw [if_pos hop8] at hR
  cases hq14 : nz with
  | false =>
   rw [hq14, Bool.false_and] at hR
   simp [zao, zam, hop8, hq14]
   exact hb _ hR _
  | true =>
  rw [hq14, Bool.true_and] at hR
  cases hq15 : ((vs.length : Int) == 1) with
  | false =>
   rw [hq15, Bool.false_and] at hR
   simp [zao, zam, hop8, hq14, hq15]
   exact hb _ hR _
  | true =>
  rw [hq15, Bool.true_and] at hR
  obtain ⟨a, rfl⟩ := zcp hq15
  obtain ⟨ha, han⟩ := hr.vsP a (by simp)
  cases hq16 : ((hd0 [a]).kind == 6) with
  | false =>
   rw [hq16, Bool.false_and] at hR
   have hk : (a.kind == 6) = false := hq16
   simp [zao, zam, hop8, hq14, VT.css, zau a, hk]
   exact hb _ hR _
  | true =>
  rw [hq16, Bool.true_and] at hR
  have hk : (a.kind == 6) = true := hq16
  rw [show hd0 [a] = a from rfl] at hR
  cases hq17 : ((ks.length : Int) == 1) with
  | false =>
   rw [hq17, Bool.false_and] at hR
   simp [zao, zam, hop8, hq14, VT.css, zau a, hk, hq17]
   exact hb _ hR _
  | true =>
  rw [hq17, Bool.true_and] at hR
  obtain ⟨b0, rfl⟩ := zcp (l := bs) (by rw [hr.bl]; exact hq17)
  obtain ⟨ka, rfl⟩ := zcp hq17
  obtain ⟨hb0, hb0n⟩ := hr.bsP b0 (by simp)
  have hkan := hr.ksP ka (by simp)
  rw [show hd0 [ka] = ka from rfl, show bAt [b0] 0 = b0 from rfl] at hR
  simp [zao, zam, hop8, hq14, VT.css, zau a, hk, VT.css, zau ka, bsV]
  refine zaz (.bool (VT.sameL b0 a.kids)) (fun J => zeb b0 a.kids hb0n (by omega) rfl rfl _ _ ⟨rfl, rfl⟩) ?_
  cases hq18 : VT.sameL b0 a.kids with
  | false =>
   rw [hq18, Bool.false_and] at hR
   simp
   exact hb _ hR _
  | true =>
  rw [hq18, Bool.true_and] at hR
  simp [zao, zam, hop8, hq14, VT.css, zau a, hk, VT.css, zau ka, bsV]
  rw [← zau ka, ← zau e.ty]
  refine zaz (.bool (ka.same e.ty)) (fun J => zdu (v := ka) (u := e.ty) (by omega) _ _ ⟨rfl, rfl⟩) ?_
  exact hb _ hR _
 rw [if_neg hop8] at hR
 simp [zao, zam, nb hop4, nb hop5, nb hop6, nb hop7, nb hop8]
 exact zFQ hr nz lf tv tk tb hs P1 P2 P3 K fun b h J => hb b (hR.trans h) J
theorem zFO {c : Cor} {e : CEx} {vs ks : List VT} {bs : List (List VT)} (hr : RIn c e vs ks bs) (nz lf : Bool) (tv tk tb : Tok) {H : zaa} (hs : HSc H) (P1 P2 P3 : AB) (K : AV → zaa → Prop) (hb : ∀ b, refR4 c e nz lf vs ks bs = b → ∀ J, Out H.length K (.bool b) (H ++ J)) :
  zrl (.ptr H.length 0) (.ptr (H.length + 1) 0) (.sl (VT.css vs) tv) (.sl (VT.css ks) tk) (.sl (bsV bs) tb) (.ptr (H.length + 5) 0) (.ptr (H.length + 6) 0) (.ptr (H.length + 7) 0) (.int .i64 e.ty.kind) (.bool nz) (.bool lf) (zao H c e P1 P2 P3) (Out H.length K) := by
 have hR := refR4.eq_1 c e nz lf vs ks bs
 generalize refR4 c e nz lf vs ks bs = R at hR hb
 have sm1 : AV.agg [.int .i64 1, .int .i64 0, .sl [] .none] = .agg (sm 1).cs := rfl
 have sm2 : AV.agg [.int .i64 2, .int .i64 0, .sl [] .none] = .agg (sm 2).cs := rfl
 have sm3 : AV.agg [.int .i64 3, .int .i64 0, .sl [] .none] = .agg (sm 3).cs := rfl
 refine zLQ fun hs1 => ?_
 unfold zrm
 by_cases hop1 : e.op = 1
 ·rw [if_pos hop1] at hR
  cases hq1 : nz with
  | false =>
   rw [hq1, Bool.false_and] at hR
   simp [zao, zam, hop1, hq1]
   exact hb _ hR _
  | true =>
  rw [hq1, Bool.true_and] at hR
  cases hq2 : lf with
  | false =>
   rw [hq2, Bool.false_and] at hR
   simp [zao, zam, hop1, hq1, hq2]
   exact hb _ hR _
  | true =>
  rw [hq2, Bool.true_and] at hR
  cases hq3 : ((vs.length : Int) == 0) with
  | false =>
   rw [hq3, Bool.false_and] at hR
   simp [zao, zam, hop1, hq1, hq2, hq3]
   exact hb _ hR _
  | true =>
  rw [hq3, Bool.true_and] at hR
  simp [zao, zam, hop1, hq1, hq2, hq3]
  exact hb _ hR _
 rw [if_neg hop1] at hR
 by_cases hop2 : e.op = 2
 ·rw [if_pos hop2] at hR
  have key : ∀ b : Bool, (e.num == 0 || e.num == 1) = b → R = (b && (lf && (((vs.length : Int) == 0) && (e.ty.kind == 2)))) := fun b h => by rw [hR, h]
  cases hn0 : (e.num == 0) with
  | true =>
   have hR := key true (by simp [hn0])
   rw [Bool.true_and] at hR
   cases hl : lf with
   | false => rw [hl, Bool.false_and] at hR; simp [zao, zam, hop2, hn0]; exact hb _ hR _
   | true =>
   rw [hl, Bool.true_and] at hR
   cases hv : ((vs.length : Int) == 0) with
   | false => rw [hv, Bool.false_and] at hR; simp [zao, zam, hop2, hn0, hv]; exact hb _ hR _
   | true => rw [hv, Bool.true_and] at hR; simp [zao, zam, hop2, hn0, hv]; exact hb _ hR _
  | false =>
  cases hn1 : (e.num == 1) with
  | true =>
   have hR := key true (by simp [hn1])
   rw [Bool.true_and] at hR
   cases hl : lf with
   | false => rw [hl, Bool.false_and] at hR; simp [zao, zam, hop2, hn0, hn1]; exact hb _ hR _
   | true =>
   rw [hl, Bool.true_and] at hR
   cases hv : ((vs.length : Int) == 0) with
   | false => rw [hv, Bool.false_and] at hR; simp [zao, zam, hop2, hn0, hn1, hv]; exact hb _ hR _
   | true => rw [hv, Bool.true_and] at hR; simp [zao, zam, hop2, hn0, hn1, hv]; exact hb _ hR _
  | false =>
   have hR := key false (by simp [hn0, hn1])
   rw [Bool.false_and] at hR
   simp [zao, zam, hop2, hn0, hn1]
   exact hb _ hR _
 rw [if_neg hop2] at hR
 by_cases hop3 : e.op = 3
 ·rw [if_pos hop3] at hR
  cases hq5 : (decide (-1000000 ≤ e.num)) with
  | false =>
   rw [hq5, Bool.false_and] at hR
   have hn1 : ¬ -1000000 ≤ e.num := of_decide_eq_false hq5
   simp [zao, zam, hop3, hn1]
   exact hb _ hR _
  | true =>
  rw [hq5, Bool.true_and] at hR
  have hn1 : -1000000 ≤ e.num := of_decide_eq_true hq5
  cases hq6 : (decide (e.num ≤ 1000000)) with
  | false =>
   rw [hq6, Bool.false_and] at hR
   have hn2 : ¬ e.num ≤ 1000000 := of_decide_eq_false hq6
   simp [zao, zam, hop3, hn1, hn2]
   exact hb _ hR _
  | true =>
  rw [hq6, Bool.true_and] at hR
  have hn2 : e.num ≤ 1000000 := of_decide_eq_true hq6
  cases hq7 : lf with
  | false =>
   rw [hq7, Bool.false_and] at hR
   simp [zao, zam, hop3, hn1, hn2, hq7]
   exact hb _ hR _
  | true =>
  rw [hq7, Bool.true_and] at hR
  cases hq8 : ((vs.length : Int) == 0) with
  | false =>
   rw [hq8, Bool.false_and] at hR
   simp [zao, zam, hop3, hn1, hn2, hq7, hq8]
   exact hb _ hR _
  | true =>
  rw [hq8, Bool.true_and] at hR
  simp [zao, zam, hop3, hn1, hn2, hq7, hq8]
  exact hb _ hR _
 rw [if_neg hop3] at hR
 simp [zao, zam, nb hop1, nb hop2, nb hop3]
 exact zFP hr nz lf tv tk tb hs P1 P2 P3 K fun b h J => hb b (hR.trans h) J
end Go.Proofs.Ytkdmpbhbmmhijaa
