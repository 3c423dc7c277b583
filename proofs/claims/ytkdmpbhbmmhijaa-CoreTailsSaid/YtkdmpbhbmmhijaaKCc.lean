/- The reference's rule: lists of types; CLam and CCall. -/
import Derived.Test.YtkdmpbhbmmhijaaKCb
namespace Go.Proofs.Ytkdmpbhbmmhijaa
open Go Go.Abs
set_option linter.unusedSimpArgs false
set_option linter.unusedVariables false
set_option maxRecDepth 8000
def cCells (c : Cor) : List AV := [.sl (c.data.map Dat.cs) .none, .sl (c.codes.map Cod.cs) .none, .sl (VT.css c.vars) .none, .sl (c.exprs.map CEx.cs) .none]
def fCells (f : Cod) : List AV := [.str f.name, .sl (ints f.params) .none, .sl (ints f.capt) .none, .int .i64 f.res.kind, .int .i64 f.res.num, .sl (VT.css f.res.kids) .none, .int .i64 f.body]
theorem fCells_eq (f : Cod) : f.cs = fCells f := by rw [Cod.cs, cs_eq f.res]; rfl
theorem HSc.permN {B : Heap} {e s n : Nat} (h : HSc (B ++ [.perm e s n])) (m : Nat) : HSc (B ++ [.perm e s m]) := by
  intro x hx
  rcases List.mem_append.1 hx with h1 | h1
  · have := h x (List.mem_append_left _ h1); simpa using this
  · simp at h1; subst h1; rfl
theorem ty_step {c : Cor} {B : Heap} {N i2 i : Nat} {l : List Int} (hN : N = B.length) (h2 : B[i2]? = some (.cells (cCells c))) (hr : inV c l) (hlt : i < l.length) (hl : l.length ≤ 1000) {K : Kt}
    (hK : K (.sl (VT.css (typesOf c (l.take (i + 1)))) (.own N)) (B ++ [.perm e_api_Type 3 (i + 1)])) :
    aIdxA 1 (.sl (ints l) .none) (.int .i64 i) fun a => aLoad false 1 a (B ++ [.perm e_api_Type 3 i]) fun v => aFld 2 (.ptr i2 0) fun p => aLoad false 1 p (B ++ [.perm e_api_Type 3 i]) fun s => aIdxA 3 s v fun q => aLoad true 3 q (B ++ [.perm e_api_Type 3 i]) fun t =>
      aBuildS 3 [.int .i64 0, .int .i64 0, .snil] 1 [(0, t)] fun y => aAppend e_api_Type 3 40 (.sl (VT.css (typesOf c (l.take i))) (.own N)) y (B ++ [.perm e_api_Type 3 i]) K := by
  subst hN
  have hrr := hr _ (List.getElem_mem hlt)
  obtain ⟨e, he⟩ : ∃ e : Nat, l[i] = e := ⟨(l[i]).toNat, by omega⟩
  have hen : e < c.vars.length := by omega
  have hts := typesOf_take_succ (c := c) hlt
  rw [he, vty_eq hen] at hts
  have hg : ∀ J, (B ++ J)[i2]? = some (.cells (cCells c)) := fun J => app_get h2
  have hll : (typesOf c (l.take i)).length = i := by simp [typesOf]; omega
  simp [hlt, he, hg, cCells, hen, cs_eq c.vars[e]]
  rw [← cs_eq, buildS_vt]
  simp [aAppend, aSrc, aAppTo, hll]
  refine ⟨⟨by omega, by omega⟩, ?_⟩
  rw [← hts]
  exact hK
theorem kidsN {t v : VT} (h : v ∈ t.kids) : v.nodes ≤ t.nodes := by
  obtain ⟨k, n, ks⟩ := t
  exact kids_le (k := k) (n := n) v h
theorem kidsL (t : VT) : t.kids.length ≤ t.nodes := by
  obtain ⟨k, n, ks⟩ := t
  have := VT.len_le ks
  simp [VT.kids, VT.nodes]
  omega
theorem rule_lam {c : Cor} {e : CEx} {vs ks : List VT} {bs : List (List VT)} (hr : RIn c e vs ks bs) (lf : Bool) (tv : Tok) {H B : Heap} (hB : ∃ J, B = H ++ J) (f : Cod) (hf : f ∈ c.codes) {i2 i3 i28 : Nat} (h2 : B[i2]? = some (.cells (cCells c))) (h3 : B[i3]? = some (.cells (eCells e))) (h28 : B[i28]? = some (.cells (fCells f)))
    (K : Kt) (hb : ∀ b, (lf && ((e.ty.kind == 9) && (VT.sameL vs (typesOf c f.capt) && VT.sameL e.ty.kids (typesOf c f.params ++ [f.res])))) = b → ∀ J, Out H.length K (.bool b) (H ++ J)) :
    zq51_l67 (.ptr i2 0) (.ptr i3 0) (.sl (VT.css vs) tv) (.int .i64 e.ty.kind) (.bool lf) (.ptr i28 0) .snil .snil (.sl (ints f.params) .none) (.int .i64 f.params.length) (.int .i64 0) B (Out H.length K) := by
  generalize hR : (lf && ((e.ty.kind == 9) && (VT.sameL vs (typesOf c f.capt) && VT.sameL e.ty.kids (typesOf c f.params ++ [f.res])))) = R at hb
  have hR := hR.symm
  obtain ⟨J0, hB⟩ := hB
  have hbJ : ∀ b J, R = b → Out H.length K (.bool b) (B ++ J) := fun b J h => by rw [hB, List.append_assoc]; exact hb b h _
  obtain ⟨hcp, hcc⟩ := hr.codes _ hf
  obtain ⟨_, kp, kc, kr⟩ := hr.kcore.2.2.2.2.1 _ hf
  have hi2 := lt_get h2
  have hi3 := lt_get h3
  have hi28 := lt_get h28
  have hvl := hr.vl
  have hen := hr.en
  have g2 : ∀ J, (B ++ J)[i2]? = some (.cells (cCells c)) := fun J => app_get h2
  have g3 : ∀ J, (B ++ J)[i3]? = some (.cells (eCells e)) := fun J => app_get h3
  have g28 : ∀ J, (B ++ J)[i28]? = some (.cells (fCells f)) := fun J => app_get h28
  unfold zq51_l67
  refine ALoop.own 29 e_api_Type 3 rfl ?_
  show zq51_l67 (.ptr i2 0) (.ptr i3 0) (.sl (VT.css vs) tv) (.int .i64 e.ty.kind) (.bool lf) (.ptr i28 0) (.sl [] (.own B.length)) .snil (.sl (ints f.params) .none) (.int .i64 f.params.length) (.int .i64 0) (B ++ [.perm e_api_Type 3 0]) (Out H.length K)
  refine zq51_loop67 (Inv := fun q t29 t426 H' => ∃ i : Nat, i ≤ f.params.length ∧ q = f.params.length - i ∧ t426 = .int .i64 i ∧ t29 = .sl (VT.css (typesOf c (f.params.take i))) (.own B.length) ∧ H' = B ++ [.perm e_api_Type 3 i]) f.params.length ?_ ?_
  · intro _; exact ⟨0, by omega, by omega, rfl, by simp [typesOf, VT.css], rfl⟩
  · rintro q t29 t426 H' ⟨i, hi, rfl, rfl, rfl, rfl⟩ hsc hlen hsF Kb hKb
    by_cases hlt : i < f.params.length
    · simp only [zq51_b67, aLss_int, decide_eq_true (show (i : Int) < f.params.length by omega), aTest_t]
      refine ty_step rfl h2 hcp hlt (by omega) ?_
      simp
      rw [wrap_in (by omega) (by omega)]
      refine hKb _ _ ⟨f.params.length - (i + 1), by omega, Back.here (by simp) ?_ ?_ ⟨_, _, rfl, i + 1, by omega, rfl, by simp, rfl, rfl⟩⟩
      · exact HSc.permN hsc _
      · have h9 := hsF
        simp [zq51_fr67, AV.sc, AV.scV, AV.scA, AV.scB] at h9 ⊢
        exact h9
    · obtain rfl : i = f.params.length := by omega
      rw [List.take_length] at *
      simp [zq51_b67, g28, fCells]
      unfold zq51_l72
      refine ALoop.own 30 e_api_Type 3 rfl ?_
      have hBl : (B ++ [AB.perm e_api_Type 3 f.params.length]).length = B.length + 1 := by simp
      rw [hBl]
      show zq51_l72 (.ptr i2 0) (.ptr i3 0) (.sl (VT.css vs) tv) (.int .i64 e.ty.kind) (.bool lf) (.ptr i28 0) (.sl (VT.css (typesOf c f.params)) (.own B.length)) (.sl [] (.own (B.length + 1))) (.sl (ints f.capt) .none) (.int .i64 f.capt.length) (.int .i64 0) (B ++ [.perm e_api_Type 3 f.params.length] ++ [.perm e_api_Type 3 0]) (Out H.length K)
      refine zq51_loop72 (Inv := fun q t30 t442 H' => ∃ i : Nat, i ≤ f.capt.length ∧ q = f.capt.length - i ∧ t442 = .int .i64 i ∧ t30 = .sl (VT.css (typesOf c (f.capt.take i))) (.own (B.length + 1)) ∧ H' = B ++ [.perm e_api_Type 3 f.params.length] ++ [.perm e_api_Type 3 i]) f.capt.length ?_ ?_
      · intro _; exact ⟨0, by omega, by omega, rfl, by simp [typesOf, VT.css], rfl⟩
      · rintro q t30 t442 H' ⟨i, hi, rfl, rfl, rfl, rfl⟩ hsc1 hlen1 hsF1 Kb1 hKb1
        by_cases hlt : i < f.capt.length
        · simp only [zq51_b72, aLss_int, decide_eq_true (show (i : Int) < f.capt.length by omega), aTest_t]
          refine ty_step (by simp) (g2 _) hcc hlt (by omega) ?_
          simp only [aAdd_int]
          rw [wrap_in (by omega) (by omega)]
          refine hKb1 _ _ ⟨f.capt.length - (i + 1), by omega, Back.here (by simp) (HSc.permN hsc1 _) ?_ ⟨_, _, rfl, i + 1, by omega, rfl, by simp, rfl, rfl⟩⟩
          have h9 := hsF1
          simp [zq51_fr72, AV.sc, AV.scV, AV.scA, AV.scB] at h9 ⊢
          exact h9
        · obtain rfl : i = f.capt.length := by omega
          rw [List.take_length] at *
          have hll : (typesOf c f.params).length = f.params.length := by simp [typesOf]
          cases hlf : lf with
          | false =>
            rw [hlf, Bool.false_and] at hR
            simp [zq51_b72]
            exact hbJ _ _ hR
          | true =>
          rw [hlf, Bool.true_and] at hR
          cases hk9 : (e.ty.kind == 9) with
          | false =>
            rw [hk9, Bool.false_and] at hR
            simp [zq51_b72, hk9]
            exact hbJ _ _ hR
          | true =>
          rw [hk9, Bool.true_and] at hR
          simp [zq51_b72, hk9]
          refine aPureX_call (.bool (VT.sameL vs (typesOf c f.capt))) (fun J => rsame_tok vs _ (fun v hv => (hr.vsP v hv).2) (by omega) rfl rfl _ _ ⟨rfl, rfl⟩) ?_
          cases hsl : VT.sameL vs (typesOf c f.capt) with
          | false =>
            rw [hsl, Bool.false_and] at hR
            simp
            exact hbJ _ _ hR
          | true =>
          rw [hsl, Bool.true_and] at hR
          simp [g3, g28, eCells, fCells]
          rw [← cs_eq f.res, buildS_vt]
          simp [aAppend, aSrc, aAppTo, hll]
          refine ⟨by omega, ?_⟩
          refine aPureX_call (.bool (VT.sameL e.ty.kids (typesOf c f.params ++ [f.res]))) (fun J => rsame_tok e.ty.kids (typesOf c f.params ++ [f.res]) (fun v hv => by have := kidsN hv; omega) (by have := kidsL e.ty; omega) rfl (by simp [VT.css_map]) _ _ ⟨rfl, rfl⟩) ?_
          exact hbJ _ _ hR
theorem rule_call {c : Cor} {e : CEx} {vs ks : List VT} {bs : List (List VT)} (hr : RIn c e vs ks bs) (lf : Bool) (tv : Tok) {H B : Heap} (hB : ∃ J, B = H ++ J) (f : Cod) (hf : f ∈ c.codes) {i2 i3 i35 : Nat} (h2 : B[i2]? = some (.cells (cCells c))) (h3 : B[i3]? = some (.cells (eCells e))) (h28 : B[i35]? = some (.cells (fCells f)))
    (K : Kt) (hb : ∀ b, (lf && (VT.sameL vs (typesOf c f.params) && e.ty.same f.res)) = b → ∀ J, Out H.length K (.bool b) (H ++ J)) :
    zq51_l83 (.ptr i2 0) (.ptr i3 0) (.sl (VT.css vs) tv) (.bool lf) (.ptr i35 0) .snil (.sl (ints f.params) .none) (.int .i64 f.params.length) (.int .i64 0) B (Out H.length K) := by
  generalize hR : (lf && (VT.sameL vs (typesOf c f.params) && e.ty.same f.res)) = R at hb
  have hR := hR.symm
  obtain ⟨J0, hB⟩ := hB
  have hbJ : ∀ b J, R = b → Out H.length K (.bool b) (B ++ J) := fun b J h => by rw [hB, List.append_assoc]; exact hb b h _
  obtain ⟨hcp, hcc⟩ := hr.codes _ hf
  obtain ⟨_, kp, kc, kr⟩ := hr.kcore.2.2.2.2.1 _ hf
  have hvl := hr.vl
  have hen := hr.en
  have g2 : ∀ J, (B ++ J)[i2]? = some (.cells (cCells c)) := fun J => app_get h2
  have g3 : ∀ J, (B ++ J)[i3]? = some (.cells (eCells e)) := fun J => app_get h3
  have g28 : ∀ J, (B ++ J)[i35]? = some (.cells (fCells f)) := fun J => app_get h28
  unfold zq51_l83
  refine ALoop.own 36 e_api_Type 3 rfl ?_
  show zq51_l83 (.ptr i2 0) (.ptr i3 0) (.sl (VT.css vs) tv) (.bool lf) (.ptr i35 0) (.sl [] (.own B.length)) (.sl (ints f.params) .none) (.int .i64 f.params.length) (.int .i64 0) (B ++ [.perm e_api_Type 3 0]) (Out H.length K)
  refine zq51_loop83 (Inv := fun q t36 t508 H' => ∃ i : Nat, i ≤ f.params.length ∧ q = f.params.length - i ∧ t508 = .int .i64 i ∧ t36 = .sl (VT.css (typesOf c (f.params.take i))) (.own B.length) ∧ H' = B ++ [.perm e_api_Type 3 i]) f.params.length ?_ ?_
  · intro _; exact ⟨0, by omega, by omega, rfl, by simp [typesOf, VT.css], rfl⟩
  · rintro q t36 t508 H' ⟨i, hi, rfl, rfl, rfl, rfl⟩ hsc hlen hsF Kb hKb
    by_cases hlt : i < f.params.length
    · simp only [zq51_b83, aLss_int, decide_eq_true (show (i : Int) < f.params.length by omega), aTest_t]
      refine ty_step rfl h2 hcp hlt (by omega) ?_
      simp
      rw [wrap_in (by omega) (by omega)]
      refine hKb _ _ ⟨f.params.length - (i + 1), by omega, Back.here (by simp) (HSc.permN hsc _) ?_ ⟨_, _, rfl, i + 1, by omega, rfl, by simp, rfl, rfl⟩⟩
      have h9 := hsF
      simp [zq51_fr83, AV.sc, AV.scV, AV.scA, AV.scB] at h9 ⊢
      exact h9
    · obtain rfl : i = f.params.length := by omega
      rw [List.take_length] at *
      cases hlf : lf with
      | false =>
        rw [hlf, Bool.false_and] at hR
        simp [zq51_b83]
        exact hbJ _ _ hR
      | true =>
      rw [hlf, Bool.true_and] at hR
      simp [zq51_b83]
      refine rsame_tok vs _ (fun v hv => (hr.vsP v hv).2) (by omega) rfl rfl _ _ ?_
      cases hsl : VT.sameL vs (typesOf c f.params) with
      | false =>
        rw [hsl, Bool.false_and] at hR
        simp
        exact hbJ _ _ hR
      | true =>
      rw [hsl, Bool.true_and] at hR
      simp [g3, g28, eCells, fCells]
      rw [← cs_eq e.ty, ← cs_eq f.res]
      refine rEqual_spec (by omega) _ _ ?_
      exact hbJ _ _ hR
@[simp] theorem bsV_len (bs : List (List VT)) : (bsV bs).length = bs.length := by simp [bsV]
@[simp] theorem bsV_get {bs : List (List VT)} {i : Nat} (h : i < (bsV bs).length) : (bsV bs)[i] = [.sl (VT.css (bs[i]'(by simpa using h))) .none] := by simp [bsV]
theorem rule_j6 {c : Cor} {e : CEx} {vs ks : List VT} {bs : List (List VT)} (hr : RIn c e vs ks bs) (nz lf : Bool) (tv tk tb : Tok) {H : Heap} (hs : HSc H) (P1 P2 P3 : AB) (K : Kt) (hb : ∀ b, refR6 c e nz lf vs ks bs = b → ∀ J, Out H.length K (.bool b) (H ++ J)) :
    zq51_j6 (.ptr H.length 0) (.ptr (H.length + 1) 0) (.sl (VT.css vs) tv) (.sl (VT.css ks) tk) (.sl (bsV bs) tb) (.ptr (H.length + 5) 0) (.ptr (H.length + 6) 0) (.ptr (H.length + 7) 0) (.int .i64 e.ty.kind) (.bool nz) (.bool lf) (.int .i64 e.op) (.bool (e.op == 9)) (ruleH H c e P1 P2 P3) (Out H.length K) := by
  have hR := refR6.eq_1 c e nz lf vs ks bs
  generalize refR6 c e nz lf vs ks bs = R at hR hb
  have sm1 : AV.agg [.int .i64 1, .int .i64 0, .sl [] .none] = .agg (sm 1).cs := rfl
  have sm2 : AV.agg [.int .i64 2, .int .i64 0, .sl [] .none] = .agg (sm 2).cs := rfl
  have sm3 : AV.agg [.int .i64 3, .int .i64 0, .sl [] .none] = .agg (sm 3).cs := rfl
  refine zq51_j6_ok fun hs1 => ?_
  unfold zq51_j6b
  by_cases hop9 : e.op = 9
  · rw [if_pos hop9] at hR
    cases hq1 : nz with
    | false =>
      rw [hq1, Bool.false_and] at hR
      simp [ruleH, eCells, hop9, hq1]
      exact hb _ hR _
    | true =>
    rw [hq1, Bool.true_and] at hR
    simp [ruleH, eCells, hop9, hq1]
    rw [sm2, buildS_vt]
    refine rsame2_tok vs [sm 2] (fun v hv => (hr.vsP v hv).2) (by have := hr.vl; omega) rfl rfl _ _ ?_
    cases hq2 : VT.sameL vs [sm 2] with
    | false =>
      rw [hq2, Bool.false_and] at hR
      simp
      exact hb _ hR _
    | true =>
    rw [hq2, Bool.true_and] at hR
    simp [ruleH, eCells, hop9, hq1]
    rw [← cs_eq e.ty, buildS_vt2]
    refine rsame2_tok ks [e.ty, e.ty] hr.ksP (by have := hr.kl; omega) rfl rfl _ _ ?_
    cases hq3 : VT.sameL ks [e.ty, e.ty] with
    | false =>
      rw [hq3, Bool.false_and] at hR
      simp
      exact hb _ hR _
    | true =>
    rw [hq3, Bool.true_and] at hR
    obtain ⟨b0, b1, rfl⟩ := len2 (l := bs) (by have := sameL_len hq3; rw [hr.bl, this]; rfl)
    obtain ⟨hb0, hb0n⟩ := hr.bsP b0 (by simp)
    obtain ⟨hb1, hb1n⟩ := hr.bsP b1 (by simp)
    try rw [show bAt [b0, b1] 1 = b1 from rfl] at hR
    cases hq4 : (((bAt [b0, b1] 0).length : Int) == 0) with
    | false =>
      rw [hq4, Bool.false_and] at hR
      have hq0 : ((b0.length : Int) == 0) = false := hq4
      simp [ruleH, eCells, hop9, hq1, bsV, cs_eq e.ty, hq0]
      exact hb _ hR _
    | true =>
    rw [hq4, Bool.true_and] at hR
    have hq0 : ((b0.length : Int) == 0) = true := hq4
    simp [ruleH, eCells, hop9, hq1, bsV, cs_eq e.ty, hq0]
    exact hb _ hR _
  rw [if_neg hop9] at hR
  by_cases hop10 : e.op = 10
  · rw [if_pos hop10] at hR
    cases hn : nz with
    | false =>
      rw [hn, Bool.false_and] at hR
      simp [ruleH, eCells, hop10]
      exact hb _ hR _
    | true =>
    rw [hn, Bool.true_and] at hR
    cases hl1 : ((vs.length : Int) == 1) with
    | false =>
      rw [hl1, Bool.false_and] at hR
      have hl1' : ((vs.length : Int) != 1) = true := by simp [bne, hl1]
      simp [ruleH, eCells, hop10, hl1']
      exact hb _ hR _
    | true =>
    rw [hl1, Bool.true_and] at hR
    obtain ⟨a, rfl⟩ := len1 hl1
    obtain ⟨ha, han⟩ := hr.vsP a (by simp)
    rw [show hd0 [a] = a from rfl] at hR
    by_cases hk5 : a.kind ≠ 5
    · rw [nb hk5, Bool.false_and] at hR
      simp [ruleH, eCells, hop10, VT.css, cs_eq a, nbt hk5]
      exact hb _ hR _
    have hk5' : a.kind = 5 := by simpa using hk5
    obtain ⟨d, hd, hdl⟩ := vt_data ha hk5'
    have hcl : conLen c a = (c.data[d]).cons.length := by simp [conLen, hd, hdl]
    rw [hcl, hk5'] at hR
    have ha5 : a.cs = [.int .i64 5, .int .i64 d, .sl (VT.css a.kids) .none] := by rw [cs_eq, hk5', hd]
    by_cases hkn : ks.length ≠ (c.data[d]).cons.length
    · rw [nb (show (ks.length : Int) ≠ (c.data[d]).cons.length by omega)] at hR
      have h4 : ((ks.length : Int) != (c.data[d]).cons.length) = true := nbt (by omega)
      simp [ruleH, eCells, hop10, VT.css, ha5, hdl, Dat.cs, h4]
      exact hb _ hR _
    have hkn' : ks.length = (c.data[d]).cons.length := by omega
    have h4 : ((ks.length : Int) != (c.data[d]).cons.length) = false := by simp [hkn']
    have h5 : ((ks.length : Int) == (c.data[d]).cons.length) = true := by simp [hkn']
    rw [h5] at hR
    simp only [beq_self_eq_true, Bool.true_and] at hR
    simp [ruleH, eCells, hop10, VT.css, ha5, hdl, Dat.cs, h4]
    have hbl := hr.bl
    have hkl := hr.kl
    refine zq51_loop56 (Inv := fun q t380 H' => ∃ i : Nat, i ≤ ks.length ∧ q = ks.length - i ∧ t380 = .int .i64 i ∧ (∀ k, k < i → caseR c a e.ty ks bs k = true) ∧ H' = ruleH H c e P1 P2 P3) ks.length ?_ ?_
    · intro _; exact ⟨0, by omega, by omega, rfl, by omega, by simp [ruleH, eCells, hop10]⟩
    · rintro q t380 H' ⟨i, hi, rfl, rfl, hok, rfl⟩ hsc hlen hsF Kb hKb
      by_cases hlt : i < ks.length
      · have hib : i < bs.length := by omega
        have hbg : bAt bs i = bs[i] := by rw [bAt, List.getD_eq_getElem?_getD, List.getElem?_eq_getElem hib]; rfl
        have hkg : ks.getD i (.mk 0 0 []) = ks[i] := by rw [List.getD_eq_getElem?_getD, List.getElem?_eq_getElem hlt]; rfl
        have hbad : caseR c a e.ty ks bs i = false → R = false := fun h => by
          rw [hR, List.all_eq_false]
          exact ⟨i, by simp; omega, by simp [h]⟩
        have hco := caseR.eq_1 c a e.ty ks bs i
        rw [hbg, hkg] at hco
        obtain ⟨hbi, hbin⟩ := hr.bsP _ (List.getElem_mem hib)
        have hki := hr.ksP _ (List.getElem_mem hlt)
        simp [zq51_b56, hlt, ruleH, eCells, ha5]
        rw [← ha5]
        refine aPureX_call (fieldsR (fields c.data a i)) (fun J => rFields_spec hr.kcore (by omega) _ _ _ ⟨rfl, rfl⟩) ?_
        cases hf : fields c.data a i with
        | none =>
          rw [hf] at hco
          simp [fieldsR]
          exact hb _ (hbad hco) _
        | some fs =>
          rw [hf] at hco
          simp only [] at hco
          simp [fieldsR, hib]
          refine aPureX_call (.bool (VT.sameL bs[i] fs)) (fun J => rsame_tok _ _ hbin (by omega) rfl rfl _ _ ⟨rfl, rfl⟩) ?_
          cases hsl : VT.sameL bs[i] fs with
          | false =>
            rw [hsl, Bool.false_and] at hco
            simp
            exact hb _ (hbad hco) _
          | true =>
            rw [hsl, Bool.true_and] at hco
            simp [hlt, cs_eq ks[i]]
            rw [← cs_eq ks[i], ← cs_eq e.ty]
            refine aPureX_call (.bool ((ks[i]).same e.ty)) (fun J => rEqual_spec (by omega) _ _ ⟨rfl, rfl⟩) ?_
            cases hse : (ks[i]).same e.ty with
            | false =>
              rw [hse] at hco
              simp
              exact hb _ (hbad hco) _
            | true =>
              rw [hse] at hco
              simp
              rw [wrap_in (by omega) (by omega)]
              refine hKb _ _ ⟨ks.length - (i + 1), by omega, Back.here (by simp) ?_ ?_ ⟨.int .i64 ((i : Int) + 1), by rw [ha5], i + 1, by omega, rfl, by simp, fun k hk => ?_, by rw [ruleH, eCells, cs_eq e.ty]⟩⟩
              · rw [cs_eq e.ty]; exact hsc
              · have h9 := hsF
                rw [ha5]
                simp only [ruleH, List.length_append, List.length_cons, List.length_nil] at h9
                simp [zq51_fr56, AV.sc, AV.scV, AV.scA, AV.scB] at h9 ⊢
                exact h9
              · by_cases hki : k = i
                · subst hki; exact hco
                · exact hok k (by omega)
      · obtain rfl : i = ks.length := by omega
        have hall : (List.range ks.length).all (caseR c a e.ty ks bs) = true := by
          rw [List.all_eq_true]
          intro k hk
          exact hok k (by simpa using hk)
        rw [hall] at hR
        simp [zq51_b56, ruleH]
        exact hb _ hR _
  rw [if_neg hop10] at hR

  by_cases hop11 : e.op = 11
  · rw [if_pos hop11] at hR
    obtain ⟨n, hn, hnl⟩ := hr.lam hop11
    have hcd : codeAt' c e.num = c.codes[n] := by simp [codeAt', hn, hnl]
    rw [hcd] at hR
    have hcat : (c.codes[n]).cs = fCells c.codes[n] := fCells_eq _
    have := rule_lam hr lf tv (H := H) (B := ruleH H c e P1 P2 P3 ++ [.cells (fCells c.codes[n])]) ⟨_, by rw [ruleH, List.append_assoc]⟩ c.codes[n] (List.getElem_mem hnl) (i2 := H.length) (i3 := H.length + 1) (i28 := H.length + 8) (by simp [ruleH, cCells]) (by simp [ruleH]) (by simp [ruleH]) K (fun b h J => hb b (hR.trans h) J)
    simp [ruleH, eCells, hop11, hn, hnl, hcat, fCells] at this ⊢
    exact this
  rw [if_neg hop11] at hR
  by_cases hop12 : e.op = 12
  · rw [if_pos hop12] at hR
    by_cases hn0 : 0 ≤ e.num
    · by_cases hnc : e.num < c.codes.length
      · obtain ⟨n, hn⟩ : ∃ n : Nat, e.num = n := ⟨e.num.toNat, by omega⟩
        have hnl : n < c.codes.length := by omega
        have hcd : codeAt' c e.num = c.codes[n] := by simp [codeAt', hn, hnl]
        rw [hcd] at hR
        simp only [hn0, hnc, decide_true, Bool.true_and] at hR
        have hcat : (c.codes[n]).cs = fCells c.codes[n] := fCells_eq _
        have hn0' : ¬ (n : Int) < 0 := by omega
        have hnc' : ¬ c.codes.length ≤ n := by omega
        cases hnm : (c.codes[n]).name.isEmpty with
        | true =>
          rw [hnm] at hR
          simp only [Bool.not_true, Bool.false_and] at hR
          simp [ruleH, eCells, hop12, hn, hnl, hcat, fCells, hn0', hnc', hnm]
          exact hb _ hR _
        | false =>
          rw [hnm] at hR
          simp only [Bool.not_false, Bool.true_and] at hR
          have := rule_call hr lf tv (H := H) (B := ruleH H c e P1 P2 P3 ++ [.cells (fCells c.codes[n])]) ⟨_, by rw [ruleH, List.append_assoc]⟩ c.codes[n] (List.getElem_mem hnl) (i2 := H.length) (i3 := H.length + 1) (i35 := H.length + 8) (by simp [ruleH, cCells]) (by simp [ruleH]) (by simp [ruleH]) K (fun b h J => hb b (hR.trans h) J)
          simp [ruleH, eCells, hop12, hn, hnl, hcat, fCells, hn0', hnc', hnm] at this ⊢
          exact this
      · simp only [hn0, hnc, decide_true, decide_false, Bool.true_and, Bool.false_and] at hR
        have hn0' : ¬ e.num < 0 := by omega
        have hnc' : (c.codes.length : Int) ≤ e.num := by omega
        simp [ruleH, eCells, hop12, hn0', hnc']
        exact hb _ hR _
    · simp only [hn0, decide_false, Bool.false_and] at hR
      have hn0' : e.num < 0 := by omega
      simp [ruleH, eCells, hop12, hn0']
      exact hb _ hR _
  rw [if_neg hop12] at hR
  by_cases hop13 : e.op = 13
  · rw [if_pos hop13] at hR
    cases hn : nz with
    | false =>
      rw [hn, Bool.false_and] at hR
      simp [ruleH, eCells, hop13]
      exact hb _ hR _
    | true =>
    rw [hn, Bool.true_and] at hR
    cases hl : lf with
    | false =>
      rw [hl, Bool.false_and] at hR
      simp [ruleH, eCells, hop13]
      exact hb _ hR _
    | true =>
    rw [hl, Bool.true_and] at hR
    have hvn := hr.vl
    cases vs with
    | nil =>
      simp at hR
      simp [ruleH, eCells, hop13, VT.css]
      exact hb _ hR _
    | cons a l =>
    have h1 : (1 : Int) ≤ ((a :: l).length : Nat) := by simp; omega
    have h1' : (1 : Int) ≤ (l.length : Int) + 1 := by omega
    simp only [h1, decide_true, Bool.true_and, show hd0 (a :: l) = a from rfl, List.drop_succ_cons, List.drop_zero] at hR
    obtain ⟨ha, han⟩ := hr.vsP a (by simp)
    cases hk9 : (a.kind == 9) with
    | false =>
      rw [hk9, Bool.false_and] at hR
      simp [ruleH, eCells, hop13, VT.css, cs_eq a, hk9, h1']
      exact hb _ hR _
    | true =>
    rw [hk9, Bool.true_and] at hR
    simp [ruleH, eCells, hop13, VT.css, cs_eq a, hk9, h1']
    simp [aAppend, aSrc, aAppTo]
    have hcs3 : ∀ v ∈ VT.css l, v.length = 3 := by
      intro v hv
      rw [VT.css_map] at hv
      obtain ⟨w, _, rfl⟩ := List.mem_map.1 hv
      rw [cs_eq]; rfl
    have htk : (VT.css l).take l.length = VT.css l := List.take_of_length_le (by simp)
    have hll : l.length + 1 ≤ 40 := by simpa using hvn
    rw [htk]
    refine ⟨hcs3, hcs3, ⟨by omega, by omega⟩, ?_⟩
    rw [← cs_eq e.ty, buildS_vt]
    simp
    refine ⟨by omega, ?_⟩
    refine aPureX_call (.bool (VT.sameL (l ++ [e.ty]) a.kids)) (fun J => rsame_tok (l ++ [e.ty]) a.kids (fun v hv => by
      rcases List.mem_append.1 hv with h | h
      · exact (hr.vsP v (by simp [h])).2
      · simp at h; subst h; exact hr.en) (by simp; omega) (by simp [VT.css_map]) rfl _ _ ⟨rfl, rfl⟩) ?_
    exact hb _ hR _
  rw [if_neg hop13] at hR
  simp [ruleH, eCells, nb hop9, nb hop10, nb hop11, nb hop12, nb hop13]
  exact rule_j7 hr nz lf tv tk tb hs P1 P2 P3 K fun b h J => hb b (hR.trans h) J
theorem rule_j5 {c : Cor} {e : CEx} {vs ks : List VT} {bs : List (List VT)} (hr : RIn c e vs ks bs) (nz lf : Bool) (tv tk tb : Tok) {H : Heap} (hs : HSc H) (P1 P2 P3 : AB) (K : Kt) (hb : ∀ b, refR5 c e nz lf vs ks bs = b → ∀ J, Out H.length K (.bool b) (H ++ J)) :
    zq51_j5 (.ptr H.length 0) (.ptr (H.length + 1) 0) (.sl (VT.css vs) tv) (.sl (VT.css ks) tk) (.sl (bsV bs) tb) (.ptr (H.length + 5) 0) (.ptr (H.length + 6) 0) (.ptr (H.length + 7) 0) (.int .i64 e.ty.kind) (.bool nz) (.bool lf) (.int .i64 e.op) (.bool (e.op == 4)) (ruleH H c e P1 P2 P3) (Out H.length K) := by
  have hR := refR5.eq_1 c e nz lf vs ks bs
  generalize refR5 c e nz lf vs ks bs = R at hR hb
  have sm1 : AV.agg [.int .i64 1, .int .i64 0, .sl [] .none] = .agg (sm 1).cs := rfl
  have sm2 : AV.agg [.int .i64 2, .int .i64 0, .sl [] .none] = .agg (sm 2).cs := rfl
  have sm3 : AV.agg [.int .i64 3, .int .i64 0, .sl [] .none] = .agg (sm 3).cs := rfl
  refine zq51_j5_ok fun hs1 => ?_
  unfold zq51_j5b
  by_cases hop4 : e.op = 4
  · rw [if_pos hop4] at hR
    cases hq1 : nz with
    | false =>
      rw [hq1, Bool.false_and] at hR
      simp [ruleH, eCells, hop4, hq1]
      exact hb _ hR _
    | true =>
    rw [hq1, Bool.true_and] at hR
    cases hq2 : lf with
    | false =>
      rw [hq2, Bool.false_and] at hR
      simp [ruleH, eCells, hop4, hq1, hq2]
      exact hb _ hR _
    | true =>
    rw [hq2, Bool.true_and] at hR
    simp [ruleH, eCells, hop4, hq1, hq2]
    rw [← cs_eq e.ty, buildS_vt]
    refine rsame2_tok vs [e.ty] (fun v hv => (hr.vsP v hv).2) (by have := hr.vl; omega) rfl rfl _ _ ?_
    exact hb _ hR _
  rw [if_neg hop4] at hR
  by_cases hop5 : e.op = 5
  · rw [if_pos hop5] at hR
    cases hq4 : nz with
    | false =>
      rw [hq4, Bool.false_and] at hR
      simp [ruleH, eCells, hop5, hq4]
      exact hb _ hR _
    | true =>
    rw [hq4, Bool.true_and] at hR
    cases hq5 : lf with
    | false =>
      rw [hq5, Bool.false_and] at hR
      simp [ruleH, eCells, hop5, hq4, hq5]
      exact hb _ hR _
    | true =>
    rw [hq5, Bool.true_and] at hR
    cases hq6 : (e.ty.kind == 6) with
    | false =>
      rw [hq6, Bool.false_and] at hR
      simp [ruleH, eCells, hop5, hq4, hq5, hq6]
      exact hb _ hR _
    | true =>
    rw [hq6, Bool.true_and] at hR
    simp [ruleH, eCells, hop5, hq4, hq5, hq6]
    refine rsame_tok vs e.ty.kids (fun v hv => (hr.vsP v hv).2) (by have := hr.vl; omega) rfl rfl _ _ ?_
    exact hb _ hR _
  rw [if_neg hop5] at hR
  by_cases hop6 : e.op = 6
  · rw [if_pos hop6] at hR
    by_cases hn0 : 0 ≤ e.num
    · by_cases hnc : e.num < 8
      · simp only [hn0, hnc, decide_true, Bool.true_and] at hR
        have hn0' : ¬ e.num < 0 := by omega
        have hnc' : ¬ 8 ≤ e.num := by omega
        simp [ruleH, eCells, hop6, hn0', hnc']
        rw [← cs_eq e.ty]
        refine rFields_spec hr.kcore (by have := hr.en; omega) _ _ _ ?_
        cases hl : lf with
        | false =>
          rw [hl, Bool.false_and] at hR
          cases hf : fields c.data e.ty e.num <;> simp [fieldsR] <;> exact hb _ hR _
        | true =>
          rw [hl, Bool.true_and] at hR
          cases hf : fields c.data e.ty e.num with
          | none =>
            rw [hf] at hR
            simp [fieldsR]
            exact hb _ hR _
          | some fs =>
            rw [hf] at hR
            simp [fieldsR]
            refine rsame_tok vs fs (fun v hv => (hr.vsP v hv).2) (by have := hr.vl; omega) rfl rfl _ _ ?_
            exact hb _ hR _
      · simp only [hn0, hnc, decide_true, decide_false, Bool.true_and, Bool.false_and] at hR
        have hn0' : ¬ e.num < 0 := by omega
        have hnc' : 8 ≤ e.num := by omega
        simp [ruleH, eCells, hop6, hn0', hnc']
        exact hb _ hR _
    · simp only [hn0, decide_false, Bool.false_and] at hR
      have hn0' : e.num < 0 := by omega
      simp [ruleH, eCells, hop6, hn0']
      exact hb _ hR _
  rw [if_neg hop6] at hR
  by_cases hop7 : e.op = 7
  · rw [if_pos hop7] at hR
    cases hq8 : nz with
    | false =>
      rw [hq8, Bool.false_and] at hR
      simp [ruleH, eCells, hop7, hq8]
      exact hb _ hR _
    | true =>
    rw [hq8, Bool.true_and] at hR
    cases hq9 : ((vs.length : Int) == 0) with
    | false =>
      rw [hq9, Bool.false_and] at hR
      simp [ruleH, eCells, hop7, hq8, hq9]
      exact hb _ hR _
    | true =>
    rw [hq9, Bool.true_and] at hR
    cases hq10 : ((ks.length : Int) == 2) with
    | false =>
      rw [hq10, Bool.false_and] at hR
      simp [ruleH, eCells, hop7, hq8, hq9, hq10]
      exact hb _ hR _
    | true =>
    rw [hq10, Bool.true_and] at hR
    obtain ⟨b0, b1, rfl⟩ := len2 (l := bs) (by rw [hr.bl]; exact hq10)
    obtain ⟨ka, kb, rfl⟩ := len2 hq10
    obtain ⟨hb0, hb0n⟩ := hr.bsP b0 (by simp)
    obtain ⟨hb1, hb1n⟩ := hr.bsP b1 (by simp)
    have hkan := hr.ksP ka (by simp)
    have hkbn := hr.ksP kb (by simp)
    rw [show hd0 [ka, kb] = ka from rfl, show hd1 [ka, kb] = kb from rfl] at hR
    cases hq11 : (((bAt [b0, b1] 0).length : Int) == 0) with
    | false =>
      rw [hq11, Bool.false_and] at hR
      have hq0 : ((b0.length : Int) == 0) = false := hq11
      simp [ruleH, eCells, hop7, hq8, hq9, VT.css, cs_eq ka, cs_eq kb, bsV, hq0]
      exact hb _ hR _
    | true =>
    rw [hq11, Bool.true_and] at hR
    have hq0 : ((b0.length : Int) == 0) = true := hq11
    try rw [show bAt [b0, b1] 1 = b1 from rfl] at hR
    simp [ruleH, eCells, hop7, hq8, hq9, VT.css, cs_eq ka, cs_eq kb, bsV, hq0]
    rw [← cs_eq ka, buildS_vt]
    refine aPureX_call (.bool (VT.sameL b1 [ka])) (fun J => rsame2_tok b1 [ka] hb1n (by omega) rfl rfl _ _ ⟨rfl, rfl⟩) ?_
    cases hq12 : VT.sameL b1 [ka] with
    | false =>
      rw [hq12, Bool.false_and] at hR
      simp
      exact hb _ hR _
    | true =>
    rw [hq12, Bool.true_and] at hR
    simp [ruleH, eCells, hop7, hq8, hq9, VT.css, cs_eq ka, cs_eq kb, bsV, hq0]
    rw [← cs_eq kb, ← cs_eq e.ty]
    refine aPureX_call (.bool (kb.same e.ty)) (fun J => rEqual_spec (v := kb) (u := e.ty) (by omega) _ _ ⟨rfl, rfl⟩) ?_
    exact hb _ hR _
  rw [if_neg hop7] at hR
  by_cases hop8 : e.op = 8
  · rw [if_pos hop8] at hR
    cases hq14 : nz with
    | false =>
      rw [hq14, Bool.false_and] at hR
      simp [ruleH, eCells, hop8, hq14]
      exact hb _ hR _
    | true =>
    rw [hq14, Bool.true_and] at hR
    cases hq15 : ((vs.length : Int) == 1) with
    | false =>
      rw [hq15, Bool.false_and] at hR
      simp [ruleH, eCells, hop8, hq14, hq15]
      exact hb _ hR _
    | true =>
    rw [hq15, Bool.true_and] at hR
    obtain ⟨a, rfl⟩ := len1 hq15
    obtain ⟨ha, han⟩ := hr.vsP a (by simp)
    cases hq16 : ((hd0 [a]).kind == 6) with
    | false =>
      rw [hq16, Bool.false_and] at hR
      have hk : (a.kind == 6) = false := hq16
      simp [ruleH, eCells, hop8, hq14, VT.css, cs_eq a, hk]
      exact hb _ hR _
    | true =>
    rw [hq16, Bool.true_and] at hR
    have hk : (a.kind == 6) = true := hq16
    rw [show hd0 [a] = a from rfl] at hR
    cases hq17 : ((ks.length : Int) == 1) with
    | false =>
      rw [hq17, Bool.false_and] at hR
      simp [ruleH, eCells, hop8, hq14, VT.css, cs_eq a, hk, hq17]
      exact hb _ hR _
    | true =>
    rw [hq17, Bool.true_and] at hR
    obtain ⟨b0, rfl⟩ := len1 (l := bs) (by rw [hr.bl]; exact hq17)
    obtain ⟨ka, rfl⟩ := len1 hq17
    obtain ⟨hb0, hb0n⟩ := hr.bsP b0 (by simp)
    have hkan := hr.ksP ka (by simp)
    rw [show hd0 [ka] = ka from rfl, show bAt [b0] 0 = b0 from rfl] at hR
    simp [ruleH, eCells, hop8, hq14, VT.css, cs_eq a, hk, VT.css, cs_eq ka, bsV]
    refine aPureX_call (.bool (VT.sameL b0 a.kids)) (fun J => rsame_tok b0 a.kids hb0n (by omega) rfl rfl _ _ ⟨rfl, rfl⟩) ?_
    cases hq18 : VT.sameL b0 a.kids with
    | false =>
      rw [hq18, Bool.false_and] at hR
      simp
      exact hb _ hR _
    | true =>
    rw [hq18, Bool.true_and] at hR
    simp [ruleH, eCells, hop8, hq14, VT.css, cs_eq a, hk, VT.css, cs_eq ka, bsV]
    rw [← cs_eq ka, ← cs_eq e.ty]
    refine aPureX_call (.bool (ka.same e.ty)) (fun J => rEqual_spec (v := ka) (u := e.ty) (by omega) _ _ ⟨rfl, rfl⟩) ?_
    exact hb _ hR _
  rw [if_neg hop8] at hR
  simp [ruleH, eCells, nb hop4, nb hop5, nb hop6, nb hop7, nb hop8]
  exact rule_j6 hr nz lf tv tk tb hs P1 P2 P3 K fun b h J => hb b (hR.trans h) J
theorem rule_j4 {c : Cor} {e : CEx} {vs ks : List VT} {bs : List (List VT)} (hr : RIn c e vs ks bs) (nz lf : Bool) (tv tk tb : Tok) {H : Heap} (hs : HSc H) (P1 P2 P3 : AB) (K : Kt) (hb : ∀ b, refR4 c e nz lf vs ks bs = b → ∀ J, Out H.length K (.bool b) (H ++ J)) :
    zq51_j4 (.ptr H.length 0) (.ptr (H.length + 1) 0) (.sl (VT.css vs) tv) (.sl (VT.css ks) tk) (.sl (bsV bs) tb) (.ptr (H.length + 5) 0) (.ptr (H.length + 6) 0) (.ptr (H.length + 7) 0) (.int .i64 e.ty.kind) (.bool nz) (.bool lf) (ruleH H c e P1 P2 P3) (Out H.length K) := by
  have hR := refR4.eq_1 c e nz lf vs ks bs
  generalize refR4 c e nz lf vs ks bs = R at hR hb
  have sm1 : AV.agg [.int .i64 1, .int .i64 0, .sl [] .none] = .agg (sm 1).cs := rfl
  have sm2 : AV.agg [.int .i64 2, .int .i64 0, .sl [] .none] = .agg (sm 2).cs := rfl
  have sm3 : AV.agg [.int .i64 3, .int .i64 0, .sl [] .none] = .agg (sm 3).cs := rfl
  refine zq51_j4_ok fun hs1 => ?_
  unfold zq51_j4b
  by_cases hop1 : e.op = 1
  · rw [if_pos hop1] at hR
    cases hq1 : nz with
    | false =>
      rw [hq1, Bool.false_and] at hR
      simp [ruleH, eCells, hop1, hq1]
      exact hb _ hR _
    | true =>
    rw [hq1, Bool.true_and] at hR
    cases hq2 : lf with
    | false =>
      rw [hq2, Bool.false_and] at hR
      simp [ruleH, eCells, hop1, hq1, hq2]
      exact hb _ hR _
    | true =>
    rw [hq2, Bool.true_and] at hR
    cases hq3 : ((vs.length : Int) == 0) with
    | false =>
      rw [hq3, Bool.false_and] at hR
      simp [ruleH, eCells, hop1, hq1, hq2, hq3]
      exact hb _ hR _
    | true =>
    rw [hq3, Bool.true_and] at hR
    simp [ruleH, eCells, hop1, hq1, hq2, hq3]
    exact hb _ hR _
  rw [if_neg hop1] at hR
  by_cases hop2 : e.op = 2
  · rw [if_pos hop2] at hR
    have key : ∀ b : Bool, (e.num == 0 || e.num == 1) = b → R = (b && (lf && (((vs.length : Int) == 0) && (e.ty.kind == 2)))) := fun b h => by rw [hR, h]
    cases hn0 : (e.num == 0) with
    | true =>
      have hR := key true (by simp [hn0])
      rw [Bool.true_and] at hR
      cases hl : lf with
      | false => rw [hl, Bool.false_and] at hR; simp [ruleH, eCells, hop2, hn0]; exact hb _ hR _
      | true =>
      rw [hl, Bool.true_and] at hR
      cases hv : ((vs.length : Int) == 0) with
      | false => rw [hv, Bool.false_and] at hR; simp [ruleH, eCells, hop2, hn0, hv]; exact hb _ hR _
      | true => rw [hv, Bool.true_and] at hR; simp [ruleH, eCells, hop2, hn0, hv]; exact hb _ hR _
    | false =>
    cases hn1 : (e.num == 1) with
    | true =>
      have hR := key true (by simp [hn1])
      rw [Bool.true_and] at hR
      cases hl : lf with
      | false => rw [hl, Bool.false_and] at hR; simp [ruleH, eCells, hop2, hn0, hn1]; exact hb _ hR _
      | true =>
      rw [hl, Bool.true_and] at hR
      cases hv : ((vs.length : Int) == 0) with
      | false => rw [hv, Bool.false_and] at hR; simp [ruleH, eCells, hop2, hn0, hn1, hv]; exact hb _ hR _
      | true => rw [hv, Bool.true_and] at hR; simp [ruleH, eCells, hop2, hn0, hn1, hv]; exact hb _ hR _
    | false =>
      have hR := key false (by simp [hn0, hn1])
      rw [Bool.false_and] at hR
      simp [ruleH, eCells, hop2, hn0, hn1]
      exact hb _ hR _
  rw [if_neg hop2] at hR
  by_cases hop3 : e.op = 3
  · rw [if_pos hop3] at hR
    cases hq5 : (decide (-1000000 ≤ e.num)) with
    | false =>
      rw [hq5, Bool.false_and] at hR
      have hn1 : ¬ -1000000 ≤ e.num := of_decide_eq_false hq5
      simp [ruleH, eCells, hop3, hn1]
      exact hb _ hR _
    | true =>
    rw [hq5, Bool.true_and] at hR
    have hn1 : -1000000 ≤ e.num := of_decide_eq_true hq5
    cases hq6 : (decide (e.num ≤ 1000000)) with
    | false =>
      rw [hq6, Bool.false_and] at hR
      have hn2 : ¬ e.num ≤ 1000000 := of_decide_eq_false hq6
      simp [ruleH, eCells, hop3, hn1, hn2]
      exact hb _ hR _
    | true =>
    rw [hq6, Bool.true_and] at hR
    have hn2 : e.num ≤ 1000000 := of_decide_eq_true hq6
    cases hq7 : lf with
    | false =>
      rw [hq7, Bool.false_and] at hR
      simp [ruleH, eCells, hop3, hn1, hn2, hq7]
      exact hb _ hR _
    | true =>
    rw [hq7, Bool.true_and] at hR
    cases hq8 : ((vs.length : Int) == 0) with
    | false =>
      rw [hq8, Bool.false_and] at hR
      simp [ruleH, eCells, hop3, hn1, hn2, hq7, hq8]
      exact hb _ hR _
    | true =>
    rw [hq8, Bool.true_and] at hR
    simp [ruleH, eCells, hop3, hn1, hn2, hq7, hq8]
    exact hb _ hR _
  rw [if_neg hop3] at hR
  simp [ruleH, eCells, nb hop1, nb hop2, nb hop3]
  exact rule_j5 hr nz lf tv tk tb hs P1 P2 P3 K fun b h J => hb b (hR.trans h) J
theorem AWp.reCell {P : Program} {c : Code} {Q : AExit → List AV → Heap → Prop} {F : List AV} {H : Heap} {id : Nat} {cs : List AV} (cs' : List AV) (hid : H[id]? = some (.cells cs)) (hw : All2 WkA cs cs') (h : AWp P c Q F (H.set id (.cells cs'))) : AWp P c Q F H := by
  intro B w G a hH hF hd
  refine h B w G a (hH.reCell hid fun vs hv => ?_) hF hd
  clear h hid hH hF
  induction cs generalizing cs' vs with
  | nil => cases cs' with
    | nil => exact hv
    | cons _ _ => exact hw.elim
  | cons x cs ih => cases cs' with
    | nil => exact hw.elim
    | cons x' cs' => cases vs with
      | nil => exact hv.elim
      | cons v vs => exact ⟨hw.1.arel hv.1, ih cs' hw.2 vs hv.2⟩
def etysOf (c : Cor) (l : List Int) : List VT := l.map (ety c)
theorem ety_step {c : Cor} {B : Heap} {N i2 i : Nat} {l : List Int} (hN : N = B.length) (h2 : B[i2]? = some (.cells (cCells c))) (hr : inE c l) (hlt : i < l.length) (hl : l.length ≤ 1000) {K : Kt}
    (hK : K (.sl (VT.css (etysOf c (l.take (i + 1)))) (.own N)) (B ++ [.perm e_api_Type 3 (i + 1)])) :
    aIdxA 1 (.sl (ints l) .none) (.int .i64 i) fun a => aLoad false 1 a (B ++ [.perm e_api_Type 3 i]) fun v => aFld 3 (.ptr i2 0) fun p => aLoad false 1 p (B ++ [.perm e_api_Type 3 i]) fun s => aIdxA 8 s v fun q => aFld 5 q fun q => aLoad true 3 q (B ++ [.perm e_api_Type 3 i]) fun t =>
      aBuildS 3 [.int .i64 0, .int .i64 0, .snil] 1 [(0, t)] fun y => aAppend e_api_Type 3 40 (.sl (VT.css (etysOf c (l.take i))) (.own N)) y (B ++ [.perm e_api_Type 3 i]) K := by
  subst hN
  have hrr := hr _ (List.getElem_mem hlt)
  obtain ⟨e, he⟩ : ∃ e : Nat, l[i] = e := ⟨(l[i]).toNat, by omega⟩
  have hen : e < c.exprs.length := by omega
  have hts : VT.css (etysOf c (l.take (i + 1))) = VT.css (etysOf c (l.take i)) ++ [(c.exprs[e]).ty.cs] := by
    rw [etysOf, take_snoc hlt, List.map_append, VT.css_map, VT.css_map, List.map_append, he]
    simp [etysOf, ety_eq hen]
  have hg : ∀ J, (B ++ J)[i2]? = some (.cells (cCells c)) := fun J => app_get h2
  have hll : (etysOf c (l.take i)).length = i := by simp [etysOf]; omega
  have hce : (c.exprs[e]).cs = eCells c.exprs[e] := by rw [CEx.cs, cs_eq]; rfl
  simp [hlt, he, hg, cCells, hen, hce, eCells]
  rw [← cs_eq, buildS_vt]
  simp [aAppend, aSrc, aAppTo, hll]
  refine ⟨⟨by omega, by omega⟩, ?_⟩
  rw [← hts]
  exact hK
theorem buildS_sl {es : List (List AV)} {t : Tok} {k : AV → Prop} : aBuildS 1 [.snil] 1 [(0, .sl es t)] k = k (.sl [[.sl es .none]] .full) := by
  cases t <;> exact propext Iff.rfl
theorem bsV_snoc {bs : List (List VT)} {i : Nat} (h : i < bs.length) : bsV (bs.take (i + 1)) = bsV (bs.take i) ++ [[.sl (VT.css bs[i]) .none]] := by
  rw [bsV, take_snoc h, List.map_append]; rfl
def refRule (c : Cor) (e : CEx) : Bool := tyValid c.data 0 e.ty && refR4 c e (e.num == 0) ((e.kids.length : Int) == 0) (typesOf c e.vars) (etysOf c e.kids) (e.binds.map (typesOf c))
theorem rIn_of {c : Cor} {e : CEx} (hx : ExIn c e) (hty : tyValid c.data 0 e.ty = true) (hlam : e.op = 11 → ∃ n : Nat, e.num = n ∧ n < c.codes.length) : RIn c e (typesOf c e.vars) (etysOf c e.kids) (e.binds.map (typesOf c)) where
  kcore := hx.kcore
  ety := hty
  en := hx.kex.2.2.2.1
  vsP := fun v hv => by
    obtain ⟨n, hn, rfl⟩ := List.mem_map.1 hv
    have := hx.vars n hn
    refine ⟨?_, vty_nodes hx.kcore n⟩
    obtain ⟨k, rfl⟩ : ∃ k : Nat, n = k := ⟨n.toNat, by omega⟩
    rw [vty_eq (by omega)]
    exact hx.vtys _ (List.getElem_mem _)
  vl := by rw [typesOf_len]; exact hx.kex.1
  ksP := fun v hv => by
    obtain ⟨n, hn, rfl⟩ := List.mem_map.1 hv
    exact ety_nodes hx.kcore n
  kl := by simp [etysOf]; exact hx.kex.2.2.1
  bl := by simp [etysOf]; exact hx.bk
  bsP := fun b hb => by
    obtain ⟨l, hl, rfl⟩ := List.mem_map.1 hb
    refine ⟨by rw [typesOf_len]; exact hx.kex.2.2.2.2 l hl, fun v hv => ?_⟩
    obtain ⟨n, hn, rfl⟩ := List.mem_map.1 hv
    exact vty_nodes hx.kcore n
  codes := hx.codes
  lam := hlam
theorem rule_spec {c : Cor} {e : CEx} (hx : ExIn c e) (hlam : e.op = 11 → ∃ n : Nat, e.num = n ∧ n < c.codes.length) (H : Heap) (K : Kt) (hK : K (.bool (refRule c e)) H) : ACalls tP n_zq51 [.agg c.cs, .agg e.cs] H K := by
  refine ACalls.out (zq51_ok fun hs => ?_)
  have hx0 := hx
  obtain ⟨hc, ⟨kv, kb, kk, kt, kbl⟩, hvr, hkr, hbk, hbr, hcr, hvt⟩ := hx
  have hO : ∀ b, refRule c e = b → ∀ J, Out H.length K (.bool b) (H ++ J) := fun b h J => h ▸ Out.bool rfl (Nat.le_refl _) hs hK
  have hce : e.cs = eCells e := by rw [CEx.cs, cs_eq]; rfl
  have hcc : c.cs = cCells c := rfl
  simp [zq51, hce, hcc, cCells, eCells]
  rw [← cs_eq e.ty]
  refine zq47_spec c.data (by obtain ⟨⟨k1, _⟩, _⟩ := hc; omega) 0 e.ty (by omega) _ _ ?_
  cases hty : tyValid c.data 0 e.ty with
  | false =>
    simp
    exact hO _ (by simp [refRule, hty]) _
  | true =>
  have hr := rIn_of hx0 hty hlam
  have hO' : ∀ b, refR4 c e (e.num == 0) ((e.kids.length : Int) == 0) (typesOf c e.vars) (etysOf c e.kids) (e.binds.map (typesOf c)) = b → ∀ J, Out H.length K (.bool b) (H ++ J) := fun b h J => hO b (by simp [refRule, hty, h]) J
  simp
  refine zq51_j1_ok fun hs1 => ?_
  unfold zq51_j1b
  simp
  rw [cs_eq e.ty]
  obtain ⟨B, hB⟩ : ∃ B, B = H ++ [.cells (cCells c), .cells (eCells e)] := ⟨_, rfl⟩
  have hBl : B.length = H.length + 2 := by rw [hB]; simp
  have hB2 : B[H.length]? = some (.cells (cCells c)) := by rw [hB]; simp
  have hB3 : B[H.length + 1]? = some (.cells (eCells e)) := by rw [hB]; simp
  show zq51_l5 (.ptr H.length 0) (.ptr (H.length + 1) 0) .snil .snil (.sl (ints e.vars) .none) (.int .i64 e.vars.length) (.int .i64 0) (H ++ [.cells (cCells c), .cells (eCells e)]) (Out H.length K)
  rw [← hB]
  unfold zq51_l5
  refine ALoop.own 5 e_api_Type 3 rfl ?_
  show zq51_l5 (.ptr H.length 0) (.ptr (H.length + 1) 0) (.sl [] (.own B.length)) .snil (.sl (ints e.vars) .none) (.int .i64 e.vars.length) (.int .i64 0) (B ++ [.perm e_api_Type 3 0]) (Out H.length K)
  refine zq51_loop5 (Inv := fun q t5 t49 H' => ∃ i : Nat, i ≤ e.vars.length ∧ q = e.vars.length - i ∧ t49 = .int .i64 i ∧ t5 = .sl (VT.css (typesOf c (e.vars.take i))) (.own B.length) ∧ H' = B ++ [.perm e_api_Type 3 i]) e.vars.length ?_ ?_
  · intro _; exact ⟨0, by omega, by omega, rfl, by simp [typesOf, VT.css], rfl⟩
  rintro q t5 t49 H' ⟨i, hi, rfl, rfl, rfl, rfl⟩ hsc hlen hsF Kb hKb
  by_cases hlt : i < e.vars.length
  · simp only [zq51_b5, aLss_int, decide_eq_true (show (i : Int) < e.vars.length by omega), aTest_t]
    refine ty_step rfl hB2 hvr hlt (by omega) ?_
    simp only [aAdd_int]
    rw [wrap_in (by omega) (by omega)]
    refine hKb _ _ ⟨e.vars.length - (i + 1), by omega, Back.here (by simp) (HSc.permN hsc _) ?_ ⟨_, _, rfl, i + 1, by omega, rfl, by simp, rfl, rfl⟩⟩
    simp [zq51_fr5, AV.sc, AV.scV, AV.scA, AV.scB]; omega
  obtain rfl : i = e.vars.length := by omega
  rw [List.take_length] at *
  have g3 : ∀ J, (B ++ J)[H.length + 1]? = some (.cells (eCells e)) := fun J => app_get hB3
  have g2 : ∀ J, (B ++ J)[H.length]? = some (.cells (cCells c)) := fun J => app_get hB2
  simp [zq51_b5, g3, eCells]
  obtain ⟨B1, hB1⟩ : ∃ B1, B1 = B ++ [.perm e_api_Type 3 e.vars.length] := ⟨_, rfl⟩
  have hB1l : B1.length = H.length + 3 := by rw [hB1]; simp; omega
  have hB12 : B1[H.length]? = some (.cells (cCells c)) := by rw [hB1]; exact g2 _
  have hB13 : B1[H.length + 1]? = some (.cells (eCells e)) := by rw [hB1]; exact g3 _
  rw [← hB1]
  unfold zq51_l10
  refine ALoop.own 6 e_api_Type 3 rfl ?_
  show zq51_l10 (.ptr H.length 0) (.ptr (H.length + 1) 0) (.sl (VT.css (typesOf c e.vars)) (.own B.length)) (.sl [] (.own B1.length)) (.sl (ints e.kids) .none) (.int .i64 e.kids.length) (.int .i64 0) (B1 ++ [.perm e_api_Type 3 0]) (Out H.length K)
  refine zq51_loop10 (Inv := fun q t6 t65 H' => ∃ i : Nat, i ≤ e.kids.length ∧ q = e.kids.length - i ∧ t65 = .int .i64 i ∧ t6 = .sl (VT.css (etysOf c (e.kids.take i))) (.own B1.length) ∧ H' = B1 ++ [.perm e_api_Type 3 i]) e.kids.length ?_ ?_
  · intro _; exact ⟨0, by omega, by omega, rfl, by simp [etysOf, VT.css], rfl⟩
  rintro q t6 t65 H' ⟨i, hi, rfl, rfl, rfl, rfl⟩ hsc1 hlen1 hsF1 Kb1 hKb1
  by_cases hlt : i < e.kids.length
  · simp only [zq51_b10, aLss_int, decide_eq_true (show (i : Int) < e.kids.length by omega), aTest_t]
    refine ety_step rfl hB12 hkr hlt (by omega) ?_
    simp only [aAdd_int]
    rw [wrap_in (by omega) (by omega)]
    refine hKb1 _ _ ⟨e.kids.length - (i + 1), by omega, Back.here (by simp) (HSc.permN hsc1 _) ?_ ⟨_, _, rfl, i + 1, by omega, rfl, by simp, rfl, rfl⟩⟩
    simp [zq51_fr10, AV.sc, AV.scV, AV.scA, AV.scB]; omega
  obtain rfl : i = e.kids.length := by omega
  rw [List.take_length] at *
  simp [zq51_b10]
  refine zq51_j2_ok fun hs2 => ?_
  unfold zq51_j2b
  obtain ⟨B2, hB2'⟩ : ∃ B2, B2 = B1 ++ [.perm e_api_Type 3 e.kids.length] := ⟨_, rfl⟩
  have hB2l : B2.length = H.length + 4 := by rw [hB2']; simp; omega
  have hB22 : B2[H.length]? = some (.cells (cCells c)) := by rw [hB2']; exact app_get hB12
  have hB23 : B2[H.length + 1]? = some (.cells (eCells e)) := by rw [hB2']; exact app_get hB13
  rw [← hB2']
  simp [hB23, eCells]
  unfold zq51_l16
  refine ALoop.own 11 e_S_api_Type 1 rfl ?_
  show zq51_l16 (.ptr H.length 0) (.ptr (H.length + 1) 0) (.sl (VT.css (typesOf c e.vars)) (.own B.length)) (.sl (VT.css (etysOf c e.kids)) (.own B1.length)) (.sl [] (.own B2.length)) (.sl (rows e.binds) .none) (.int .i64 e.binds.length) (.int .i64 0) (B2 ++ [.perm e_S_api_Type 1 0]) (Out H.length K)
  refine zq51_loop16 (Inv := fun q t11 t82 H' => ∃ i : Nat, i ≤ e.binds.length ∧ q = e.binds.length - i ∧ t82 = .int .i64 i ∧ t11 = .sl (bsV ((e.binds.map (typesOf c)).take i)) (.own B2.length) ∧ H' = B2 ++ [.perm e_S_api_Type 1 i]) e.binds.length ?_ ?_
  · intro _; exact ⟨0, by omega, by omega, rfl, by simp [bsV], rfl⟩
  rintro q t11 t82 H' ⟨i, hi, rfl, rfl, rfl, rfl⟩ hsc2 hlen2 hsF2 Kb2 hKb2
  by_cases hlt : i < e.binds.length
  · have hbi := hbr _ (List.getElem_mem hlt)
    have hbl := kbl _ (List.getElem_mem hlt)
    have hsn := bsV_snoc (bs := e.binds.map (typesOf c)) (i := i) (by simpa using hlt)
    have hbt : (bsV ((e.binds.map (typesOf c)).take i)).length = i := by simp [bsV]; omega
    rw [List.getElem_map] at hsn
    generalize hl : e.binds[i] = l at *
    simp [zq51_b16, hlt, hl]
    obtain ⟨B3, hB3'⟩ : ∃ B3, B3 = B2 ++ [.perm e_S_api_Type 1 i] := ⟨_, rfl⟩
    have hB3l : B3.length = H.length + 5 := by rw [hB3']; simp; omega
    have hB32 : B3[H.length]? = some (.cells (cCells c)) := by rw [hB3']; exact app_get hB22
    rw [← hB3']
    rw [← hB3'] at hsc2
    unfold zq51_l20
    refine ALoop.own 14 e_api_Type 3 rfl ?_
    generalize hbv : bsV ((e.binds.map (typesOf c)).take i) = bv at *
    show zq51_l20 (.ptr H.length 0) (.ptr (H.length + 1) 0) (.sl (VT.css (typesOf c e.vars)) (.own B.length)) (.sl (VT.css (etysOf c e.kids)) (.own B1.length)) (.sl bv (.own B2.length)) (.sl [] (.own B3.length)) (.sl (rows e.binds) .none) (.int .i64 e.binds.length) (.int .i64 i) (.sl (ints l) .none) (.int .i64 l.length) (.int .i64 0) (B3 ++ [.perm e_api_Type 3 0]) (Out H.length K) Kb2
    refine zq51_loop20 (Inv := fun q t14 t88 H' => ∃ j : Nat, j ≤ l.length ∧ q = l.length - j ∧ t88 = .int .i64 j ∧ t14 = .sl (VT.css (typesOf c (l.take j))) (.own B3.length) ∧ H' = B3 ++ [.perm e_api_Type 3 j]) l.length ?_ ?_
    · intro _; exact ⟨0, by omega, by omega, rfl, by simp [typesOf, VT.css], rfl⟩
    rintro q t14 t88 H' ⟨j, hj, rfl, rfl, rfl, rfl⟩ hsc3 hlen3 hsF3 Kb3 hKb3
    by_cases hjl : j < l.length
    · simp only [zq51_b20, aLss_int, decide_eq_true (show (j : Int) < l.length by omega), aTest_t]
      refine ty_step rfl hB32 hbi hjl (by omega) ?_
      simp only [aAdd_int]
      rw [wrap_in (by omega) (by omega)]
      refine hKb3 _ _ ⟨l.length - (j + 1), by omega, Back.here (by simp) (HSc.permN hsc3 _) ?_ ⟨_, _, rfl, j + 1, by omega, rfl, by simp, rfl, rfl⟩⟩
      simp [zq51_fr20, AV.sc, AV.scV, AV.scA, AV.scB]; omega
    obtain rfl : j = l.length := by omega
    rw [List.take_length] at *
    simp [zq51_b20, buildS_sl]
    simp [aAppend, aSrc, aAppTo, hbt, hB3']
    refine ⟨by omega, ?_⟩
    rw [wrap_in (by omega) (by omega), ← hsn]
    refine hKb2 _ _ ⟨e.binds.length - (i + 1), by omega, Back.at (J := [_]) (H2 := B2 ++ [.perm e_S_api_Type 1 (i + 1)]) (by simp; rfl) (by simp) (HSc.permN (hB3' ▸ hsc2) _) ?_ ⟨_, _, rfl, i + 1, by omega, rfl, by simp, rfl, rfl⟩⟩
    simp [zq51_fr16, AV.sc, AV.scV, AV.scA, AV.scB]; omega
  obtain rfl : i = e.binds.length := by omega
  rw [List.take_of_length_le (by simp)] at *
  simp [zq51_b16, aBuild, fillA, hB2l]
  have hHH : B2 ++ [.perm e_S_api_Type 1 e.binds.length, .cells [.int .i64 1, .int .i64 0, .snil], .cells [.int .i64 2, .int .i64 0, .snil], .cells [.int .i64 3, .int .i64 0, .snil]] = H ++ [.cells (cCells c), .cells (eCells e), .perm e_api_Type 3 e.vars.length, .perm e_api_Type 3 e.kids.length, .perm e_S_api_Type 1 e.binds.length, .cells [.int .i64 1, .int .i64 0, .snil], .cells [.int .i64 2, .int .i64 0, .snil], .cells [.int .i64 3, .int .i64 0, .snil]] := by rw [hB2', hB1, hB]; simp
  rw [hHH]
  simp only [Nat.add_assoc, Nat.reduceAdd]
  unfold zq51_j3
  refine AWp.reCell (id := H.length + 5) (cs := [.int .i64 1, .int .i64 0, .snil]) [.int .i64 1, .int .i64 0, .sl [] .none] (by simp) ⟨.refl _, .refl _, .snil, trivial⟩ ?_
  refine AWp.reCell (id := H.length + 6) (cs := [.int .i64 2, .int .i64 0, .snil]) [.int .i64 2, .int .i64 0, .sl [] .none] (by simp) ⟨.refl _, .refl _, .snil, trivial⟩ ?_
  refine AWp.reCell (id := H.length + 7) (cs := [.int .i64 3, .int .i64 0, .snil]) [.int .i64 3, .int .i64 0, .sl [] .none] (by simp) ⟨.refl _, .refl _, .snil, trivial⟩ ?_
  simp only [set_len_add, List.set_cons_succ, List.set_cons_zero]
  show zq51_j3 (.ptr H.length 0) (.ptr (H.length + 1) 0) (.sl (VT.css (typesOf c e.vars)) (.own B.length)) (.sl (VT.css (etysOf c e.kids)) (.own B1.length)) (.sl (bsV (e.binds.map (typesOf c))) (.own (H.length + 4))) (.ptr (H.length + 5) 0) (.ptr (H.length + 6) 0) (.ptr (H.length + 7) 0) (ruleH H c e (.perm e_api_Type 3 e.vars.length) (.perm e_api_Type 3 e.kids.length) (.perm e_S_api_Type 1 e.binds.length)) (Out H.length K)
  refine zq51_j3_ok fun hs3 => ?_
  unfold zq51_j3b
  have := rule_j4 hr (e.num == 0) ((e.kids.length : Int) == 0) (.own B.length) (.own B1.length) (.own (H.length + 4)) hs (.perm e_api_Type 3 e.vars.length) (.perm e_api_Type 3 e.kids.length) (.perm e_S_api_Type 1 e.binds.length) K hO'
  simp [ruleH, eCells] at this ⊢
  exact this
end Go.Proofs.Ytkdmpbhbmmhijaa

