/- The checker's function storage. -/
import Derived.Test.YtkdmpbhbmmhijaaKBb
namespace Go.Proofs.Ytkdmpbhbmmhijaa
open Go Go.Abs
set_option linter.unusedSimpArgs false
set_option linter.unusedVariables false
set_option maxRecDepth 8000
def stF (c : Cor) (e : CEx) (el : VT) : Bool :=
  if e.op = 15 then VT.sameL (typesOf c e.vars) [sm 1, el] && e.ty.same (.mk 7 0 [el])
  else if e.op = 16 then VT.sameL (typesOf c e.vars) [.mk 7 0 [el], sm 1] && e.ty.same el
  else if e.op = 17 then VT.sameL (typesOf c e.vars) [.mk 7 0 [el], sm 1, el] && e.ty.same (sm 3)
  else if e.op = 18 then e.ty.same (sm 1)
  else if e.op = 19 then e.ty.same (.mk 8 0 [el])
  else if e.op = 20 then e.ty.same el
  else VT.sameL (typesOf c e.vars) [.mk 8 0 [el], el] && e.ty.same (sm 3)
theorem st_j3 {c : Cor} {e : CEx} (hx : ExIn c e) {u kid : Nat} {H : Heap} (hk : H[kid]? = some (ckB c u)) (hs : HSc H) (el : VT) (X : AB) (K : Kt) (hb : ∀ b, stF c e el = b → ∀ J, Out H.length K (.bool b) (H ++ J)) :
    zq96_j3 (.ptr kid 0) (.ptr H.length 0) (.ptr (H.length + 1) 0) (.ptr (H.length + 2) 0) (.ptr (H.length + 3) 0) (H ++ [.cells e.cs, .cells (sm 1).cs, .cells (sm 3).cs, .cells el.cs, X]) (Out H.length K) := by
  obtain ⟨hc, ⟨kv, kb, kk, kt, kbl⟩, hvr, hkr, hbk, hbr, hcr, hvt⟩ := hx
  obtain ⟨x, y, z, hv, hx, hy, hz, hat⟩ := ex3 e
  obtain ⟨x1, y1, z1, hv1, hx1, hy1, hz1⟩ := vt3 el
  have hg : ∀ J, (H ++ J)[kid]? = some (ckB c u) := fun J => app_get hk
  have hR := stF.eq_1 c e el
  have h1 : (sm 1).cs = [.int .i64 1, .int .i64 0, .sl [] .none] := rfl
  have h3 : (sm 3).cs = [.int .i64 3, .int .i64 0, .sl [] .none] := rfl
  have ha : (VT.mk 7 0 [el]).cs = [.int .i64 7, .int .i64 0, .sl [el.cs] .none] := rfl
  have hr : (VT.mk 8 0 [el]).cs = [.int .i64 8, .int .i64 0, .sl [el.cs] .none] := rfl
  simp [zq96_j3, hv1]
  rw [← hv1, buildS_vt]
  refine aPureX_call (.agg (VT.mk 7 0 [el]).cs) (fun J => form_tok 7 [el] rfl _ _ ⟨rfl, rfl⟩) ?_
  rw [buildS_vt]
  refine aPureX_call (.agg (VT.mk 8 0 [el]).cs) (fun J => form_tok 8 [el] rfl _ _ ⟨rfl, rfl⟩) ?_
  by_cases h15 : e.op = 15
  · rw [if_pos h15] at hR
    simp [hat, ha, hr, h1, h3, h15, hv1]
    rw [← h1, ← hv1, buildS_vt2]
    refine have_tok hc (hg _) (by omega) hvr [sm 1, el] rfl _ ?_
    cases hsl : VT.sameL (typesOf c e.vars) [sm 1, el] with
    | false =>
      rw [hsl, Bool.false_and] at hR
      simp
      exact hb _ hR _
    | true =>
      rw [hsl, Bool.true_and] at hR
      simp [h1]
      rw [← hv, ← ha]
      refine Equal_spec (by omega) _ _ ?_
      exact hb _ hR _
  rw [if_neg h15] at hR
  by_cases h16 : e.op = 16
  · rw [if_pos h16] at hR
    simp [nb h15, hat, ha, hr, h1, h3, h16, hv1]
    rw [← h1, ← hv1, ← ha, buildS_vt2]
    refine have_tok hc (hg _) (by omega) hvr [.mk 7 0 [el], sm 1] rfl _ ?_
    cases hsl : VT.sameL (typesOf c e.vars) [.mk 7 0 [el], sm 1] with
    | false =>
      rw [hsl, Bool.false_and] at hR
      simp
      exact hb _ hR _
    | true =>
      rw [hsl, Bool.true_and] at hR
      simp [h1, hv1]
      rw [← hv, ← hv1]
      refine Equal_spec (by omega) _ _ ?_
      exact hb _ hR _
  rw [if_neg h16] at hR
  by_cases h17 : e.op = 17
  · rw [if_pos h17] at hR
    simp [nb h15, nb h16, hat, ha, hr, h1, h3, h17, hv1]
    rw [← h1, ← hv1, ← ha, buildS_vt3]
    refine have_tok hc (hg _) (by omega) hvr [.mk 7 0 [el], sm 1, el] rfl _ ?_
    cases hsl : VT.sameL (typesOf c e.vars) [.mk 7 0 [el], sm 1, el] with
    | false =>
      rw [hsl, Bool.false_and] at hR
      simp
      exact hb _ hR _
    | true =>
      rw [hsl, Bool.true_and] at hR
      simp [h1, h3]
      rw [← hv, ← h3]
      refine Equal_spec (by omega) _ _ ?_
      exact hb _ hR _
  rw [if_neg h17] at hR
  simp [hat, ha, hr, h1, h3, nb h15, nb h16, nb h17, hv1]
  refine zq96_j4_ok fun hs4 => ?_
  unfold zq96_j4b
  by_cases h18 : e.op = 18
  · rw [if_pos h18] at hR
    simp [h18]
    rw [← hv, ← h1]
    refine Equal_spec (by omega) _ _ ?_
    exact hb _ hR _
  rw [if_neg h18] at hR
  by_cases h19 : e.op = 19
  · rw [if_pos h19] at hR
    simp [h19]
    rw [← hv, ← hv1, ← hr]
    refine Equal_spec (by omega) _ _ ?_
    exact hb _ hR _
  rw [if_neg h19] at hR
  by_cases h20 : e.op = 20
  · rw [if_pos h20] at hR
    simp [h20]
    rw [← hv, ← hv1]
    refine Equal_spec (by omega) _ _ ?_
    exact hb _ hR _
  rw [if_neg h20] at hR
  simp [nb h18, nb h19, nb h20]
  rw [← hv1, ← hr, buildS_vt2]
  refine have_tok hc (hg _) (by omega) hvr [.mk 8 0 [el], el] rfl _ ?_
  cases hsl : VT.sameL (typesOf c e.vars) [.mk 8 0 [el], el] with
  | false =>
    rw [hsl, Bool.false_and] at hR
    simp
    exact hb _ hR _
  | true =>
    rw [hsl, Bool.true_and] at hR
    simp
    rw [← hv, ← h3]
    refine Equal_spec (by omega) _ _ ?_
    exact hb _ hR _
def cntL : List Int := [0, 0, 0, 0, 0, 0, 0, 0, 0, 0, 0, 0, 0, 0, 0, 2, 2, 3, 1, 1, 1, 2]
theorem buildS_cnt {k : AV → Prop} : aBuildS 1 [.int .i64 0] 22 [(15, .int .i64 2), (16, .int .i64 2), (17, .int .i64 3), (18, .int .i64 1), (19, .int .i64 1), (20, .int .i64 1), (21, .int .i64 2)] k = k (.sl (ints cntL) .full) := propext Iff.rfl
def kid0 (t : VT) : VT := t.kids.getD 0 (.mk 0 0 [])
def stR (c : Cor) (e : CEx) : Bool :=
  if 15 ≤ e.op ∧ e.op ≤ 21 then shapeB e (cntL.getD e.op.toNat 0) 0 && (
    if e.op = 15 then stF c e (vty c (e.vars.getD 1 0))
    else if e.op = 19 then stF c e (vty c (e.vars.getD 0 0))
    else if e.op = 16 ∨ e.op = 17 ∨ e.op = 18 then (vty c (e.vars.getD 0 0)).kind == 7 && stF c e (kid0 (vty c (e.vars.getD 0 0)))
    else (vty c (e.vars.getD 0 0)).kind == 8 && stF c e (kid0 (vty c (e.vars.getD 0 0))))
  else false
theorem cntL_low : ∀ n : Nat, n < 15 → ∀ h : n < cntL.length, cntL[n] = 0 := by decide
theorem cntL_high : ∀ n : Nat, n < 22 → 15 ≤ n → ∀ h : n < cntL.length, 1 ≤ cntL[n] ∧ (n = 15 → cntL[n] = 2) := by decide
theorem storage_spec {c : Cor} {e : CEx} (hx : ExIn c e) {u kid : Nat} {H : Heap} (hk : H[kid]? = some (ckB c u)) (K : Kt) (hK : K (.bool (stR c e)) H) :
    ACalls tP n_zq96 [.ptr kid 0, .agg e.cs] H K := by
  refine ACalls.out (zq96_ok fun hs => ?_)
  have hx0 := hx
  obtain ⟨hc, ⟨kv, kb, kk, kt, kbl⟩, hvr, hkr, hbk, hbr, hcr, hvt⟩ := hx
  obtain ⟨x, y, z, hv, hx, hy, hz, hat⟩ := ex3 e
  have hO : ∀ J, Out H.length K (.bool (stR c e)) (H ++ J) := fun J => Out.bool rfl (Nat.le_refl _) hs hK
  have hg : ∀ J, (H ++ J)[kid]? = some (ckB c u) := fun J => app_get hk
  have hb : ∀ b, stR c e = b → ∀ J, Out H.length K (.bool b) (H ++ J) := fun b h J => h ▸ hO J
  have hR := stR.eq_1 c e
  have hcl : cntL.length = 22 := rfl
  simp [zq96, hat, buildS_cnt, hcl]
  by_cases h0 : e.op < 0
  · rw [if_neg (by omega)] at hR
    simp [h0]
    exact hb _ hR _
  by_cases h22 : (22 : Int) ≤ e.op
  · rw [if_neg (by omega)] at hR
    simp [h0, h22, hcl]
    exact hb _ hR _
  obtain ⟨n, hn⟩ : ∃ n : Nat, e.op = n := ⟨e.op.toNat, by omega⟩
  have hn22 : n < 22 := by omega
  have hn0 : ¬ (n : Int) < 0 := by omega
  have hnx : ¬ (22 : Int) ≤ n := by omega
  have hcn : n < cntL.length := by omega
  by_cases h15 : n < 15
  · rw [if_neg (by omega)] at hR
    have hz := cntL_low n h15 hcn
    simp [h0, h22, hn, hn0, hnx, hcn, hcl, hn22, hz]
    refine ⟨by omega, ?_⟩
    exact hb _ hR _
  obtain ⟨hc1, hc2⟩ := cntL_high n hn22 (by omega) hcn
  rw [if_pos (by omega)] at hR
  have hcd : cntL.getD e.op.toNat 0 = cntL[n] := by rw [hn, Int.toNat_natCast, List.getD_eq_getElem?_getD, List.getElem?_eq_getElem hcn]; rfl
  rw [hcd] at hR
  have hm0 : (cntL[n] == 0) = false := nb (by omega)
  have hat' := hat
  rw [hn] at hat'
  simp [h0, h22, hn, hn0, hnx, hcn, hcl, hn22, hm0]
  refine ⟨by omega, ?_⟩
  rw [← hat']
  generalize cntL[n] = m at *
  refine aPureX_call (.bool (shapeB e m 0)) (fun J => shape_spec e _ _ _ _ ⟨rfl, rfl⟩) ?_
  cases hsh : shapeB e m 0 with
  | false =>
    rw [hsh, Bool.false_and] at hR
    simp
    exact hb _ hR _
  | true =>
  rw [hsh, Bool.true_and] at hR
  have hvn : (e.vars.length : Int) = m := by simp [shapeB] at hsh; omega
  have hvl1 : 0 < e.vars.length := by omega
  obtain ⟨v, hv0, hv1, hvl, hvt0⟩ := one_var hvr hvl1
  obtain ⟨x1, y1, z1, hw, hx1, hy1, hz1⟩ := vt3 c.vars[v]
  obtain ⟨rfl, rfl, rfl⟩ := kind_of hw
  have h1 : (sm 1).cs = [.int .i64 1, .int .i64 0, .sl [] .none] := rfl
  have h3 : (sm 3).cs = [.int .i64 3, .int .i64 0, .sl [] .none] := rfl
  rw [hvt0] at hR
  simp
  refine zq96_j1_ok fun hs1 => ?_
  unfold zq96_j1b
  refine simple_spec _ _ _ ?_
  refine simple_spec _ _ _ ?_
  have hH : ∀ el : VT, H ++ [.cells e.cs, .cells (sm 1).cs, .cells (sm 3).cs, .cells el.cs, .cells (c.vars[v]).cs] = H ++ [.cells [.int .i64 n, .int .i64 e.num, .sl (ints e.vars) .none, .sl (rows e.binds) .none, .sl (ints e.kids) .none, x, y, z], .cells [.int .i64 1, .int .i64 0, .sl [] .none], .cells [.int .i64 3, .int .i64 0, .sl [] .none], .cells el.cs, .cells [.int .i64 (c.vars[v]).kind, .int .i64 (c.vars[v]).num, .sl (VT.css (c.vars[v]).kids) .none]] := fun el => by rw [hat', hw]; rfl
  have j3 : ∀ el : VT, stR c e = stF c e el → zq96_j3 (.ptr kid 0) (.ptr H.length 0) (.ptr (H.length + 1) 0) (.ptr (H.length + 2) 0) (.ptr (H.length + 3) 0) (H ++ [.cells [.int .i64 n, .int .i64 e.num, .sl (ints e.vars) .none, .sl (rows e.binds) .none, .sl (ints e.kids) .none, x, y, z], .cells [.int .i64 1, .int .i64 0, .sl [] .none], .cells [.int .i64 3, .int .i64 0, .sl [] .none], .cells el.cs, .cells [.int .i64 (c.vars[v]).kind, .int .i64 (c.vars[v]).num, .sl (VT.css (c.vars[v]).kids) .none]]) (Out H.length K) := fun el h => by
    rw [← hH el]
    exact st_j3 hx0 hk hs el _ K (fun b hbb J => hb b (h.trans hbb) J)
  by_cases h15' : n = 15
  · obtain ⟨v2, hv2⟩ : ∃ v2 : Nat, e.vars[1]'(by omega) = v2 := ⟨(e.vars[1]'(by omega)).toNat, by have := hvr _ (List.getElem_mem (show 1 < e.vars.length by omega)); omega⟩
    have hv2l : v2 < c.vars.length := by have := hvr _ (List.getElem_mem (show 1 < e.vars.length by omega)); omega
    have hvl2 : 1 < e.vars.length := by omega
    have hv2t : vty c (e.vars.getD 1 0) = c.vars[v2] := by
      rw [List.getD_eq_getElem?_getD, List.getElem?_eq_getElem hvl2, Option.getD_some, hv2, vty_eq hv2l]
    rw [if_pos (by omega), hv2t] at hR
    obtain ⟨x2, y2, z2, hw2, hx2, hy2, hz2⟩ := vt3 c.vars[v2]
    have := j3 _ hR
    rw [hw2] at this
    subst h15'
    simp [hat', h1, h3, sm, VT.cs, VT.css, hg, ckB, hvl1, hv1, hvl, hw, hvl2, hv2, hv2l, hw2, hx2, hy2, hz2, zq96_j2, Nat.add_assoc] at this ⊢
    exact ⟨by omega, this⟩
  rw [if_neg (by omega)] at hR
  have n15 : ((n : Int) == 15) = false := nb (by omega)
  by_cases h19' : n = 19
  · rw [if_pos (by omega)] at hR
    have := j3 _ hR
    rw [hw] at this
    subst h19'
    simp [hat', h1, h3, sm, VT.cs, VT.css, hg, ckB, hvl1, hv1, hvl, hw, zq96_j2, Nat.add_assoc] at this ⊢
    exact this
  rw [if_neg (by omega)] at hR
  have n19 : ((n : Int) == 19) = false := nb (by omega)
  have el1 : (c.vars[v]).kind = 7 ∨ (c.vars[v]).kind = 8 → ∃ a, (c.vars[v]).kids = [a] ∧ kid0 c.vars[v] = a := fun h => by
    obtain ⟨a, ha, _⟩ := vt_one (hvt _ (List.getElem_mem hvl)) h
    exact ⟨a, ha, by simp [kid0, ha]⟩
  have j5 : ∀ b : Bool, (b = true ↔ n = 16 ∨ n = 17 ∨ n = 18) → zq96_j5 (.ptr kid 0) (.ptr H.length 0) (.ptr (H.length + 1) 0) (.ptr (H.length + 2) 0) (.ptr (H.length + 3) 0) (.ptr (H.length + 4) 0) (.bool b) (H ++ [.cells [.int .i64 n, .int .i64 e.num, .sl (ints e.vars) .none, .sl (rows e.binds) .none, .sl (ints e.kids) .none, x, y, z], .cells [.int .i64 1, .int .i64 0, .sl [] .none], .cells [.int .i64 3, .int .i64 0, .sl [] .none], .cells [.int .i64 0, .int .i64 0, .snil], .cells [.int .i64 (c.vars[v]).kind, .int .i64 (c.vars[v]).num, .sl (VT.css (c.vars[v]).kids) .none]]) (Out H.length K) := fun b hbb => by
    refine zq96_j5_ok fun hs5 => ?_
    unfold zq96_j5b
    cases b with
    | true =>
      rw [if_pos (by have := hbb.1 rfl; omega)] at hR
      by_cases hk7 : (c.vars[v]).kind ≠ 7
      · rw [nb hk7, Bool.false_and] at hR
        simp [nbt hk7]
        exact hb _ hR _
      have hk7' : (c.vars[v]).kind = 7 := by simpa using hk7
      obtain ⟨a, ha, ha0⟩ := el1 (.inl hk7')
      rw [hk7', ha0] at hR
      simp only [beq_self_eq_true, Bool.true_and] at hR
      have := j3 _ hR
      obtain ⟨x2, y2, z2, hw2, hx2, hy2, hz2⟩ := vt3 a
      rw [hw2] at this
      simp [hk7', ha, VT.css, hw2, hx2, hy2, hz2, zq96_j2] at this ⊢
      exact this
    | false =>
      rw [if_neg (by intro h; have := hbb.2 (by omega); cases this)] at hR
      by_cases hk7 : (c.vars[v]).kind ≠ 8
      · rw [nb hk7, Bool.false_and] at hR
        simp [nbt hk7]
        exact hb _ hR _
      have hk7' : (c.vars[v]).kind = 8 := by simpa using hk7
      obtain ⟨a, ha, ha0⟩ := el1 (.inr hk7')
      rw [hk7', ha0] at hR
      simp only [beq_self_eq_true, Bool.true_and] at hR
      have := j3 _ hR
      obtain ⟨x2, y2, z2, hw2, hx2, hy2, hz2⟩ := vt3 a
      rw [hw2] at this
      simp [hk7', ha, VT.css, hw2, hx2, hy2, hz2, zq96_j2] at this ⊢
      exact this
  simp [hat', h1, h3, sm, VT.cs, VT.css, hg, ckB, hvl1, hv1, hvl, hw, n15, n19, Nat.add_assoc]
  by_cases h16 : n = 16
  · have := j5 true (by simp [h16])
    subst h16
    simpa using this
  by_cases h17 : n = 17
  · have := j5 true (by simp [h17])
    subst h17
    simpa using this
  have n16 : ((n : Int) == 16) = false := nb (by omega)
  have n17 : ((n : Int) == 17) = false := nb (by omega)
  simp [n16, n17]
  refine j5 _ ?_
  simp
  omega
def isNum (e : CEx) : Prop := e.op = 6 ∨ e.op = 11 ∨ e.op = 12 ∨ e.op = 14
def isPar (e : CEx) : Prop := e.op = 7 ∨ e.op = 24 ∨ e.op = 8 ∨ e.op = 9 ∨ e.op = 10
instance (e : CEx) : Decidable (isNum e) := by unfold isNum; infer_instance
instance (e : CEx) : Decidable (isPar e) := by unfold isPar; infer_instance
def restR (c : Cor) (e : CEx) : Bool :=
  if e.num ≠ 0 then false
  else if e.op = 1 then shapeB e 0 0 && e.ty.same (sm 3)
  else if e.op = 4 then shapeB e 1 0 && VT.sameL (typesOf c e.vars) [e.ty]
  else if e.op = 5 then shapeB e (-1) 0 && (decide (2 ≤ e.vars.length) && (decide (e.vars.length ≤ 6) && e.ty.same (.mk 6 0 (typesOf c e.vars))))
  else if e.op = 13 then shapeB e (-1) 0 && (decide (1 ≤ e.vars.length) && (vty c (e.vars.getD 0 0)).same (.mk 9 0 (typesOf c (e.vars.drop 1) ++ [e.ty])))
  else if e.op = 23 then shapeB e 1 0 && (VT.sameL (typesOf c e.vars) [sm 1] && tyValid c.data 0 e.ty)
  else if isPar e then parR c e
  else stR c e
def progRule (c : Cor) (e : CEx) : Bool :=
  if isNum e then numR c e
  else if e.op = 2 then shapeB e 0 0 && ((e.num == 0 || e.num == 1) && e.ty.same (sm 2))
  else if e.op = 3 then shapeB e 0 0 && ((decide (-1000000 ≤ e.num) && decide (e.num ≤ 1000000)) && e.ty.same (sm 1))
  else if e.op = 22 then shapeB e 0 0 && ((decide (-1000 ≤ e.num) && decide (e.num ≤ 1000)) && e.ty.same (sm 3))
  else restR c e
theorem rest_j2 {c : Cor} {e : CEx} (hx : ExIn c e) {u kid : Nat} {H : Heap} (hk : H[kid]? = some (ckB c u)) (hs : HSc H) (K : Kt) (hb : ∀ b, restR c e = b → ∀ J, Out H.length K (.bool b) (H ++ J)) :
    zq74_j2 (.ptr kid 0) (.ptr H.length 0) (H ++ [.cells e.cs]) (Out H.length K) := by
  refine zq74_j2_ok fun hs2 => ?_
  unfold zq74_j2b
  have hx0 := hx
  obtain ⟨hc, ⟨kv, kb, kk, kt, kbl⟩, hvr, hkr, hbk, hbr, hcr, hvt⟩ := hx
  obtain ⟨x, y, z, hv, hx, hy, hz, hat⟩ := ex3 e
  have hg : ∀ J, (H ++ J)[kid]? = some (ckB c u) := fun J => app_get hk
  have hR := restR.eq_1 c e
  by_cases hn0 : e.num ≠ 0
  · rw [if_pos hn0] at hR
    simp [hat, nbt hn0]
    exact hb _ hR _
  rw [if_neg hn0] at hR
  have hn : e.num = 0 := by simpa using hn0
  have hatn := hat
  rw [hn] at hatn
  by_cases h1 : e.op = 1
  · rw [if_pos h1] at hR
    have hat7 := hatn
    rw [h1] at hat7
    simp [hat7]
    rw [← hat7]
    refine aPureX_call (.bool (shapeB e 0 0)) (fun J => shape_spec e _ _ _ _ ⟨rfl, rfl⟩) ?_
    cases hsh : shapeB e 0 0 with
    | false =>
      rw [hsh, Bool.false_and] at hR
      simp
      exact hb _ hR _
    | true =>
    rw [hsh, Bool.true_and] at hR
    simp [hat7]
    refine aPureX_call (.agg (sm 3).cs) (fun J => simple_spec _ _ _ ⟨rfl, rfl⟩) ?_
    rw [← hv]
    refine aPureX_call (.bool (e.ty.same (sm 3))) (fun J => Equal_spec (by omega) _ _ ⟨rfl, rfl⟩) ?_
    exact hb _ hR _
  rw [if_neg h1] at hR
  simp [hatn, nb h1]
  refine zq74_j3_ok fun hs3 => ?_
  unfold zq74_j3b
  by_cases h4 : e.op = 4
  · rw [if_pos h4] at hR
    have hat7 := hatn
    rw [h4] at hat7
    simp [h4]
    rw [← hat7]
    refine shape_spec e _ _ _ _ ?_
    cases hsh : shapeB e 1 0 with
    | false =>
      rw [hsh, Bool.false_and] at hR
      simp
      exact hb _ hR _
    | true =>
    rw [hsh, Bool.true_and] at hR
    simp [hat7]
    rw [← hv, buildS_vt]
    refine have_tok hc (hg _) (by omega) hvr [e.ty] rfl _ ?_
    exact hb _ hR _
  rw [if_neg h4] at hR
  by_cases h5 : e.op = 5
  · rw [if_pos h5] at hR
    have hat7 := hatn
    rw [h5] at hat7
    simp [h5]
    rw [← hat7]
    refine aPureX_call (.bool (shapeB e (-1) 0)) (fun J => shape_spec e _ _ _ _ ⟨rfl, rfl⟩) ?_
    cases hsh : shapeB e (-1) 0 with
    | false =>
      rw [hsh, Bool.false_and] at hR
      simp
      exact hb _ hR _
    | true =>
    rw [hsh, Bool.true_and] at hR
    by_cases h2 : 2 ≤ e.vars.length
    · have h2' : (2 : Int) ≤ e.vars.length := by omega
      by_cases h6 : e.vars.length ≤ 6
      · have h6' : (e.vars.length : Int) ≤ 6 := by omega
        simp only [h2, h6, decide_true, Bool.true_and] at hR
        simp [hat7, h2', h6']
        refine aPureX_call (.sl (VT.css (typesOf c e.vars)) .none) (fun J => types_spec (app_get (hg _)) (by omega) hvr _ fun _ => ⟨rfl, rfl⟩) ?_
        refine aPureX_call (.agg (VT.mk 6 0 (typesOf c e.vars)).cs) (fun J => form_spec _ _ _ _ ⟨rfl, rfl⟩) ?_
        rw [← hv]
        refine aPureX_call (.bool (e.ty.same (.mk 6 0 (typesOf c e.vars)))) (fun J => Equal_spec (by omega) _ _ ⟨rfl, rfl⟩) ?_
        exact hb _ hR _
      · have h6' : ¬ (e.vars.length : Int) ≤ 6 := by omega
        simp only [h2, h6, decide_true, decide_false, Bool.true_and, Bool.false_and] at hR
        simp [hat7, h2', h6']
        exact hb _ hR _
    · have h2' : ¬ (2 : Int) ≤ e.vars.length := by omega
      simp only [h2, decide_false, Bool.false_and] at hR
      simp [hat7, h2']
      exact hb _ hR _
  rw [if_neg h5] at hR
  by_cases h13 : e.op = 13
  · rw [if_pos h13] at hR
    have hat7 := hatn
    rw [h13] at hat7
    simp [h13]
    rw [← hat7]
    refine aDet_same (.bool (shapeB e (-1) 0)) (shape_spec e _ _ _ _ ⟨rfl, rfl⟩) ?_
    cases hsh : shapeB e (-1) 0 with
    | false =>
      rw [hsh, Bool.false_and] at hR
      simp
      exact hb _ hR _
    | true =>
    rw [hsh, Bool.true_and] at hR
    by_cases h1v : 1 ≤ e.vars.length
    · have h1' : (1 : Int) ≤ e.vars.length := by omega
      simp only [h1v, decide_true, Bool.true_and] at hR
      obtain ⟨v, hv0, hv1, hvl, hvt0⟩ := one_var hvr h1v
      rw [hvt0] at hR
      obtain ⟨x1, y1, z1, hw, hx1, hy1, hz1⟩ := vt3 c.vars[v]
      have hvl1 : 0 < e.vars.length := by omega
      simp [hat7, h1', hg, ckB, hvl1, hv1, hvl, hw]
      have htl : ((ints e.vars).take e.vars.length).tail = ints (e.vars.drop 1) := by
        rw [List.take_of_length_le (by simp)]
        simp [ints, List.map_tail]
      have hvr1 : inV c (e.vars.drop 1) := fun q hq => hvr q (List.mem_of_mem_drop hq)
      have hdl : (e.vars.drop 1).length ≤ 40 := by simp; omega
      rw [htl]
      refine ⟨⟨h1v, fun q hq => ?_⟩, ?_⟩
      · simp [ints] at hq
        obtain ⟨_, _, rfl⟩ := hq
        rfl
      generalize e.vars.drop 1 = l at *
      refine aDet_grow _ _ (types_own (hg _) (by omega) hvr1 _ fun _ => ⟨rfl, rfl⟩) (growA_acc _ _ _ _) ?_
      simp
      rw [← hv, buildS_vt]
      refine aDet_append (List.append_assoc _ [_] _).symm (by simp [typesOf]) (by simp) (by simp) (by simp [typesOf]; omega) (by simp [typesOf]; omega) ?_
      refine aDet_same (.agg (VT.mk 9 0 (typesOf c l ++ [e.ty])).cs) (form_acc 9 (typesOf c l ++ [e.ty]) (by simp [VT.css_map]) _ _ ⟨rfl, rfl⟩) ?_
      rw [← hw]
      refine aDet_same (.bool ((c.vars[v]).same (.mk 9 0 (typesOf c l ++ [e.ty])))) (Equal_spec (by have := hc.2.2.2.1.2 _ (List.getElem_mem hvl); omega) _ _ ⟨rfl, rfl⟩) ?_
      simp
      exact hb _ hR _
    · have h1' : ¬ (1 : Int) ≤ e.vars.length := by omega
      simp only [h1v, decide_false, Bool.false_and] at hR
      simp [hat7, h1']
      exact hb _ hR _
  rw [if_neg h13] at hR
  by_cases h23 : e.op = 23
  · rw [if_pos h23] at hR
    have hat7 := hatn
    rw [h23] at hat7
    simp [h23]
    rw [← hat7]
    refine aPureX_call (.bool (shapeB e 1 0)) (fun J => shape_spec e _ _ _ _ ⟨rfl, rfl⟩) ?_
    cases hsh : shapeB e 1 0 with
    | false =>
      rw [hsh, Bool.false_and] at hR
      simp
      exact hb _ hR _
    | true =>
    rw [hsh, Bool.true_and] at hR
    simp [hat7]
    refine aPureX_call (.agg (sm 1).cs) (fun J => simple_spec _ _ _ ⟨rfl, rfl⟩) ?_
    rw [buildS_vt]
    refine aPureX_call (.bool (VT.sameL (typesOf c e.vars) [sm 1])) (fun J => have_tok hc (app_get (hg _)) (by omega) hvr [sm 1] rfl _ ⟨rfl, rfl⟩) ?_
    cases hsl : VT.sameL (typesOf c e.vars) [sm 1] with
    | false =>
      rw [hsl, Bool.false_and] at hR
      simp
      exact hb _ hR _
    | true =>
    rw [hsl, Bool.true_and] at hR
    simp [hg, ckB]
    rw [← hv]
    refine aPureX_call (.bool (tyValid c.data 0 e.ty)) (fun J => zq68_spec c.data 0 _ (by omega) _ _ ⟨rfl, rfl⟩) ?_
    exact hb _ hR _
  rw [if_neg h23] at hR
  have j4 : ∀ b : Bool, (b = true ↔ isPar e) → zq74_j4 (.ptr kid 0) (.ptr H.length 0) (.bool b) (H ++ [.cells e.cs]) (Out H.length K) := fun b hbb => by
    cases b with
    | true =>
      rw [if_pos (hbb.1 rfl)] at hR
      simp [zq74_j4, hat]
      rw [← hat]
      refine parent_spec hx0 (hg _) _ ?_
      exact hb _ hR _
    | false =>
      rw [if_neg (fun h => by have := hbb.2 h; cases this)] at hR
      simp [zq74_j4, hat]
      rw [← hat]
      refine storage_spec hx0 (hg _) _ ?_
      exact hb _ hR _
  rw [← hatn]
  by_cases h7 : e.op = 7
  · simp [h7]
    exact j4 true (by simp [isPar, h7])
  by_cases h24 : e.op = 24
  · simp [h24]
    exact j4 true (by simp [isPar, h24])
  by_cases h8 : e.op = 8
  · simp [h8]
    exact j4 true (by simp [isPar, h8])
  by_cases h9 : e.op = 9
  · simp [h9]
    exact j4 true (by simp [isPar, h9])
  simp [nb h4, nb h5, nb h13, nb h23, nb h7, nb h24, nb h8, nb h9]
  exact j4 _ (by simp [isPar, h7, h24, h8, h9])
theorem valid_spec {c : Cor} {e : CEx} (hx : ExIn c e) {u kid : Nat} {us : List Int} {H : Heap} (hk : H[kid]? = some (ckB c u)) (hu : H[u]? = some (usB us)) (hne : u ≠ kid) (hlen : us.length = c.codes.length) (hus : ∀ x ∈ us, 0 ≤ x ∧ x ≤ 1000000)
    (K : Kt) (hT : progRule c e = true → K (.bool true) (H.set u (usB (usesF e us)))) (hF : progRule c e = false → ∀ us', us'.length = us.length → K (.bool false) (H.set u (usB us'))) :
    ACalls tP n_zq74 [.ptr kid 0, .agg e.cs] H K := by
  refine ACalls.out (zq74_ok fun hs => ?_)
  have hx0 := hx
  obtain ⟨hc, ⟨kv, kb, kk, kt, kbl⟩, hvr, hkr, hbk, hbr, hcr, hvt⟩ := hx
  obtain ⟨x, y, z, hv, hx, hy, hz, hat⟩ := ex3 e
  have hul := lt_get hu
  have scU : ∀ us : List Int, (usB us).sc H.length = true := fun us => by simp [usB, AB.sc, AV.scA, AV.scB]
  have hg : ∀ J, (H ++ J)[kid]? = some (ckB c u) := fun J => app_get hk
  have hgu : ∀ J, (H ++ J)[u]? = some (usB us) := fun J => app_get hu
  have hR := progRule.eq_1 c e
  have oF : progRule c e = false → ∀ us' J, us'.length = us.length → Out H.length K (.bool false) (H.set u (usB us') ++ J) := fun h us' J hl => Out.bool rfl (by simp) (hs.set (scU _)) (hF h us' hl)
  have hb : ¬ isNum e → ∀ b, progRule c e = b → ∀ J, Out H.length K (.bool b) (H ++ J) := fun hno b h J => by
    cases b with
    | false =>
      have := oF h us J rfl
      rwa [set_self hu] at this
    | true =>
      have h2 := hT h
      rw [usesF, if_neg (fun h => hno (.inr (.inl h))), set_self hu] at h2
      exact Out.bool rfl (Nat.le_refl _) hs h2
  have j1 : ∀ b : Bool, (b = true ↔ isNum e) → zq74_j1 (.ptr kid 0) (.ptr H.length 0) (.int .i64 e.op) (.bool b) (H ++ [.cells e.cs]) (Out H.length K) := fun b hbb => by
    refine zq74_j1_ok fun hs1 => ?_
    unfold zq74_j1b
    cases b with
    | true =>
      have hno := hbb.1 rfl
      rw [if_pos hno] at hR
      simp [hat]
      rw [← hat]
      refine numbered_spec hx0 (hg _) (hgu _) hne hlen hus hno _ (fun h => ?_) (fun h us' hl => ?_)
      · rw [app_set _ hu]
        exact Out.bool rfl (by simp) (hs.set (scU _)) (hT (hR.trans h))
      · rw [app_set _ hu]
        exact oF (hR.trans h) us' _ hl
    | false =>
      have hno : ¬ isNum e := fun h => by have := hbb.2 h; cases this
      rw [if_neg hno] at hR
      have hb := hb hno
      by_cases h2 : e.op = 2
      · rw [if_pos h2] at hR
        have hat7 := hat
        rw [h2] at hat7
        simp [h2, hat7]
        rw [← hat7]
        refine aPureX_call (.bool (shapeB e 0 0)) (fun J => shape_spec e _ _ _ _ ⟨rfl, rfl⟩) ?_
        cases hsh : shapeB e 0 0 with
        | false =>
          rw [hsh, Bool.false_and] at hR
          simp
          exact hb _ hR _
        | true =>
        rw [hsh, Bool.true_and] at hR
        have fin : (e.num == 0 || e.num == 1) = true → aPureX (H ++ [.cells e.cs]) (fun H' K' => ACalls tP n_zq90 [.int .i64 2] H' K') fun t => aPureX (H ++ [.cells e.cs]) (fun H' K' => ACalls tP n_zq69 [.agg e.ty.cs, t] H' K') fun t => Out H.length K t (H ++ [.cells e.cs]) := fun h => by
          rw [h, Bool.true_and] at hR
          refine aPureX_call (.agg (sm 2).cs) (fun J => simple_spec _ _ _ ⟨rfl, rfl⟩) ?_
          refine aPureX_call (.bool (e.ty.same (sm 2))) (fun J => Equal_spec (by omega) _ _ ⟨rfl, rfl⟩) ?_
          exact hb _ hR _
        rw [hat7, hv] at fin
        cases hn0 : (e.num == 0) with
        | true => simp [hat7, hn0] at fin ⊢; exact fin
        | false =>
        cases hn1 : (e.num == 1) with
        | true => simp [hat7, hn0, hn1] at fin ⊢; exact fin
        | false =>
          rw [hn0, hn1, Bool.or_false, Bool.false_and] at hR
          simp [hat7, hn0, hn1]
          exact hb _ hR _
      rw [if_neg h2] at hR
      by_cases h3 : e.op = 3
      · rw [if_pos h3] at hR
        have hat7 := hat
        rw [h3] at hat7
        simp [h3, hat7]
        rw [← hat7]
        refine aPureX_call (.bool (shapeB e 0 0)) (fun J => shape_spec e _ _ _ _ ⟨rfl, rfl⟩) ?_
        cases hsh : shapeB e 0 0 with
        | false =>
          rw [hsh, Bool.false_and] at hR
          simp
          exact hb _ hR _
        | true =>
        rw [hsh, Bool.true_and] at hR
        simp [hat7]
        refine aPureX_call (.bool (decide (-1000000 ≤ e.num) && decide (e.num ≤ 1000000))) (fun J => within_spec _ 1000000 (by omega) (by omega) _ _ ⟨rfl, rfl⟩) ?_
        cases hw : (decide (-1000000 ≤ e.num) && decide (e.num ≤ 1000000)) with
        | false =>
          rw [hw, Bool.false_and] at hR
          simp
          exact hb _ hR _
        | true =>
        rw [hw, Bool.true_and] at hR
        simp
        refine aPureX_call (.agg (sm 1).cs) (fun J => simple_spec _ _ _ ⟨rfl, rfl⟩) ?_
        rw [← hv]
        refine aPureX_call (.bool (e.ty.same (sm 1))) (fun J => Equal_spec (by omega) _ _ ⟨rfl, rfl⟩) ?_
        exact hb _ hR _
      rw [if_neg h3] at hR
      by_cases h22 : e.op = 22
      · rw [if_pos h22] at hR
        have hat7 := hat
        rw [h22] at hat7
        simp [h22, hat7]
        rw [← hat7]
        refine aPureX_call (.bool (shapeB e 0 0)) (fun J => shape_spec e _ _ _ _ ⟨rfl, rfl⟩) ?_
        cases hsh : shapeB e 0 0 with
        | false =>
          rw [hsh, Bool.false_and] at hR
          simp
          exact hb _ hR _
        | true =>
        rw [hsh, Bool.true_and] at hR
        simp [hat7]
        refine aPureX_call (.bool (decide (-1000 ≤ e.num) && decide (e.num ≤ 1000))) (fun J => within_spec _ 1000 (by omega) (by omega) _ _ ⟨rfl, rfl⟩) ?_
        cases hw : (decide (-1000 ≤ e.num) && decide (e.num ≤ 1000)) with
        | false =>
          rw [hw, Bool.false_and] at hR
          simp
          exact hb _ hR _
        | true =>
        rw [hw, Bool.true_and] at hR
        simp
        refine aPureX_call (.agg (sm 3).cs) (fun J => simple_spec _ _ _ ⟨rfl, rfl⟩) ?_
        rw [← hv]
        refine aPureX_call (.bool (e.ty.same (sm 3))) (fun J => Equal_spec (by omega) _ _ ⟨rfl, rfl⟩) ?_
        exact hb _ hR _
      rw [if_neg h22] at hR
      simp [nb h2, nb h3, nb h22]
      exact rest_j2 hx0 hk hs K fun b h J => hb b (hR.trans h) J
  simp [zq74, hat]
  rw [← hat]
  by_cases h6 : e.op = 6
  · have := j1 true (by simp [isNum, h6])
    rw [h6] at this
    simp [h6]
    exact this
  by_cases h11 : e.op = 11
  · have := j1 true (by simp [isNum, h11])
    rw [h11] at this
    simp [h11]
    exact this
  by_cases h12 : e.op = 12
  · have := j1 true (by simp [isNum, h12])
    rw [h12] at this
    simp [h12]
    exact this
  simp [nb h6, nb h11, nb h12]
  exact j1 _ (by simp [isNum, h6, h11, h12])
def usesTo (c : Cor) (i : Nat) : List Int := (c.exprs.take i).foldl (fun us e => usesF e us) (List.replicate c.codes.length 0)
theorem usesF_len (e : CEx) (us : List Int) : (usesF e us).length = us.length := by unfold usesF; split <;> simp
theorem uses_fold_len (l : List CEx) : ∀ us : List Int, (l.foldl (fun us e => usesF e us) us).length = us.length := by
  induction l with
  | nil => intro us; rfl
  | cons e l ih => intro us; rw [List.foldl_cons, ih, usesF_len]
theorem usesTo_len (c : Cor) (i : Nat) : (usesTo c i).length = c.codes.length := by rw [usesTo, uses_fold_len]; simp
theorem usesTo_succ {c : Cor} {i : Nat} (h : i < c.exprs.length) : usesTo c (i + 1) = usesF c.exprs[i] (usesTo c i) := by
  rw [usesTo, take_snoc h, List.foldl_append]; rfl
theorem usesF_le {e : CEx} {us : List Int} {B : Int} (h : ∀ x ∈ us, 0 ≤ x ∧ x ≤ B) (hB : 0 ≤ B) : ∀ x ∈ usesF e us, 0 ≤ x ∧ x ≤ B + 1 := by
  intro x hx
  unfold usesF at hx
  split at hx
  · rcases List.mem_or_eq_of_mem_set hx with h1 | h1
    · have := h x h1; omega
    · have : 0 ≤ us.getD e.num.toNat 0 ∧ us.getD e.num.toNat 0 ≤ B := by
        rw [List.getD_eq_getElem?_getD]
        by_cases hh : e.num.toNat < us.length
        · rw [List.getElem?_eq_getElem hh]; exact h _ (List.getElem_mem hh)
        · rw [List.getElem?_eq_none (by omega)]; simp; omega
      omega
  · have := h x hx; omega
theorem usesTo_le (c : Cor) : ∀ i, i ≤ c.exprs.length → ∀ x ∈ usesTo c i, 0 ≤ x ∧ x ≤ (i : Int) := by
  intro i
  induction i with
  | zero => intro _ x hx; simp [usesTo] at hx; omega
  | succ i ih =>
    intro hi x hx
    rw [usesTo_succ (by omega)] at hx
    have := usesF_le (ih (by omega)) (by omega) x hx
    omega
structure ExprsP (c : Cor) : Prop where
  rule : ∀ i (h : i < c.exprs.length), progRule c c.exprs[i] = true
  uses : ∀ i (h : i < c.codes.length), (c.codes[i]).name = [] → (usesTo c c.exprs.length).getD i 0 = 1
def exprH (H : Heap) (c : Cor) (us : List Int) : Heap := H ++ [corC c, usB us, ckB c (H.length + 1)]
theorem exprH_sc {H : Heap} (hs : HSc H) (c : Cor) (us : List Int) : HSc (exprH H c us) := hs.append (by simp [AB.sc, corC, usB, ckB, AV.scA, AV.scB])
@[simp] theorem exprH_len (H : Heap) (c : Cor) (us : List Int) : (exprH H c us).length = H.length + 3 := by simp [exprH]
theorem rep_us (n : Nat) : (List.replicate n [AV.int .i64 0]).flatten = (List.replicate n (0 : Int)).map fun n => AV.int .i64 n := by
  induction n with
  | zero => rfl
  | succ n ih => rw [List.replicate_succ, List.flatten_cons, ih, List.replicate_succ, List.map_cons]; rfl
theorem zq45_spec (c : Cor) (hc : KCore c) (hx : ∀ i (h : i < c.exprs.length), ExIn c c.exprs[i]) (H : Heap) (K : Kt) (hK : ∀ b, (b = true ↔ ExprsP c) → K (.bool b) H) : ACalls tP n_zq45 [.agg c.cs] H K := by
  refine ACalls.out (zq45_ok fun hs => ?_)
  obtain ⟨k1, k2, k3, ⟨k4, k5⟩, k6, k7⟩ := hc
  have hF : ¬ ExprsP c → ∀ J, Out H.length K (.bool false) (H ++ J) := fun h J => Out.bool rfl (Nat.le_refl _) hs (hK _ (by simp [h]))
  have hT : ExprsP c → ∀ J, Out H.length K (.bool true) (H ++ J) := fun h J => Out.bool rfl (Nat.le_refl _) hs (hK _ (by simp [h]))
  simp [zq45, Cor.cs]
  simp only [aMake, Int.toNat_natCast]
  refine ⟨⟨by omega, by omega, by omega, by omega⟩, ?_⟩
  rw [rep_us]
  simp [aBuild, fillA]
  refine zq45_loop3 (Inv := fun q t18 H' => ∃ i : Nat, i ≤ c.exprs.length ∧ q = c.exprs.length - i ∧ t18 = .int .i64 i ∧ (∀ j (h : j < c.exprs.length), j < i → progRule c c.exprs[j] = true) ∧ H' = exprH H c (usesTo c i)) c.exprs.length ?_ ?_
  · intro _; exact ⟨0, by omega, by omega, rfl, by omega, by simp [exprH, corC, usB, ckB, usesTo]⟩
  · rintro q t18 H' ⟨i, hi, rfl, rfl, hok, rfl⟩ hsc hlen hsF Kb hKb
    have hul := usesTo_len c i
    have hub := usesTo_le c i hi
    by_cases hlt : i < c.exprs.length
    · obtain ⟨x, y, z, hv, hx', hy, hz, hat⟩ := ex_at hlt
      have hsu := usesTo_succ hlt
      have hxi := hx i hlt
      have hbad : progRule c c.exprs[i] = false → ¬ ExprsP c := fun h hp => by rw [hp.rule i hlt] at h; cases h
      have hgood : progRule c c.exprs[i] = true → ∀ j (h : j < c.exprs.length), j < i + 1 → progRule c c.exprs[j] = true := fun h j hj hji => by
        by_cases e : j = i
        · subst e; exact h
        · exact hok j hj (by omega)
      simp [zq45_b3, hlt, hat, hx', hy, hz]
      rw [← hat]
      have hset : ∀ us', (exprH H c (usesTo c i)).set (H.length + 1) (usB us') = exprH H c us' := fun us' => by simp [exprH]
      refine valid_spec (us := usesTo c i) (u := H.length + 1) hxi (by simp [exprH]) (by simp [exprH]) (by omega) hul (fun x hx => by have := hub x hx; omega) _ (fun h => ?_) (fun h us' hl => ?_)
      · simp
        rw [hset, wrap_in (by omega) (by omega), ← hsu]
        refine hKb _ _ ⟨c.exprs.length - (i + 1), by omega, Back.at (J := [_]) (H2 := exprH H c (usesTo c (i + 1))) rfl (by simp) (exprH_sc hs _ _) ?_ ⟨_, rfl, i + 1, by omega, rfl, by simp, hgood h, rfl⟩⟩
        simp [zq45_fr3, AV.sc, AV.scV, AV.scA, AV.scB]
      · simp
        rw [hset]
        simp [exprH]
        exact hF (hbad h) _
    · obtain rfl : i = c.exprs.length := by omega
      simp [zq45_b3, exprH, corC]
      refine zq45_loop9 (Inv := fun q t30 H' => ∃ i : Nat, i ≤ c.codes.length ∧ q = c.codes.length - i ∧ t30 = .int .i64 i ∧ (∀ j (h : j < c.codes.length), j < i → (c.codes[j]).name = [] → (usesTo c c.exprs.length).getD j 0 = 1) ∧ H' = exprH H c (usesTo c c.exprs.length)) c.codes.length ?_ ?_
      · intro _; exact ⟨0, by omega, by omega, rfl, by omega, by simp [exprH, corC]⟩
      · rintro q t30 H' ⟨i, hi, rfl, rfl, hok2, rfl⟩ hsc1 hlen1 hsF1 Kb1 hKb1
        generalize hU : usesTo c c.exprs.length = us at *
        by_cases hlt : i < c.codes.length
        · obtain ⟨x, y, z, hv, hx', hy, hz, hat⟩ := cod_at hlt
          have hiu : i < us.length := by omega
          have hgd : us.getD i 0 = us[i] := by rw [List.getD_eq_getElem?_getD, List.getElem?_eq_getElem hiu]; rfl
          have hck : ∀ J, (exprH H c us ++ J)[H.length + 2]? = some (ckB c (H.length + 1)) := fun J => by simp [exprH]
          have hcu : ∀ J, (exprH H c us ++ J)[H.length + 1]? = some (.cells (us.map fun n => .int .i64 n)) := fun J => by simp [exprH, usB]
          have hck' : ∀ h, (exprH H c us)[H.length + 2]'h = ckB c (H.length + 1) := fun h => by simp [exprH]
          have hcu' : ∀ h, (exprH H c us)[H.length + 1]'h = .cells (us.map fun n => .int .i64 n) := fun h => by simp [exprH, usB]
          have hu1 : ∀ k : AV → Prop, aCells false 1 i (us.map fun n => AV.int .i64 n) k = k (.int .i64 us[i]) := fun k => aCells_one 1 (us_at hiu)
          have good : (¬ ((c.codes[i]).name = [] ∧ us[i] ≠ 1)) → Kb1 (zq45_fr9 (.ptr (H.length + 2) 0) (.sl (c.codes.map Cod.cs) .none) (.int .i64 c.codes.length) (.int .i64 ((i : Int) + 1))) (exprH H c us ++ [.cells [.str (c.codes[i]).name, .sl (ints (c.codes[i]).params) .none, .sl (ints (c.codes[i]).capt) .none, x, y, z, .int .i64 (c.codes[i]).body]]) := fun h => by
            refine hKb1 _ _ ⟨c.codes.length - (i + 1), by omega, Back.at (J := [_]) (H2 := exprH H c us) rfl (by simp) (exprH_sc hs _ _) ?_ ⟨_, rfl, i + 1, by omega, rfl, by simp, fun j hj hji hn => ?_, rfl⟩⟩
            · simp [zq45_fr9, AV.sc, AV.scV, AV.scA, AV.scB]
            · by_cases e : j = i
              · subst e
                rw [hgd]
                by_cases h1 : us[j] = 1
                · exact h1
                · exact absurd ⟨hn, h1⟩ h
              · exact hok2 j hj (by omega) hn
          cases hnm : (c.codes[i]).name.isEmpty with
          | false =>
            have hnm' : (c.codes[i]).name ≠ [] := by intro h; simp [h] at hnm
            simp [zq45_b9, hlt, hat, hx', hy, hz, hnm]
            rw [wrap_in (by omega) (by omega)]
            exact good fun h => hnm' h.1
          | true =>
            have hnm' : (c.codes[i]).name = [] := by simpa using hnm
            by_cases h1 : us[i] = 1
            · simp [zq45_b9, hlt, hat, hx', hy, hz, hnm, hck', ckB, hcu', hu1, h1]
              rw [wrap_in (by omega) (by omega)]
              exact good fun h => h.2 h1
            · simp [zq45_b9, hlt, hat, hx', hy, hz, hnm, hck', ckB, hcu', hu1, nbt h1]
              simp [exprH]
              exact hF (fun hp => h1 (by have := hp.uses i hlt hnm'; rw [hU, hgd] at this; exact this)) _
        · obtain rfl : i = c.codes.length := by omega
          simp [zq45_b9, exprH]
          exact hT ⟨fun j hj => hok j hj hj, fun j hj hn => by rw [hU]; exact hok2 j hj hj hn⟩ _
theorem nodup_full {n : Nat} {S : List Int} (hS : S.Nodup) (hr : ∀ x ∈ S, 0 ≤ x ∧ x < n) (hl : S.length = n) (i : Nat) (hi : i < n) : (i : Int) ∈ S := by
  by_cases hm : (i : Int) ∈ S
  · exact hm
  · have := nodup_le n ((i : Int) :: S) (List.nodup_cons.2 ⟨hm, hS⟩) (fun x hx => by
      rcases List.mem_cons.1 hx with rfl | hx
      · omega
      · exact hr x hx)
    rw [List.length_cons] at this
    omega
theorem visitK_len {c : Cor} {m : Nat} (ih : ∀ i st st', visitF c m i st = some st' → st'.length = st.length) : ∀ (bs : List (List Int)) (ks : List Int) (st st' : List Bool), visitK c m bs ks st = some st' → st'.length = st.length := by
  intro bs
  induction bs with
  | nil => intro ks st st' h; rw [visitK] at h; cases h; rfl
  | cons b bs ihb =>
    intro ks st st' h
    cases ks with
    | nil => rw [visitK] at h; cases h; rfl
    | cons k ks =>
      rw [visitK] at h
      cases hv : visitF c m k.toNat (setF st b true) with
      | none => rw [hv] at h; cases h
      | some s2 =>
        rw [hv] at h
        have h1 := ih _ _ _ hv
        have h2 := ihb _ _ _ h
        simp at h1 h2
        omega
theorem visitF_len (c : Cor) : ∀ (m i : Nat) (st st' : List Bool), visitF c m i st = some st' → st'.length = st.length := by
  intro m
  induction m with
  | zero => intro i st st' h; rw [visitF] at h; cases h
  | succ m ih =>
    intro i st st' h
    rw [visitF] at h
    split at h
    · cases h
    · split at h
      · exact visitK_len ih _ _ _ _ h
      · cases h
theorem visitK_each {c : Cor} {m : Nat} {N : Nat} : ∀ (bs : List (List Int)) (ks : List Int) (st st' : List Bool), visitK c m bs ks st = some st' → bs.length = ks.length → st.length = N → ∀ k ∈ ks, ∃ s1 s2, s1.length = N ∧ visitF c m k.toNat s1 = some s2 := by
  intro bs
  induction bs with
  | nil =>
    intro ks st st' h hl _ k hk
    cases ks with
    | nil => cases hk
    | cons a ks => simp at hl
  | cons b bs ihb =>
    intro ks st st' h hl hN k hk
    cases ks with
    | nil => cases hk
    | cons a ks =>
      rw [visitK] at h
      cases hv : visitF c m a.toNat (setF st b true) with
      | none => rw [hv] at h; cases h
      | some s2 =>
        rw [hv] at h
        rcases List.mem_cons.1 hk with rfl | hk
        · exact ⟨_, _, by simpa using hN, hv⟩
        · have := visitF_len c _ _ _ _ hv
          exact ihb ks _ _ h (by simpa using hl) (by simp at this ⊢; omega) k hk
theorem scopesF_each {c : Cor} : ∀ (fs : List Cod) (st : List Bool), scopesF c fs st = true → st.length = c.vars.length → ∀ f ∈ fs, ∃ s1 s2, s1.length = c.vars.length ∧ visitF c c.exprs.length f.body.toNat s1 = some s2 := by
  intro fs
  induction fs with
  | nil => intro st _ _ f hf; cases hf
  | cons g fs ih =>
    intro st h hN f hf
    rw [scopesF] at h
    cases hv : visitF c c.exprs.length g.body.toNat (setF (setF st g.params true) g.capt true) with
    | none => rw [hv] at h; cases h
    | some s2 =>
      rw [hv] at h
      rcases List.mem_cons.1 hf with rfl | hf
      · exact ⟨_, _, by simpa using hN, hv⟩
      · have := visitF_len c _ _ _ _ hv
        exact ih _ h (by simp at this ⊢; omega) f hf
def Vis (c : Cor) (i : Nat) : Prop := ∃ m s1 s2, s1.length = c.vars.length ∧ visitF c m i s1 = some s2
theorem tree_range {c : Cor} (hc : CodesP c) (ht : TreeP c) : ∀ x ∈ allE c, 0 ≤ x ∧ x < c.exprs.length := by
  intro x hx
  rw [allE] at hx
  rcases List.mem_append.1 hx with h | h
  · obtain ⟨f, hf, rfl⟩ := List.mem_map.1 h
    obtain ⟨i, hi, rfl⟩ := List.getElem_of_mem hf
    obtain ⟨_, _, _, _, b, hb, hbl, _⟩ := hc i hi
    omega
  · obtain ⟨e, he, hx⟩ := List.mem_flatMap.1 h
    obtain ⟨i, hi, rfl⟩ := List.getElem_of_mem he
    have := ht.kids i hi x hx
    omega
/-- Every expression is a body or the kid of a lesser one. -/
theorem tree_cases {c : Cor} (hc : CodesP c) (ht : TreeP c) (i : Nat) (hi : i < c.exprs.length) : (∃ f ∈ c.codes, f.body = i) ∨ ∃ j, ∃ h : j < c.exprs.length, j < i ∧ (i : Int) ∈ (c.exprs[j]).kids := by
  have := nodup_full ht.nodup (tree_range hc ht) ht.len i hi
  rw [allE] at this
  rcases List.mem_append.1 this with h | h
  · obtain ⟨f, hf, h2⟩ := List.mem_map.1 h
    exact .inl ⟨f, hf, h2⟩
  · obtain ⟨e, he, hx⟩ := List.mem_flatMap.1 h
    obtain ⟨j, hj, rfl⟩ := List.getElem_of_mem he
    have := ht.kids j hj _ hx
    exact .inr ⟨j, hj, by omega, hx⟩
theorem vis_all {c : Cor} (hc : CodesP c) (ht : TreeP c) (hs : scopesF c c.codes (List.replicate c.vars.length false) = true) : ∀ i, i < c.exprs.length → Vis c i := by
  intro i
  induction i using Nat.strongRecOn with
  | _ i ih =>
    intro hi
    rcases tree_cases hc ht i hi with ⟨f, hf, h⟩ | ⟨j, hj, hji, hm⟩
    · obtain ⟨s1, s2, h1, h2⟩ := scopesF_each _ _ hs (by simp) f hf
      rw [h, Int.toNat_natCast] at h2
      exact ⟨_, s1, s2, h1, h2⟩
    · obtain ⟨m, s1, s2, h1, h2⟩ := ih j hji hj
      cases m with
      | zero => rw [visitF] at h2; cases h2
      | succ m =>
        rw [visitF, List.getElem?_eq_getElem hj] at h2
        simp only [] at h2
        split at h2
        · obtain ⟨s3, s4, h3, h4⟩ := visitK_each _ _ _ _ h2 (ht.binds j hj) h1 _ hm
          exact ⟨m, s3, s4, h3, by simpa using h4⟩
        · cases h2
theorem vis_vars {c : Cor} {i : Nat} (h : Vis c i) (hi : i < c.exprs.length) : inV c (c.exprs[i]).vars := by
  obtain ⟨m, s1, s2, h1, h2⟩ := h
  cases m with
  | zero => rw [visitF] at h2; cases h2
  | succ m =>
    rw [visitF, List.getElem?_eq_getElem hi] at h2
    simp only [] at h2
    split at h2
    · rename_i hall
      intro x hx
      have := List.all_eq_true.1 hall x hx
      simp only [Bool.and_eq_true, decide_eq_true_eq] at this
      obtain ⟨h3, h4⟩ := this
      refine ⟨h3, ?_⟩
      by_cases hh : x.toNat < s1.length
      · omega
      · rw [List.getD_eq_getElem?_getD, List.getElem?_eq_none (by omega)] at h4
        simp at h4
    · cases h2
theorem bind_codes {c : Cor} (hb : BindP c) : ∀ f ∈ c.codes, inV c f.params ∧ inV c f.capt := by
  intro f hf
  refine ⟨fun x hx => hb.range x ?_, fun x hx => hb.range x ?_⟩ <;>
  · rw [allV]
    exact List.mem_append_left _ (List.mem_flatMap.2 ⟨f, hf, by simp [hx]⟩)
theorem bind_exprs {c : Cor} (hb : BindP c) : ∀ e ∈ c.exprs, ∀ l ∈ e.binds, inV c l := by
  intro e he l hl x hx
  refine hb.range x ?_
  rw [allV]
  exact List.mem_append_right _ (List.mem_flatMap.2 ⟨e, he, List.mem_flatten.2 ⟨l, hl, hx⟩⟩)
theorem inP_of {c : Cor} (hk : KCore c) (hc : CodesP c) (ht : TreeP c) (hb : BindP c) : InP c where
  kcore := hk
  binds := ht.binds
  kids := ht.kids
  brange := fun i h l hl => bind_exprs hb _ (List.getElem_mem h) l hl
  crange := fun i h => bind_codes hb _ (List.getElem_mem h)
  body := fun i h => by
    obtain ⟨_, _, _, _, b, hb, hbl, _⟩ := hc i h
    exact ⟨b, hb, hbl⟩
theorem exIn_of {c : Cor} (hk : KCore c) (hv : varsOk c = true) (hc : CodesP c) (ht : TreeP c) (hb : BindP c) (hr : ∀ i (h : i < c.exprs.length), inV c (c.exprs[i]).vars) (i : Nat) (h : i < c.exprs.length) : ExIn c c.exprs[i] where
  kcore := hk
  kex := hk.2.2.2.2.2 _ (List.getElem_mem h)
  vars := hr i h
  kids := fun x hx => by have := ht.kids i h x hx; omega
  bk := ht.binds i h
  binds := bind_exprs hb _ (List.getElem_mem h)
  codes := bind_codes hb
  vtys := fun v hv' => by
    unfold varsOk at hv
    rw [Bool.and_eq_true] at hv
    exact List.all_eq_true.1 hv.2 v hv'
structure ProgV (c : Cor) : Prop where
  data : dataOk c.data = true
  vars : varsOk c = true
  codes : CodesP c
  tree : TreeP c
  bind : BindP c
  scopes : scopesF c c.codes (List.replicate c.vars.length false) = true
  exprs : ExprsP c
theorem zq11_spec (c : Cor) (hc : KCore c) (H : Heap) (K : Kt) (hK : ∀ b, (b = true ↔ ProgV c) → K (.bool b) H) : ACalls tP n_zq11 [.agg c.cs] H K := by
  refine ACalls.out (zq11_ok fun hs => ?_)
  have hF : ¬ ProgV c → ∀ J, Out H.length K (.bool false) (H ++ J) := fun h J => Out.bool rfl (Nat.le_refl _) hs (hK _ (by simp [h]))
  have hT : ProgV c → ∀ J, Out H.length K (.bool true) (H ++ J) := fun h J => Out.bool rfl (Nat.le_refl _) hs (hK _ (by simp [h]))
  have hcs : ∀ v : AV, v = .agg c.cs → v = .agg c.cs := fun _ h => h
  have hd : Small c.data := fun D hD => by
    obtain ⟨k1, k2⟩ := kdata_small hc
    refine ⟨k2 D hD, fun k hk => ?_⟩
    obtain ⟨h1, h2⟩ := k1 D hD k hk
    exact ⟨by omega, fun x hx => by have := h2 x hx; omega⟩
  have hat : c.cs = [.sl (c.data.map Dat.cs) .none, .sl (c.codes.map Cod.cs) .none, .sl (VT.css c.vars) .none, .sl (c.exprs.map CEx.cs) .none] := rfl
  simp [zq11, hat]
  refine zq39_spec c.data hd (by obtain ⟨⟨k1, _⟩, _⟩ := hc; omega) _ _ ?_
  cases h1 : dataOk c.data with
  | false => simp; exact hF (fun h => by have := h.data; rw [h1] at this; cases this) _
  | true =>
  simp
  rw [← hat]
  refine zq40_spec c hc _ _ ?_
  cases h2 : varsOk c with
  | false => simp; exact hF (fun h => by have := h.vars; rw [h2] at this; cases this) _
  | true =>
  simp [hat]
  rw [← hat]
  refine zq41_spec c hc _ _ fun b hb => ?_
  cases b with
  | false => simp; exact hF (fun h => by have := hb.2 h.codes; cases this) _
  | true =>
  have h3 := hb.1 rfl
  simp [hat]
  rw [← hat]
  refine zq42_spec c hc (fun i h => by obtain ⟨_, _, _, _, b, hb, hbl, _⟩ := h3 i h; exact ⟨b, hb, hbl⟩) _ _ fun b hb => ?_
  cases b with
  | false => simp; exact hF (fun h => by have := hb.2 h.tree; cases this) _
  | true =>
  have h4 := hb.1 rfl
  simp [hat]
  rw [← hat]
  refine zq43_spec c hc _ _ fun b hb => ?_
  cases b with
  | false => simp; exact hF (fun h => by have := hb.2 h.bind; cases this) _
  | true =>
  have h5 := hb.1 rfl
  simp [hat]
  rw [← hat]
  refine zq44_spec c (inP_of hc h3 h4 h5) _ _ ?_
  cases h6 : scopesF c c.codes (List.replicate c.vars.length false) with
  | false => simp; exact hF (fun h => by have := h.scopes; rw [h6] at this; cases this) _
  | true =>
  simp [hat]
  rw [← hat]
  refine zq45_spec c hc (exIn_of hc h2 h3 h4 h5 fun i h => vis_vars (vis_all h3 h4 h6 i h) h) _ _ fun b hb => ?_
  cases b with
  | false => exact hF (fun h => by have := hb.2 h.exprs; cases this) _
  | true => exact hT ⟨h1, h2, h3, h4, h5, h6, hb.1 rfl⟩ _
end Go.Proofs.Ytkdmpbhbmmhijaa

