/- The checker's small functions. -/
import Derived.Test.YtkdmpbhbmmhijaaKBa
import Derived.Test.YtkdmpbhbmmhijaaKGD
namespace Go.Proofs.Ytkdmpbhbmmhijaa
open Go Go.Abs
set_option linter.unusedSimpArgs false
set_option linter.unusedVariables false
set_option maxRecDepth 8000
def vty (c : Cor) (v : Int) : VT := c.vars.getD v.toNat (.mk 0 0 [])
def typesOf (c : Cor) (l : List Int) : List VT := l.map (vty c)
def inV (c : Cor) (l : List Int) : Prop := ∀ x ∈ l, 0 ≤ x ∧ x < (c.vars.length : Int)
def ckB (c : Cor) (u : Nat) : AB := .cells [.sl (c.data.map Dat.cs) .none, .sl (c.codes.map Cod.cs) .none, .sl (VT.css c.vars) .none, .sl (c.exprs.map CEx.cs) .none, .ms u 0 c.codes.length c.codes.length]
theorem vty_eq {c : Cor} {v : Nat} (h : v < c.vars.length) : vty c v = c.vars[v] := by simp [vty, h]
theorem vty_nodes {c : Cor} (hc : KCore c) (v : Int) : (vty c v).nodes ≤ 250 := by
  obtain ⟨_, _, _, ⟨_, k5⟩, _⟩ := hc
  unfold vty
  rw [List.getD_eq_getElem?_getD]
  by_cases h : v.toNat < c.vars.length
  · rw [List.getElem?_eq_getElem h]; exact k5 _ (List.getElem_mem h)
  · rw [List.getElem?_eq_none (by omega)]; simp [VT.nodes, VT.nodesL]
theorem typesOf_take_succ {c : Cor} {l : List Int} {i : Nat} (h : i < l.length) : VT.css (typesOf c (l.take (i + 1))) = VT.css (typesOf c (l.take i)) ++ [(vty c l[i]).cs] := by
  rw [typesOf, take_snoc h, List.map_append, VT.css_map, VT.css_map, List.map_append]; rfl
theorem types_own {c : Cor} {u kid : Nat} {H : Heap} (hk : H[kid]? = some (ckB c u)) {l : List Int} (hl : l.length ≤ 1000) (hr : inV c l) (K : Kt) (hK : HSc H → K (accV (VT.css (typesOf c l)) H.length) (H ++ accB e_api_Type 3 l.length)) :
    ACalls tP n_zq94 [.ptr kid 0, .sl (ints l) .none] H K := by
  refine zq94_ok fun hs => ?_
  have hkl := lt_get hk
  simp [zq94]
  refine zq94_loop3 (Inv := fun q t5 t10 H' => ∃ i : Nat, i ≤ l.length ∧ q = l.length - i ∧ t10 = .int .i64 i ∧ t5 = accV (VT.css (typesOf c (l.take i))) H.length ∧ H' = H ++ accB e_api_Type 3 i) l.length ?_ ?_
  · intro _; exact ⟨0, by omega, by omega, rfl, rfl, by simp [accB]⟩
  · rintro q t5 t10 H' ⟨i, hi, rfl, rfl, rfl, rfl⟩ hsc hlen hsF Kb hKb
    by_cases hlt : i < l.length
    · have hrr := hr _ (List.getElem_mem hlt)
      obtain ⟨e, he⟩ : ∃ e : Nat, l[i] = e := ⟨(l[i]).toNat, by omega⟩
      have hen : e < c.vars.length := by omega
      have hg : (H ++ accB e_api_Type 3 i)[kid]? = some (ckB c u) := app_get hk
      have hts := typesOf_take_succ (c := c) hlt
      obtain ⟨x, y, z, hv, hx, hy, hz⟩ := vt3 c.vars[e]
      simp [zq94_b3, hlt, ints, he, hg, ckB, hen, hv]
      rw [← hv, buildS_vt]
      refine acc_append' (H0 := H) (n := i) (by simp [typesOf]; omega) rfl rfl (by simp) (by simp [typesOf]; omega) (by simp [typesOf]; omega) ?_
      rw [he, vty_eq hen] at hts
      rw [← hts]
      rw [wrap_in (by omega) (by omega)]
      refine hKb _ _ ⟨l.length - (i + 1), by omega, Back.here (by simp) ?_ ?_ ⟨_, _, rfl, i + 1, by omega, rfl, by simp, rfl, rfl⟩⟩
      · exact hs.append (by simp [AB.sc, accB])
      · have : (accV (VT.css (typesOf c (l.take (i + 1)))) H.length).scA (H.length + 1) = true := accV_sc _ (.inr (by omega))
        have h2 : (accV (VT.css (typesOf c (l.take (i + 1)))) H.length).sc (H.length + 1) = true := by
          revert this; generalize VT.css (typesOf c (l.take (i + 1))) = es; cases es <;> simp [accV, AV.sc, AV.scV, AV.scA]
        simp [zq94_fr3, AV.sc, AV.scV, AV.scA, AV.scB, accB] at h2 ⊢
        exact ⟨by omega, h2⟩
    · obtain rfl : i = l.length := by omega
      rw [List.take_length]
      simpa [zq94_b3] using hK hs
theorem types_spec {c : Cor} {u kid : Nat} {H : Heap} (hk : H[kid]? = some (ckB c u)) {l : List Int} (hl : l.length ≤ 1000) (hr : inV c l) (K : Kt) (hK : HSc H → K (.sl (VT.css (typesOf c l)) .none) H) :
    ACalls tP n_zq94 [.ptr kid 0, .sl (ints l) .none] H K := by
  refine ACalls.out ?_
  exact types_own hk hl hr _ fun hs => Out.one hs (.atom (accV_wk _ _)) rfl rfl (hK hs)
theorem typesOf_len (c : Cor) (l : List Int) : (typesOf c l).length = l.length := by simp [typesOf]
theorem have_spec {c : Cor} (hc : KCore c) {u kid : Nat} {H : Heap} (hk : H[kid]? = some (ckB c u)) {l : List Int} (hl : l.length ≤ 1000) (hr : inV c l) (ts : List VT) (K : Kt) (hK : K (.bool (VT.sameL (typesOf c l) ts)) H) :
    ACalls tP n_zq92 [.ptr kid 0, .sl (ints l) .none, .sl (VT.css ts) .none] H K := by
  refine ACalls.out (zq92_ok fun hs => ?_)
  simp [zq92]
  refine types_spec hk hl hr _ fun _ => ?_
  refine equalFunc_spec VT.same _ (fun _ => rfl) (typesOf c l) ts (fun a ha b H K hK => ?_) (by rw [typesOf_len]; omega) _ _ ?_
  · simp only [aCallV, callEqual, List.append_nil]
    have : a.nodes ≤ 250 := by
      obtain ⟨v, _, rfl⟩ := List.mem_map.1 ha
      exact vty_nodes hc v
    exact zq69_spec _ _ _ (Nat.le_refl _) (by omega) _ _ hK
  · rw [eqBy_same]
    have h3 : Out H.length K (.bool (VT.sameL (typesOf c l) ts)) H := Out.bool (H2 := H) (J := []) (by simp) (Nat.le_refl _) hs hK
    exact h3
def shapeB (e : CEx) (v k : Int) : Bool := (decide (v < 0) || (e.vars.length : Int) == v) && (e.kids.length : Int) == k
theorem shape_spec (e : CEx) (v k : Int) (H : Heap) (K : Kt) (hK : K (.bool (shapeB e v k)) H) : ACalls tP n_zq89 [.agg e.cs, .int .i64 v, .int .i64 k] H K := by
  refine ACalls.out (zq89_ok fun hs => ?_)
  have hO : ∀ J, Out H.length K (.bool (shapeB e v k)) (H ++ J) := fun J => Out.bool rfl (Nat.le_refl _) hs hK
  unfold shapeB at hO
  by_cases h1 : v < 0
  · simp [zq89, CEx.cs, h1] at hO ⊢; exact hO _
  · cases h2 : ((e.vars.length : Int) == v) with
    | true =>
      simp [zq89, CEx.cs, h1, h2] at hO ⊢; exact hO _
    | false =>
      simp [zq89, CEx.cs, h1, h2] at hO ⊢; exact hO _
theorem simple_spec (k : Int) (H : Heap) (K : Kt) (hK : K (.agg (VT.mk k 0 []).cs) H) : ACalls tP n_zq90 [.int .i64 k] H K := by
  refine ACalls.out (zq90_ok fun hs => ?_)
  simp [zq90, aBuild, fillA]
  exact out_vt (ks := []) (id := 0) hs hK
theorem form_spec (k : Int) (ts : List VT) (H : Heap) (K : Kt) (hK : K (.agg (VT.mk k 0 ts).cs) H) : ACalls tP n_zq93 [.int .i64 k, .sl (VT.css ts) .none] H K := by
  refine ACalls.out (zq93_ok fun hs => ?_)
  simp [zq93, aBuild, fillA]
  exact Out.at rfl (Nat.le_refl _) hs (WkV.agg (ds := [.int .i64 k, .int .i64 0, .sl (VT.css ts) .none]) ⟨.refl _, .refl _, .refl _, trivial⟩) rfl (by simp [AV.scV, AV.scA, AV.scB]) (by simpa [VT.cs] using hK)
theorem within_spec (n m : Int) (h0 : 0 ≤ m) (h1 : m ≤ 1000000) (H : Heap) (K : Kt) (hK : K (.bool (decide (-m ≤ n) && decide (n ≤ m))) H) : ACalls tP n_zq91 [.int .i64 n, .int .i64 m] H K := by
  refine zq91_ok fun hs => ?_
  have hw : IntKind.i64.wrap (-m) = -m := wrap_in (by omega) (by omega)
  by_cases h : -m ≤ n
  · simp [zq91, hw, h] at hK ⊢; exact hK
  · simp [zq91, hw, h] at hK ⊢; exact hK
theorem have_tok {c : Cor} (hc : KCore c) {u kid : Nat} {H : Heap} (hk : H[kid]? = some (ckB c u)) {l : List Int} (hl : l.length ≤ 1000) (hr : inV c l) (ts : List VT) {es : List (List AV)} {tok : Tok} (he : es = VT.css ts) (K : Kt) (hK : K (.bool (VT.sameL (typesOf c l) ts)) H) :
    ACalls tP n_zq92 [.ptr kid 0, .sl (ints l) .none, .sl es tok] H K := by
  subst he
  exact ACalls.wk (have_spec hc hk hl hr ts K hK) ⟨.rfl', .rfl', .atom (.sl _ _), trivial⟩
theorem form_tok (k : Int) (ts : List VT) {es : List (List AV)} {tok : Tok} (he : es = VT.css ts) (H : Heap) (K : Kt) (hK : K (.agg (VT.mk k 0 ts).cs) H) : ACalls tP n_zq93 [.int .i64 k, .sl es tok] H K := by
  subst he
  exact ACalls.wk (form_spec k ts H K hK) ⟨.rfl', .atom (.sl _ _), trivial⟩
theorem form_acc (k : Int) (ts : List VT) {es : List (List AV)} {id : Nat} (he : es = VT.css ts) (H : Heap) (K : Kt) (hK : K (.agg (VT.mk k 0 ts).cs) H) : ACalls tP n_zq93 [.int .i64 k, accV es id] H K := by
  subst he
  exact ACalls.wk (form_spec k ts H K hK) ⟨.rfl', .atom (accV_wk _ _), trivial⟩
theorem buildS_vt2 {v u : VT} {k : AV → Prop} : aBuildS 3 [.int .i64 0, .int .i64 0, .snil] 2 [(0, .agg v.cs), (1, .agg u.cs)] k = k (.sl [v.cs, u.cs] .full) := by
  cases v; cases u
  exact propext Iff.rfl
theorem buildS_vt3 {v u w : VT} {k : AV → Prop} : aBuildS 3 [.int .i64 0, .int .i64 0, .snil] 3 [(0, .agg v.cs), (1, .agg u.cs), (2, .agg w.cs)] k = k (.sl [v.cs, u.cs, w.cs] .full) := by
  cases v; cases u; cases w
  exact propext Iff.rfl
theorem buildS_int2 {m n : Int} {k : AV → Prop} : aBuildS 1 [.int .i64 0] 2 [(0, .int .i64 m), (1, .int .i64 n)] k = k (.sl (ints [m, n]) .full) := propext Iff.rfl
theorem ex3 (e : CEx) : ∃ x y z, e.ty.cs = [x, y, z] ∧ x.known = true ∧ y.known = true ∧ z.known = true ∧ e.cs = [.int .i64 e.op, .int .i64 e.num, .sl (ints e.vars) .none, .sl (rows e.binds) .none, .sl (ints e.kids) .none, x, y, z] := by
  obtain ⟨x, y, z, hv, hx, hy, hz⟩ := vt3 e.ty
  exact ⟨x, y, z, hv, hx, hy, hz, by rw [CEx.cs, hv]⟩
def ety (c : Cor) (k : Int) : VT := match c.exprs[k.toNat]? with | some e => e.ty | none => .mk 0 0 []
def inE (c : Cor) (l : List Int) : Prop := ∀ x ∈ l, 0 ≤ x ∧ x < (c.exprs.length : Int)
theorem ety_eq {c : Cor} {k : Nat} (h : k < c.exprs.length) : ety c k = (c.exprs[k]).ty := by simp [ety, h]
theorem ety_nodes {c : Cor} (hc : KCore c) (k : Int) : (ety c k).nodes ≤ 250 := by
  obtain ⟨_, _, _, _, _, k7⟩ := hc
  unfold ety
  by_cases h : k.toNat < c.exprs.length
  · rw [List.getElem?_eq_getElem h]; exact (k7 _ (List.getElem_mem h)).2.2.2.1
  · rw [List.getElem?_eq_none (by omega)]; simp [VT.nodes, VT.nodesL]
theorem kidType_spec {c : Cor} {u kid : Nat} {H : Heap} (hk : H[kid]? = some (ckB c u)) (e : CEx) (hr : inE c e.kids) (i : Nat) (hi : i < e.kids.length) (K : Kt) (hK : K (.agg (ety c e.kids[i]).cs) H) :
    ACalls tP n_zq105 [.ptr kid 0, .agg e.cs, .int .i64 i] H K := by
  refine ACalls.out (zq105_ok fun hs => ?_)
  have hkl := lt_get hk
  have hrr := hr _ (List.getElem_mem hi)
  obtain ⟨k, hkk⟩ : ∃ k : Nat, e.kids[i] = k := ⟨(e.kids[i]).toNat, by omega⟩
  have hkn : k < c.exprs.length := by omega
  rw [hkk, ety_eq hkn] at hK
  obtain ⟨x, y, z, hv, hx, hy, hz, hat⟩ := ex3 e
  obtain ⟨x', y', z', hv', hx', hy', hz', hat'⟩ := ex_at hkn
  have hg : ∀ J, (H ++ J)[kid]? = some (ckB c u) := fun J => app_get hk
  simp [zq105, hat, hg, ckB, hi, hkk, hkn, hat', hx', hy', hz']
  rw [hv'] at hK
  refine Out.at rfl (Nat.le_refl _) hs (WkV.agg (ds := [x', y', z']) ⟨.refl _, .refl _, .refl _, trivial⟩) rfl ?_ hK
  have := VT.cs_scA (c.exprs[k]).ty H.length
  rw [hv'] at this
  simpa [AV.scV] using this
def agree (c : Cor) (t : VT) (l : List Int) : Bool := l.all fun k => (ety c k).same t
theorem kidsAgree_spec {c : Cor} (hc : KCore c) {u kid : Nat} {H : Heap} (hk : H[kid]? = some (ckB c u)) (e : CEx) (hl : e.kids.length ≤ 1000) (hr : inE c e.kids) (f : Nat) (K : Kt) (hK : K (.bool (agree c e.ty (e.kids.drop f))) H) :
    ACalls tP n_zq106 [.ptr kid 0, .agg e.cs, .int .i64 f] H K := by
  refine ACalls.out (zq106_ok fun hs => ?_)
  have hkl := lt_get hk
  obtain ⟨x, y, z, hv, hx, hy, hz, hat⟩ := ex3 e
  have hO : ∀ J, Out H.length K (.bool (agree c e.ty (e.kids.drop f))) (H ++ J) := fun J => Out.bool rfl (Nat.le_refl _) hs hK
  simp [zq106, hat]
  refine zq106_loop2 (Inv := fun q t7 H' => ∃ i : Nat, q = e.kids.length - i ∧ t7 = .int .i64 i ∧ agree c e.ty (e.kids.drop i) = agree c e.ty (e.kids.drop f) ∧ H' = H ++ [.cells [.int .i64 e.op, .int .i64 e.num, .sl (ints e.vars) .none, .sl (rows e.binds) .none, .sl (ints e.kids) .none, x, y, z]]) (e.kids.length - f) ?_ ?_
  · intro _; exact ⟨f, rfl, rfl, rfl, rfl⟩
  · rintro q t7 H' ⟨i, rfl, rfl, ho, rfl⟩ hsc hlen hsF Kb hKb
    by_cases hlt : i < e.kids.length
    · rw [List.drop_eq_getElem_cons hlt, agree, List.all_cons, ← agree] at ho
      simp [zq106_b2, hlt]
      rw [← hat, ← hv]
      refine aPureX_call (.agg (ety c e.kids[i]).cs) (fun J => kidType_spec (app_get (app_get hk)) e hr i hlt _ ⟨rfl, rfl⟩) ?_
      refine aPureX_call (.bool ((ety c e.kids[i]).same e.ty)) (fun J => zq69_spec _ _ _ (Nat.le_refl _) (by have := ety_nodes hc e.kids[i]; omega) _ _ ⟨rfl, rfl⟩) ?_
      cases hsm : (ety c e.kids[i]).same e.ty with
      | false =>
        rw [hsm, Bool.false_and] at ho
        rw [← ho] at hO
        simp
        exact hO _
      | true =>
        rw [hsm, Bool.true_and] at ho
        simp
        rw [wrap_in (by omega) (by omega)]
        refine hKb _ _ ⟨e.kids.length - (i + 1), by omega, Back.here (by simp) (by rw [hat]; exact hsc) ?_ ⟨_, rfl, i + 1, rfl, by simp, ho, by rw [hat]⟩⟩
        simp [zq106_fr2, AV.sc, AV.scV, AV.scA, AV.scB]; omega
    · have hd : e.kids.drop i = [] := List.drop_eq_nil_of_le (by omega)
      rw [hd] at ho
      rw [← ho] at hO
      simp [zq106_b2, hlt]
      exact hO _
def lens (l : List (List Int)) : List Int := l.map fun r => (r.length : Int)
theorem callBinds1 : callable tP n_zq126 = true := by kernel_rfl
theorem binds_spec (e : CEx) (hl : e.binds.length ≤ 1000) (ns : List Int) {tok : Tok} (H : Heap) (K : Kt) (hK : K (.bool (lens e.binds == ns)) H) : ACalls tP n_zq104 [.agg e.cs, .sl (ints ns) tok] H K := by
  refine ACalls.wk (args' := [.agg e.cs, .sl (ints ns) .none]) ?_ ⟨.rfl', .atom (.sl _ _), trivial⟩
  refine ACalls.out (zq104_ok fun hs => ?_)
  obtain ⟨x, y, z, hv, hx, hy, hz, hat⟩ := ex3 e
  have hO : ∀ J, Out H.length K (.bool (lens e.binds == ns)) (H ++ J) := fun J => Out.bool rfl (Nat.le_refl _) hs hK
  simp [zq104, hat]
  refine ACalls.out (zq125_ok fun hs2 => ?_)
  have hO2 : ∀ J, Out (H.length + 1) (Out H.length K) (.bool (lens e.binds == ns)) (H ++ [.cells [.int .i64 e.op, .int .i64 e.num, .sl (ints e.vars) .none, .sl (rows e.binds) .none, .sl (ints e.kids) .none, x, y, z]] ++ J) := fun J => Out.bool rfl (by simp) hs2 (hO _)
  by_cases hlen : e.binds.length = ns.length
  · simp [zq125, hlen]
    refine zq125_loop4 (Inv := fun q t17 H' => ∃ i : Nat, i ≤ e.binds.length ∧ q = e.binds.length - i ∧ t17 = .int .i64 i ∧ (lens (e.binds.drop i) == ns.drop i) = (lens e.binds == ns) ∧ H' = H ++ [.cells [.int .i64 e.op, .int .i64 e.num, .sl (ints e.vars) .none, .sl (rows e.binds) .none, .sl (ints e.kids) .none, x, y, z]]) e.binds.length ?_ ?_
    · intro _; exact ⟨0, by omega, by omega, rfl, by simp, rfl⟩
    · rintro q t17 H' ⟨i, hi, rfl, rfl, ho, rfl⟩ hsc hlen2 hsF Kb hKb
      by_cases hlt : i < e.binds.length
      · have hlt' : i < ns.length := by omega
        rw [List.drop_eq_getElem_cons hlt, List.drop_eq_getElem_cons hlt', lens, List.map_cons, ← lens, List.cons_beq_cons] at ho
        simp [zq125_b4, hlt, hlt', ints]
        simp only [aCallV, callBinds1]
        refine zq126_ok fun hs3 => ?_
        simp [zq126]
        cases hb : ((e.binds[i].length : Int) == ns[i]) with
        | false =>
          rw [hb, Bool.false_and] at ho
          rw [← ho] at hO2
          simp
          simpa [ints] using hO2 []
        | true =>
          rw [hb, Bool.true_and] at ho
          simp
          rw [wrap_in (by omega) (by omega)]
          refine hKb _ _ ⟨e.binds.length - (i + 1), by omega, Back.here (by simp) hsc ?_ ⟨_, rfl, i + 1, by omega, rfl, by simp, ho, rfl⟩⟩
          simp [zq125_fr4, AV.sc, AV.scV, AV.scA, AV.scB]
      · have hlt' : ¬ i < ns.length := by omega
        obtain rfl : i = e.binds.length := by omega
        rw [List.drop_length, hlen, List.drop_length] at ho
        rw [← ho] at hO2
        simp [zq125_b4, hlt']
        simpa [lens] using hO2 []
  · have hl' : ((e.binds.length : Int) != ns.length) = true := by simp; omega
    have hf : (lens e.binds == ns) = false := by
      rw [beq_eq_false_iff_ne]
      intro h
      exact hlen (by rw [← h]; simp [lens])
    rw [hf] at hO2
    simp [zq125, hl']
    simpa using hO2 []
structure ExIn (c : Cor) (e : CEx) : Prop where
  kcore : KCore c
  kex : KEx e
  vars : inV c e.vars
  kids : inE c e.kids
  bk : e.binds.length = e.kids.length
  binds : ∀ l ∈ e.binds, inV c l
  codes : ∀ f ∈ c.codes, inV c f.params ∧ inV c f.capt
  vtys : ∀ v ∈ c.vars, tyValid c.data 0 v = true
def sm (k : Int) : VT := .mk k 0 []
def usB (us : List Int) : AB := .cells (us.map fun n => .int .i64 n)
def usesF (e : CEx) (us : List Int) : List Int := if e.op = 11 then us.set e.num.toNat (us.getD e.num.toNat 0 + 1) else us
def numR (c : Cor) (e : CEx) : Bool :=
  if e.kids.length ≠ 0 ∨ e.num < 0 then false
  else if e.op = 6 then (if e.ty.kind ≠ 5 ∨ e.num ≥ 8 then false else match fields c.data e.ty e.num with | some fs => VT.sameL (typesOf c e.vars) fs | none => false)
  else if e.op = 14 then (if e.num < 1 ∨ e.num > 8 then false else VT.sameL (typesOf c e.vars) [sm 1, sm 1] && (if e.num ≥ 6 then e.ty.same (sm 2) else e.ty.same (sm 1)))
  else match c.codes[e.num.toNat]? with
    | none => false
    | some f => if e.op = 12 then f.name != [] && VT.sameL (typesOf c e.vars) (typesOf c f.params) && e.ty.same f.res
      else f.name == [] && VT.sameL (typesOf c e.vars) (typesOf c f.capt) && e.ty.same (.mk 9 0 (typesOf c f.params ++ [f.res]))
theorem kdata_small {c : Cor} (hc : KCore c) : (∀ d ∈ c.data, ∀ k ∈ d.cons, k.args.length ≤ 1000 ∧ ∀ x ∈ k.args, x.nodes ≤ 1000) ∧ ∀ d ∈ c.data, d.cons.length ≤ 1000000 := by
  obtain ⟨⟨k1, k2⟩, _⟩ := hc
  refine ⟨fun d hd k hk => ?_, fun d hd => ?_⟩
  · obtain ⟨_, _, h3⟩ := k2 d hd
    obtain ⟨_, h5, h6⟩ := h3 k hk
    exact ⟨by omega, fun x hx => by have := h6 x hx; omega⟩
  · obtain ⟨_, h3, _⟩ := k2 d hd; omega
theorem Fields_spec {c : Cor} (hc : KCore c) {t : VT} (ht : t.nodes ≤ 1000) (k : Int) (H : Heap) (K : Kt) (hK : K (fieldsR (fields c.data t k)) H) : ACalls tP n_zq103 [.sl (c.data.map Dat.cs) .none, .agg t.cs, .int .i64 k] H K :=
  zq103_spec c.data (by obtain ⟨⟨k1, _⟩, _⟩ := hc; omega) (kdata_small hc).1 (kdata_small hc).2 t ht k H K hK
theorem Equal_spec {v u : VT} (hv : v.nodes ≤ 1000) (H : Heap) (K : Kt) (hK : K (.bool (v.same u)) H) : ACalls tP n_zq69 [.agg v.cs, .agg u.cs] H K := zq69_spec _ v u (Nat.le_refl _) (by omega) H K hK
theorem set_self {H : Heap} {u : Nat} {b : AB} (h : H[u]? = some b) : H.set u b = H := by
  apply List.ext_getElem?
  intro i
  by_cases hi : u = i
  · subst hi; rw [List.getElem?_set_self (lt_get h), h]
  · rw [List.getElem?_set_ne hi]
theorem us_at {us : List Int} {i : Nat} (h : i < us.length) : (us.map fun n => AV.int .i64 n)[i]? = some (.int .i64 us[i]) := by simp [h]
theorem us_set {us : List Int} {n : Nat} (h : n < us.length) (v : Int) : (us.map fun n => AV.int .i64 n).take n ++ .int .i64 v :: (us.map fun n => AV.int .i64 n).drop (n + 1) = (us.set n v).map fun n => AV.int .i64 n := by
  rw [List.map_set, List.set_eq_take_append_cons_drop, if_pos (by simpa using h)]
theorem kind_of {v : VT} {x y z : AV} (h : v.cs = [x, y, z]) : x = .int .i64 v.kind ∧ y = .int .i64 v.num ∧ z = .sl (VT.css v.kids) .none := by
  obtain ⟨k, n, ks⟩ := v
  simp only [VT.cs, List.cons.injEq, and_true] at h
  exact ⟨h.1.symm, h.2.1.symm, h.2.2.symm⟩
theorem nb {a b : Int} (h : a ≠ b) : (a == b) = false := by simpa using h
theorem nbt {a b : Int} (h : a ≠ b) : (a != b) = true := by simpa using h
theorem growA_acc (H : Heap) (e s n : Nat) : GrowA H (H ++ accB e s n) := by
  cases n with
  | zero => left; simp [accB]
  | succ n => right; left; exact ⟨e, s, n + 1, rfl⟩
theorem growA_acc_succ (H : Heap) (e s n : Nat) : GrowA (H ++ accB e s n) (H ++ accB e s (n + 1)) := by
  cases n with
  | zero => right; left; exact ⟨e, s, 1, by simp [accB]⟩
  | succ n => right; right; exact ⟨H.length, e, s, n + 1, n + 2, by simp [accB], by simp [accB]⟩
theorem aDet_append {e s bytes id n : Nat} {es : List (List AV)} {y : List AV} {t : Tok} {H0 Hh : Heap} {k : AV → Heap → Prop} (he : Hh = H0 ++ accB e s n) (hn : n = es.length) (hid : id = H0.length) (hy : y.length = s) (hb : (es.length + 1) * bytes ≤ 140737488355328) (hl : es.length + 1 ≤ 9223372036854775807)
    (hk : k (accV (es ++ [y]) id) (H0 ++ accB e s (n + 1))) : aDet .g false Hh (fun K => aAppend e s bytes (accV es id) (.sl [y] t) Hh K) k := by
  subst he
  exact aDet_grow _ _ (acc_append' hn rfl hid hy hb hl ⟨rfl, rfl⟩) (growA_acc_succ _ _ _ _) hk
theorem numbered_spec {c : Cor} {e : CEx} (hx : ExIn c e) {u kid : Nat} {us : List Int} {H : Heap} (hk : H[kid]? = some (ckB c u)) (hu : H[u]? = some (usB us)) (hne : u ≠ kid) (hlen : us.length = c.codes.length) (hus : ∀ x ∈ us, 0 ≤ x ∧ x ≤ 1000000)
    (hop : e.op = 6 ∨ e.op = 11 ∨ e.op = 12 ∨ e.op = 14) (K : Kt) (hT : numR c e = true → K (.bool true) (H.set u (usB (usesF e us)))) (hF : numR c e = false → ∀ us', us'.length = us.length → K (.bool false) (H.set u (usB us'))) :
    ACalls tP n_zq88 [.ptr kid 0, .agg e.cs] H K := by
  refine ACalls.out (zq88_ok fun hs => ?_)
  obtain ⟨hc, ⟨kv, kb, kk, kt, kbl⟩, hvr, hkr, hbk, hbr, hcr, hvt⟩ := hx
  have hc' := hc
  obtain ⟨k1, k2, k3, ⟨k4, k5⟩, k6, k7⟩ := hc'
  obtain ⟨x, y, z, hv, hx, hy, hz, hat⟩ := ex3 e
  have hul := lt_get hu
  have hkl := lt_get hk
  have scU : ∀ us : List Int, (usB us).sc H.length = true := fun us => by simp [usB, AB.sc, AV.scA, AV.scB]
  have oT : numR c e = true → ∀ J, Out H.length K (.bool true) (H.set u (usB (usesF e us)) ++ J) := fun h J => Out.bool rfl (by simp) (hs.set (scU _)) (hT h)
  have oF : numR c e = false → ∀ us' J, us'.length = us.length → Out H.length K (.bool false) (H.set u (usB us') ++ J) := fun h us' J hl => Out.bool rfl (by simp) (hs.set (scU _)) (hF h us' hl)
  have oF0 : numR c e = false → ∀ J, Out H.length K (.bool false) (H ++ J) := fun h J => by
    have := oF h us J rfl
    rwa [set_self hu] at this
  have oB : e.op ≠ 11 → ∀ b, numR c e = b → ∀ J, Out H.length K (.bool b) (H ++ J) := fun hne b hb J => by
    cases b with
    | false => exact oF0 hb J
    | true =>
      have := oT hb J
      rwa [usesF, if_neg hne, set_self hu] at this
  have hg : ∀ J, (H ++ J)[kid]? = some (ckB c u) := fun J => app_get hk
  have hgu : ∀ J, (H ++ J)[u]? = some (usB us) := fun J => app_get hu
  simp [zq88, hat]
  rw [← hat]
  refine shape_spec e _ _ _ _ ?_
  by_cases hkz : e.kids.length ≠ 0
  · have hsh : shapeB e (-1) 0 = false := by simp [shapeB]; simpa using hkz
    simp [hsh]
    exact oF0 (by rw [numR, if_pos (.inl hkz)]) _
  have hsh : shapeB e (-1) 0 = true := by simp [shapeB]; simpa using hkz
  by_cases hn0 : e.num < 0
  · simp [hsh, hat, hn0]
    exact oF0 (by rw [numR, if_pos (.inr hn0)]) _
  obtain ⟨n, hn⟩ : ∃ n : Nat, e.num = n := ⟨e.num.toNat, by omega⟩
  have hR := numR.eq_1 c e
  rw [if_neg (by rintro (h | h) <;> contradiction)] at hR
  obtain ⟨rfl, rfl, rfl⟩ := kind_of hv
  have hnn : ¬ (n : Int) < 0 := by omega
  by_cases h6 : e.op = 6
  · rw [if_pos h6] at hR
    have hb := oB (by omega)
    by_cases hkd : e.ty.kind ≠ 5
    · rw [if_pos (.inl hkd)] at hR
      simp [hsh, hat, hn, hnn, h6, nbt hkd]
      exact hb _ hR _
    have hkd' : e.ty.kind = 5 := by simpa using hkd
    by_cases hn8 : e.num ≥ 8
    · rw [if_pos (.inr hn8)] at hR
      have h8' : (8 : Int) ≤ n := by omega
      simp [hsh, hat, hn, hnn, h6, hkd', h8']
      exact hb _ hR _
    rw [if_neg (by rintro (h | h) <;> contradiction)] at hR
    have h8' : ¬ (8 : Int) ≤ n := by omega
    simp [hsh, hat, hn, hnn, h6, hkd', h8', hg, ckB]
    rw [← hkd', ← hv]
    refine aPureX_call (fieldsR (fields c.data e.ty n)) (fun J => Fields_spec hc (by omega) _ _ _ ⟨rfl, rfl⟩) ?_
    rw [hn] at hR
    cases hf : fields c.data e.ty n with
    | none =>
      rw [hf] at hR
      simp [fieldsR]
      exact hb _ hR _
    | some fs =>
      rw [hf] at hR
      simp [fieldsR]
      refine have_spec hc (hg _) (by omega) hvr _ _ ?_
      exact hb _ hR _
  rw [if_neg h6] at hR
  by_cases h14 : e.op = 14
  · rw [if_pos h14] at hR
    have hb := oB (by omega)
    by_cases hn1 : e.num < 1
    · rw [if_pos (.inl hn1)] at hR
      have h1' : (n : Int) < 1 := by omega
      simp [hsh, hat, hn, hnn, h14, h1']
      exact hb _ hR _
    by_cases hn8 : e.num > 8
    · rw [if_pos (.inr hn8)] at hR
      have h1' : ¬ (n : Int) < 1 := by omega
      have h8' : (8 : Int) < n := by omega
      simp [hsh, hat, hn, hnn, h14, h1', h8']
      exact hb _ hR _
    rw [if_neg (by rintro (h | h) <;> contradiction)] at hR
    have h1' : ¬ (n : Int) < 1 := by omega
    have h8' : ¬ (8 : Int) < n := by omega
    simp [hsh, hat, hn, hnn, h14, h1', h8']
    refine aPureX_call (.agg (sm 1).cs) (fun J => simple_spec _ _ _ ⟨rfl, rfl⟩) ?_
    refine aPureX_call (.agg (sm 1).cs) (fun J => simple_spec _ _ _ ⟨rfl, rfl⟩) ?_
    rw [buildS_vt2]
    refine aPureX_call (.bool (VT.sameL (typesOf c e.vars) [sm 1, sm 1])) (fun J => have_tok hc (app_get (hg _)) (by omega) hvr [sm 1, sm 1] rfl _ ⟨rfl, rfl⟩) ?_
    cases hsl : VT.sameL (typesOf c e.vars) [sm 1, sm 1] with
    | false =>
      rw [hsl, Bool.false_and] at hR
      simp
      exact hb _ hR _
    | true =>
      rw [hsl, Bool.true_and] at hR
      by_cases hn6 : e.num ≥ 6
      · rw [if_pos hn6] at hR
        have h6' : (6 : Int) ≤ n := by omega
        simp [h6', hn]
        refine aPureX_call (.agg (sm 2).cs) (fun J => simple_spec _ _ _ ⟨rfl, rfl⟩) ?_
        rw [← hv]
        refine aPureX_call (.bool (e.ty.same (sm 2))) (fun J => Equal_spec (by omega) _ _ ⟨rfl, rfl⟩) ?_
        exact hb _ hR _
      · rw [if_neg hn6] at hR
        have h6' : ¬ (6 : Int) ≤ n := by omega
        simp [h6', hn]
        refine aPureX_call (.agg (sm 1).cs) (fun J => simple_spec _ _ _ ⟨rfl, rfl⟩) ?_
        rw [← hv]
        refine aPureX_call (.bool (e.ty.same (sm 1))) (fun J => Equal_spec (by omega) _ _ ⟨rfl, rfl⟩) ?_
        exact hb _ hR _
  rw [if_neg h14, hn, Int.toNat_natCast] at hR
  by_cases hnc : c.codes.length ≤ n
  · rw [List.getElem?_eq_none hnc] at hR
    have hnc' : (c.codes.length : Int) ≤ n := by omega
    simp [hsh, hat, hn, hnn, nb h6, nb h14, hg, ckB, hnc']
    exact oF0 hR _
  have hnl : n < c.codes.length := by omega
  have hnc' : ¬ (c.codes.length : Int) ≤ n := by omega
  rw [List.getElem?_eq_getElem hnl] at hR
  simp only [] at hR
  obtain ⟨p, q, r, hw, hp, hq, hrr, hcat⟩ := cod_at hnl
  obtain ⟨hcp, hcc⟩ := hcr _ (List.getElem_mem hnl)
  obtain ⟨_, kp, kc, kr⟩ := k6 _ (List.getElem_mem hnl)
  by_cases h12 : e.op = 12
  · rw [if_pos h12] at hR
    have hb := oB (by omega)
    cases hnm : ((c.codes[n]).name == []) with
    | true =>
      have : ((c.codes[n]).name != []) = false := by simp [bne, hnm]
      rw [this, Bool.false_and, Bool.false_and] at hR
      simp [hsh, hat, hn, hnn, h12, hg, ckB, hnc', hnl, hcat, hp, hq, hrr, hnm]
      exact hb _ hR _
    | false =>
      have : ((c.codes[n]).name != []) = true := by simp [bne, hnm]
      rw [this, Bool.true_and] at hR
      simp [hsh, hat, hn, hnn, h12, hg, ckB, hnc', hnl, hcat, hp, hq, hrr, hnm]
      refine aPureX_call (.sl (VT.css (typesOf c (c.codes[n]).params)) .none) (fun J => types_spec (app_get (hg _)) (by omega) hcp _ fun _ => ⟨rfl, rfl⟩) ?_
      refine aPureX_call (.bool (VT.sameL (typesOf c e.vars) (typesOf c (c.codes[n]).params))) (fun J => have_spec hc (app_get (hg _)) (by omega) hvr _ _ ⟨rfl, rfl⟩) ?_
      cases hsl : VT.sameL (typesOf c e.vars) (typesOf c (c.codes[n]).params) with
      | false =>
        rw [hsl, Bool.false_and] at hR
        simp
        exact hb _ hR _
      | true =>
        rw [hsl, Bool.true_and] at hR
        simp
        rw [← hv, ← hw]
        refine aPureX_call (.bool (e.ty.same (c.codes[n]).res)) (fun J => Equal_spec (by omega) _ _ ⟨rfl, rfl⟩) ?_
        exact hb _ hR _
  · rw [if_neg h12] at hR
    have h11 : e.op = 11 := by omega
    have hus' : usesF e us = us.set n (us[n]'(by omega) + 1) := by
      rw [usesF, if_pos h11, hn, Int.toNat_natCast, List.getD_eq_getElem?_getD, List.getElem?_eq_getElem (by omega)]; rfl
    rw [hus'] at oT
    have hub := hus _ (List.getElem_mem (show n < us.length by omega))
    have hnu : n < us.length := by omega
    have hset : ∀ v : Int, (us.map fun n => AV.int .i64 n).set n (.int .i64 v) = (us.set n v).map fun n => AV.int .i64 n := fun v => by rw [List.map_set]
    have hstep : ∀ J b, (H ++ J).set u b = H.set u b ++ J := fun J b => app_set b hu
    generalize hV : us.set n (us[n]'(by omega) + 1) = vs at *
    have hvl : vs.length = us.length := by rw [← hV]; simp
    have hg2 : ∀ J, (H.set u (usB vs) ++ J)[kid]? = some (ckB c u) := fun J => app_get (by rw [List.getElem?_set_ne hne]; exact hk)
    have hsl2 : ∀ J k, (H.set u (usB vs) ++ J)[H.length + k]? = J[k]? := fun J k => by
      have := get_len_add (H.set u (usB vs)) J k
      rwa [List.length_set] at this
    have hb : ∀ b, numR c e = b → ∀ J, Out H.length K (.bool b) (H.set u (usB vs) ++ J) := fun b hb J => by
      cases b with
      | false => exact oF hb vs J hvl
      | true => exact oT hb J
    have hld : ∀ J, (H ++ J)[u]? = some (.cells (us.map fun n => .int .i64 n)) := fun J => hgu J
    have hu1 : ∀ k : AV → Prop, aCells false 1 n (us.map fun n => AV.int .i64 n) k = k (.int .i64 us[n]) := fun k => aCells_one 1 (us_at hnu)
    simp [hsh, hat, hn, hnn, nb h6, nb h14, nb h12, hg, ckB, hnc', hnl, hcat, hp, hq, hrr, hld, hu1, hstep]
    rw [wrap_in (by omega) (by omega), us_set hnu, hV, ← usB]
    refine ⟨by omega, ?_⟩
    cases hnm : (c.codes[n]).name.isEmpty with
    | false =>
      have h1 : ((c.codes[n]).name == []) = false := by cases hh : (c.codes[n]).name <;> simp [hh] at hnm ⊢
      rw [h1, Bool.false_and, Bool.false_and] at hR
      simp
      exact hb _ hR _
    | true =>
      have h1 : ((c.codes[n]).name == []) = true := by cases hh : (c.codes[n]).name <;> simp [hh] at hnm ⊢
      rw [h1, Bool.true_and] at hR
      simp [hsl2]
      refine aDet_same (.sl (VT.css (typesOf c (c.codes[n]).capt)) .none) (types_spec (hg2 _) (by omega) hcc _ fun _ => ⟨rfl, rfl⟩) ?_
      refine aDet_same (.bool (VT.sameL (typesOf c e.vars) (typesOf c (c.codes[n]).capt))) (have_spec hc (hg2 _) (by omega) hvr _ _ ⟨rfl, rfl⟩) ?_
      cases hsl : VT.sameL (typesOf c e.vars) (typesOf c (c.codes[n]).capt) with
      | false =>
        rw [hsl, Bool.false_and] at hR
        simp
        exact hb _ hR _
      | true =>
        rw [hsl, Bool.true_and] at hR
        simp [hsl2]
        refine aDet_grow _ _ (types_own (hg2 _) (by omega) hcp _ fun _ => ⟨rfl, rfl⟩) (growA_acc _ _ _ _) ?_
        simp [hsl2]
        rw [← hw, buildS_vt]
        refine aDet_append (List.append_assoc _ [_, _] _).symm (by simp [typesOf]) (by simp) (by simp) (by simp [typesOf]; omega) (by simp [typesOf]; omega) ?_
        refine aDet_same (.agg (VT.mk 9 0 (typesOf c (c.codes[n]).params ++ [(c.codes[n]).res])).cs) (form_acc 9 (typesOf c (c.codes[n]).params ++ [(c.codes[n]).res]) (by simp [VT.css_map]) _ _ ⟨rfl, rfl⟩) ?_
        rw [← hv]
        refine aDet_same (.bool (e.ty.same (.mk 9 0 (typesOf c (c.codes[n]).params ++ [(c.codes[n]).res])))) (Equal_spec (by omega) _ _ ⟨rfl, rfl⟩) ?_
        simp
        exact hb _ hR _
def conLen (c : Cor) (t : VT) : Nat := match c.data[t.num.toNat]? with | some d => d.cons.length | none => 0
def caseOk (c : Cor) (t : VT) (e : CEx) (k : Nat) : Bool := match fields c.data t k with | some fs => VT.sameL (typesOf c (e.binds.getD k [])) fs | none => false
def casesOk (c : Cor) (t : VT) (e : CEx) : Bool := (List.range e.kids.length).all (caseOk c t e)
def parR (c : Cor) (e : CEx) : Bool :=
  if e.op = 7 then shapeB e 0 2 && (lens e.binds == [0, 1] && (VT.sameL (typesOf c (e.binds.getD 1 [])) [ety c (e.kids.getD 0 0)] && agree c e.ty (e.kids.drop 1)))
  else if e.op = 24 then shapeB e 0 2 && (lens e.binds == [0, 1] && (VT.sameL (typesOf c (e.binds.getD 1 [])) [sm 1] && agree c e.ty e.kids))
  else if e.op = 8 then shapeB e 1 1 && ((vty c (e.vars.getD 0 0)).kind == 6 && (VT.sameL (typesOf c (e.binds.getD 0 [])) (vty c (e.vars.getD 0 0)).kids && agree c e.ty e.kids))
  else if e.op = 9 then shapeB e 1 2 && (lens e.binds == [0, 0] && (VT.sameL (typesOf c e.vars) [sm 2] && agree c e.ty e.kids))
  else e.vars.length == 1 && ((vty c (e.vars.getD 0 0)).kind == 5 && (e.kids.length == conLen c (vty c (e.vars.getD 0 0)) && (casesOk c (vty c (e.vars.getD 0 0)) e && agree c e.ty e.kids)))
theorem vt_data {c : Cor} {t : VT} (h : tyValid c.data 0 t = true) (hk : t.kind = 5) : ∃ n : Nat, t.num = n ∧ n < c.data.length := by
  obtain ⟨k, n, ks⟩ := t
  simp only [VT.kind] at hk
  subst hk
  simp only [tyValid, tyOk, Bool.and_eq_true] at h
  have h2 := h.2.1
  simp [shapeOk] at h2
  obtain ⟨h3, h4⟩ := h2
  refine ⟨n.toNat, by simp only [VT.num]; omega, ?_⟩
  by_cases hh : n.toNat < c.data.length
  · exact hh
  · rw [List.getElem?_eq_none (by omega)] at h4; simp at h4
theorem vt_one {c : Cor} {t : VT} (h : tyValid c.data 0 t = true) (hk : t.kind = 7 ∨ t.kind = 8) : ∃ a, t.kids = [a] ∧ t.num = 0 := by
  obtain ⟨k, n, ks⟩ := t
  simp only [VT.kind] at hk
  simp only [tyValid, tyOk, Bool.and_eq_true] at h
  have h2 := h.2.1
  have : n = 0 ∧ ks.length = 1 := by rcases hk with rfl | rfl <;> simpa [shapeOk] using h2
  obtain ⟨rfl, h4⟩ := this
  match ks, h4 with
  | [a], _ => exact ⟨a, rfl, rfl⟩
theorem one_var {c : Cor} {l : List Int} (hr : inV c l) (hl : 0 < l.length) : ∃ v : Nat, l.getD 0 0 = v ∧ l[0] = v ∧ ∃ h : v < c.vars.length, vty c (l.getD 0 0) = c.vars[v] := by
  have h := hr _ (List.getElem_mem hl)
  have e0 : l.getD 0 0 = l[0] := by rw [List.getD_eq_getElem?_getD, List.getElem?_eq_getElem hl]; rfl
  refine ⟨(l[0]).toNat, by rw [e0]; omega, by omega, by omega, ?_⟩
  rw [e0]
  have : ((l[0]).toNat : Int) = l[0] := by omega
  have h2 := vty_eq (c := c) (v := (l[0]).toNat) (by omega)
  rwa [this] at h2
theorem parent_spec {c : Cor} {e : CEx} (hx : ExIn c e) {u kid : Nat} {H : Heap} (hk : H[kid]? = some (ckB c u)) (K : Kt) (hK : K (.bool (parR c e)) H) :
    ACalls tP n_zq95 [.ptr kid 0, .agg e.cs] H K := by
  refine ACalls.out (zq95_ok fun hs => ?_)
  obtain ⟨hc, ⟨kv, kb, kk, kt, kbl⟩, hvr, hkr, hbk, hbr, hcr, hvt⟩ := hx
  have hc' := hc
  obtain ⟨k1, k2, k3, ⟨k4, k5⟩, k6, k7⟩ := hc'
  obtain ⟨x, y, z, hv, hx, hy, hz, hat⟩ := ex3 e
  have hkl := lt_get hk
  have hO : ∀ J, Out H.length K (.bool (parR c e)) (H ++ J) := fun J => Out.bool rfl (Nat.le_refl _) hs hK
  have hg : ∀ J, (H ++ J)[kid]? = some (ckB c u) := fun J => app_get hk
  have hb : ∀ b, parR c e = b → ∀ J, Out H.length K (.bool b) (H ++ J) := fun b h J => h ▸ hO J
  have hR := parR.eq_1 c e
  have bl : ∀ i (h : i < e.binds.length), (e.binds[i]).length ≤ 1000 ∧ inV c e.binds[i] ∧ e.binds.getD i [] = e.binds[i] := fun i h => ⟨by have := kbl _ (List.getElem_mem h); omega, hbr _ (List.getElem_mem h), by rw [List.getD_eq_getElem?_getD, List.getElem?_eq_getElem h]; rfl⟩
  have hag0 : ∀ J, ACalls tP n_zq106 [.ptr kid 0, .agg e.cs, .int .i64 0] (H ++ J) fun v H' => v = .bool (agree c e.ty e.kids) ∧ H' = H ++ J := fun J =>
    kidsAgree_spec hc (hg J) e (by omega) hkr 0 _ ⟨rfl, rfl⟩
  have hag1 : ∀ J, ACalls tP n_zq106 [.ptr kid 0, .agg e.cs, .int .i64 1] (H ++ J) fun v H' => v = .bool (agree c e.ty (e.kids.drop 1)) ∧ H' = H ++ J := fun J =>
    kidsAgree_spec hc (hg J) e (by omega) hkr 1 _ ⟨rfl, rfl⟩
  have fin : ∀ (b : Bool) (X : AB), parR c e = agree c e.ty e.kids → aPureX (H ++ [X]) (fun H' K' => ACalls tP n_zq106 [.ptr kid 0, .agg e.cs, .int .i64 0] H' K') fun t => aPick (.bool true) t (.bool false) fun t => Out H.length K t (H ++ [X]) := fun b X h => by
    refine aPureX_call (.bool (agree c e.ty e.kids)) (fun J => by simpa using hag0 (X :: J)) ?_
    simp
    exact hb _ h _
  by_cases h7 : e.op = 7
  · rw [if_pos h7] at hR
    simp [zq95, hat, h7]
    have hat7 := hat
    rw [h7] at hat7
    rw [← hat7]
    refine aPureX_call (.bool (shapeB e 0 2)) (fun J => shape_spec e _ _ _ _ ⟨rfl, rfl⟩) ?_
    cases hsh : shapeB e 0 2 with
    | false =>
      rw [hsh, Bool.false_and] at hR
      simp
      exact hb _ hR _
    | true =>
    rw [hsh, Bool.true_and] at hR
    have hkl2 : e.kids.length = 2 := by simp [shapeB] at hsh; omega
    simp [hat7]
    rw [buildS_int2, ← hat7]
    refine aPureX_call (.bool (lens e.binds == [0, 1])) (fun J => binds_spec e (by omega) _ _ _ ⟨rfl, rfl⟩) ?_
    cases hln : (lens e.binds == [0, 1]) with
    | false =>
      rw [hln, Bool.false_and] at hR
      simp
      exact hb _ hR _
    | true =>
    rw [hln, Bool.true_and] at hR
    have hbl : 1 < e.binds.length := by omega
    obtain ⟨b1, b2, b3⟩ := bl 1 hbl
    simp [hat7, hbl]
    refine ⟨by omega, ?_⟩
    rw [← hat7]
    refine aPureX_call (.agg (ety c e.kids[0]).cs) (fun J => kidType_spec (app_get (hg _)) e hkr 0 (by omega) _ ⟨rfl, rfl⟩) ?_
    rw [buildS_vt]
    have hk0 : e.kids.getD 0 0 = e.kids[0] := by rw [List.getD_eq_getElem?_getD, List.getElem?_eq_getElem (by omega)]; rfl
    rw [b3, hk0] at hR
    refine aPureX_call (.bool (VT.sameL (typesOf c e.binds[1]) [ety c e.kids[0]])) (fun J => have_tok hc (app_get (hg _)) b1 b2 [ety c e.kids[0]] rfl _ ⟨rfl, rfl⟩) ?_
    cases hsl : VT.sameL (typesOf c e.binds[1]) [ety c e.kids[0]] with
    | false =>
      rw [hsl, Bool.false_and] at hR
      simp
      exact hb _ hR _
    | true =>
    rw [hsl, Bool.true_and] at hR
    simp [hat7]
    rw [← hat7]
    refine aPureX_call (.bool (agree c e.ty (e.kids.drop 1))) (fun J => by rw [List.append_assoc]; exact hag1 _) ?_
    exact hb _ hR _
  rw [if_neg h7] at hR
  by_cases h24 : e.op = 24
  · rw [if_pos h24] at hR
    have hat7 := hat
    rw [h24] at hat7
    simp [zq95, hat, h24]
    rw [← hat7]
    refine aPureX_call (.bool (shapeB e 0 2)) (fun J => shape_spec e _ _ _ _ ⟨rfl, rfl⟩) ?_
    cases hsh : shapeB e 0 2 with
    | false =>
      rw [hsh, Bool.false_and] at hR
      simp
      exact hb _ hR _
    | true =>
    rw [hsh, Bool.true_and] at hR
    have hkl2 : e.kids.length = 2 := by simp [shapeB] at hsh; omega
    simp [hat7]
    rw [buildS_int2, ← hat7]
    refine aPureX_call (.bool (lens e.binds == [0, 1])) (fun J => binds_spec e (by omega) _ _ _ ⟨rfl, rfl⟩) ?_
    cases hln : (lens e.binds == [0, 1]) with
    | false =>
      rw [hln, Bool.false_and] at hR
      simp
      exact hb _ hR _
    | true =>
    rw [hln, Bool.true_and] at hR
    have hbl : 1 < e.binds.length := by omega
    obtain ⟨b1, b2, b3⟩ := bl 1 hbl
    simp [hat7, hbl]
    refine ⟨by omega, ?_⟩
    refine aPureX_call (.agg (sm 1).cs) (fun J => simple_spec _ _ _ ⟨rfl, rfl⟩) ?_
    rw [buildS_vt]
    rw [b3] at hR
    refine aPureX_call (.bool (VT.sameL (typesOf c e.binds[1]) [sm 1])) (fun J => have_tok hc (app_get (hg _)) b1 b2 [sm 1] rfl _ ⟨rfl, rfl⟩) ?_
    cases hsl : VT.sameL (typesOf c e.binds[1]) [sm 1] with
    | false =>
      rw [hsl, Bool.false_and] at hR
      simp
      exact hb _ hR _
    | true =>
    rw [hsl, Bool.true_and] at hR
    simp [hat7]
    rw [← hat7]
    refine aPureX_call (.bool (agree c e.ty e.kids)) (fun J => by rw [List.append_assoc]; exact hag0 _) ?_
    exact hb _ hR _
  rw [if_neg h24] at hR
  simp [zq95, hat, nb h7, nb h24]
  refine zq95_j1_ok fun hs1 => ?_
  unfold zq95_j1b
  by_cases h8 : e.op = 8
  · rw [if_pos h8] at hR
    have hat7 := hat
    rw [h8] at hat7
    simp [h8]
    rw [← hat7]
    refine shape_spec e _ _ _ _ ?_
    cases hsh : shapeB e 1 1 with
    | false =>
      rw [hsh, Bool.false_and] at hR
      simp
      exact hb _ hR _
    | true =>
    rw [hsh, Bool.true_and] at hR
    have hkl1 : e.kids.length = 1 ∧ e.vars.length = 1 := by simp [shapeB] at hsh; omega
    obtain ⟨v, hv0, hv1, hvl, hvt0⟩ := one_var hvr (by omega)
    rw [hvt0] at hR
    obtain ⟨x', y', z', hw, hx', hy', hz'⟩ := vt3 c.vars[v]
    have hvl1 : 0 < e.vars.length := by omega
    have hbl : 0 < e.binds.length := by omega
    obtain ⟨b1, b2, b3⟩ := bl 0 hbl
    rw [b3] at hR
    obtain ⟨rfl, rfl, rfl⟩ := kind_of hw
    cases hk6 : ((c.vars[v]).kind == 6) with
    | false =>
      rw [hk6, Bool.false_and] at hR
      simp [hat7, hg, ckB, hvl1, hv1, hvl, hw, hbl, hk6]
      exact hb _ hR _
    | true =>
    rw [hk6, Bool.true_and] at hR
    simp [hat7, hg, ckB, hvl1, hv1, hvl, hw, hbl, hk6]
    refine aPureX_call (.bool (VT.sameL (typesOf c e.binds[0]) (c.vars[v]).kids)) (fun J => have_spec hc (app_get (hg _)) b1 b2 _ _ ⟨rfl, rfl⟩) ?_
    cases hsl : VT.sameL (typesOf c e.binds[0]) (c.vars[v]).kids with
    | false =>
      rw [hsl, Bool.false_and] at hR
      simp
      exact hb _ hR _
    | true =>
    rw [hsl, Bool.true_and] at hR
    simp
    rw [← hat7]
    refine aPureX_call (.bool (agree c e.ty e.kids)) (fun J => by rw [List.append_assoc]; exact hag0 _) ?_
    exact hb _ hR _
  rw [if_neg h8] at hR
  by_cases h9 : e.op = 9
  · rw [if_pos h9] at hR
    have hat7 := hat
    rw [h9] at hat7
    simp [h9]
    rw [← hat7]
    refine aPureX_call (.bool (shapeB e 1 2)) (fun J => shape_spec e _ _ _ _ ⟨rfl, rfl⟩) ?_
    cases hsh : shapeB e 1 2 with
    | false =>
      rw [hsh, Bool.false_and] at hR
      simp
      exact hb _ hR _
    | true =>
    rw [hsh, Bool.true_and] at hR
    simp [hat7]
    rw [buildS_int2, ← hat7]
    refine aPureX_call (.bool (lens e.binds == [0, 0])) (fun J => binds_spec e (by omega) _ _ _ ⟨rfl, rfl⟩) ?_
    cases hln : (lens e.binds == [0, 0]) with
    | false =>
      rw [hln, Bool.false_and] at hR
      simp
      exact hb _ hR _
    | true =>
    rw [hln, Bool.true_and] at hR
    simp [hat7]
    refine aPureX_call (.agg (sm 2).cs) (fun J => simple_spec _ _ _ ⟨rfl, rfl⟩) ?_
    rw [buildS_vt]
    refine aPureX_call (.bool (VT.sameL (typesOf c e.vars) [sm 2])) (fun J => have_tok hc (app_get (hg _)) (by omega) hvr [sm 2] rfl _ ⟨rfl, rfl⟩) ?_
    cases hsl : VT.sameL (typesOf c e.vars) [sm 2] with
    | false =>
      rw [hsl, Bool.false_and] at hR
      simp
      exact hb _ hR _
    | true =>
    rw [hsl, Bool.true_and] at hR
    simp [hat7]
    rw [← hat7]
    refine aPureX_call (.bool (agree c e.ty e.kids)) (fun J => by rw [List.append_assoc]; exact hag0 _) ?_
    exact hb _ hR _
  rw [if_neg h9] at hR
  simp [nb h8, nb h9]
  refine zq95_j2_ok fun hs2 => ?_
  unfold zq95_j2b
  by_cases hvn : e.vars.length ≠ 1
  · have h1 : (e.vars.length == 1) = false := by simpa using hvn
    have h2 : ((e.vars.length : Int) != 1) = true := nbt (by omega)
    rw [h1, Bool.false_and] at hR
    simp [h2]
    exact hb _ hR _
  have hv1' : e.vars.length = 1 := by omega
  have h2 : ((e.vars.length : Int) != 1) = false := by simp [hv1']
  have h1 : (e.vars.length == 1) = true := by simp [hv1']
  rw [h1, Bool.true_and] at hR
  obtain ⟨v, hv0, hv1, hvl, hvt0⟩ := one_var hvr (by omega)
  rw [hvt0] at hR
  obtain ⟨x', y', z', hw, hx', hy', hz'⟩ := vt3 c.vars[v]
  obtain ⟨rfl, rfl, rfl⟩ := kind_of hw
  have hvl1 : 0 < e.vars.length := by omega
  by_cases hk5 : (c.vars[v]).kind ≠ 5
  · rw [nb hk5, Bool.false_and] at hR
    simp [h2, hg, ckB, hvl1, hv1, hvl, hw, nbt hk5]
    exact hb _ hR _
  have hk5' : (c.vars[v]).kind = 5 := by simpa using hk5
  rw [hk5'] at hR
  obtain ⟨d, hd, hdl⟩ := vt_data (hvt _ (List.getElem_mem hvl)) hk5'
  have hcl : conLen c c.vars[v] = (c.data[d]).cons.length := by simp [conLen, hd, hdl]
  rw [hcl] at hR
  simp [h2, hg, ckB, hvl1, hv1, hvl, hw, hk5', hd, hdl, Dat.cs]
  have hw5 : (c.vars[v]).cs = [.int .i64 5, .int .i64 d, .sl (VT.css (c.vars[v]).kids) .none] := by rw [hw, hk5', hd]
  by_cases hkn : e.kids.length ≠ (c.data[d]).cons.length
  · have h3 : (e.kids.length == (c.data[d]).cons.length) = false := by simpa using hkn
    have h4 : ((e.kids.length : Int) != (c.data[d]).cons.length) = true := nbt (by omega)
    rw [h3] at hR
    simp [h4]
    exact hb _ hR _
  have hkn' : e.kids.length = (c.data[d]).cons.length := by omega
  have h4 : ((e.kids.length : Int) != (c.data[d]).cons.length) = false := by simp [hkn']
  rw [hkn'] at hR
  simp only [beq_self_eq_true, Bool.true_and] at hR
  simp [h4]
  refine zq95_loop19 (Inv := fun q t156 H' => ∃ i : Nat, i ≤ e.kids.length ∧ q = e.kids.length - i ∧ t156 = .int .i64 i ∧ (∀ k, k < i → caseOk c c.vars[v] e k = true) ∧ H' = H ++ [.cells [.int .i64 e.op, .int .i64 e.num, .sl (ints e.vars) .none, .sl (rows e.binds) .none, .sl (ints e.kids) .none, x, y, z], .cells [.int .i64 5, .int .i64 d, .sl (VT.css (c.vars[v]).kids) .none]]) e.kids.length ?_ ?_
  · intro _; exact ⟨0, by omega, by omega, rfl, by omega, rfl⟩
  · rintro q t156 H' ⟨i, hi, rfl, rfl, hok, rfl⟩ hsc hlen hsF Kb hKb
    by_cases hlt : i < e.kids.length
    · have hbl : i < e.binds.length := by omega
      obtain ⟨b1, b2, b3⟩ := bl i hbl
      have hbad : caseOk c c.vars[v] e i = false → parR c e = false := fun h => by
        rw [hR]
        have : casesOk c c.vars[v] e = false := by
          rw [casesOk, List.all_eq_false]
          exact ⟨i, by simp; omega, by simp [h]⟩
        rw [this, Bool.false_and]
      have hco : caseOk c c.vars[v] e i = (match fields c.data c.vars[v] i with | some fs => VT.sameL (typesOf c e.binds[i]) fs | none => false) := by rw [caseOk, b3]
      simp [zq95_b19, hlt, hg, ckB]
      rw [← hw5]
      refine aPureX_call (fieldsR (fields c.data c.vars[v] i)) (fun J => Fields_spec hc (by have := k5 _ (List.getElem_mem hvl); omega) _ _ _ ⟨rfl, rfl⟩) ?_
      cases hf : fields c.data c.vars[v] i with
      | none =>
        rw [hf] at hco
        simp [fieldsR]
        exact hb _ (hbad hco) _
      | some fs =>
        rw [hf] at hco
        simp [fieldsR, hbl]
        refine have_spec hc (hg _) b1 b2 _ _ ?_
        cases hsl : VT.sameL (typesOf c e.binds[i]) fs with
        | false =>
          simp only [] at hco
          rw [hsl] at hco
          simp
          exact hb _ (hbad hco) _
        | true =>
          simp only [] at hco
          rw [hsl] at hco
          simp
          rw [wrap_in (by omega) (by omega)]
          refine hKb _ _ ⟨e.kids.length - (i + 1), by omega, Back.here (by simp) (by rw [hw5]; exact hsc) ?_ ⟨_, rfl, i + 1, by omega, rfl, by simp, fun k hk => ?_, by rw [hw5]⟩⟩
          · simp [zq95_fr19, AV.sc, AV.scV, AV.scA, AV.scB]; omega
          · by_cases hki : k = i
            · subst hki; exact hco
            · exact hok k (by omega)
    · obtain rfl : i = e.kids.length := by omega
      have hall : casesOk c c.vars[v] e = true := by
        rw [casesOk, List.all_eq_true]
        intro k hk
        exact hok k (by simpa using hk)
      rw [hall, Bool.true_and] at hR
      simp [zq95_b19]
      rw [← hat]
      refine (kidsAgree_spec hc (hg _) e (by omega) hkr 0 _ ?_)
      exact hb _ hR _
end Go.Proofs.Ytkdmpbhbmmhijaa

