/- A value's copy; equal values. -/
import Derived.Test.YtfpmdpldabopjaaKVb
import Derived.Test.YtfpmdpldabopjaaKGP
import Derived.Test.YtfpmdpldabopjaaA3
namespace Go.Proofs.Ytfpmdpldabopjaa
open Go Go.Abs
set_option linter.unusedSimpArgs false
set_option linter.unusedVariables false
set_option maxRecDepth 8000
@[simp] theorem aRet_nil (k : AV → Prop) : aRet [] k = k (.tup []) := by simp [aRet]
theorem tupP {n : Nat} {H2 J H' : Heap} {K : Kt} (he : H' = H2 ++ J) (hn : n ≤ H2.length) (hs : HSc H2) (h : K (.tup []) H2) : Out n K (.tup []) H' := by
  subst he
  exact ⟨.tup [], H2, J, rfl, hn, hs, .tup trivial, h⟩
theorem value_copied_spec : ∀ (m : Nat) (v : VT), v.nodes ≤ m → v.nodes ≤ 10000 → ∀ (H : Heap) (K : Kt), K (.agg v.cs) H → ACalls Try.prog n_value_copied [.agg v.cs] H K := by
  intro m
  induction m with
  | zero => intro v h; have := v.nodes_pos; omega
  | succ m ih =>
    intro v hm hb H K hK
    obtain ⟨k, n, ks⟩ := v
    have hll := VT.len_le ks
    have hnn : (VT.mk k n ks).nodes = VT.nodesL ks + 1 := by simp [VT.nodes]
    refine ACalls.out (value_copied_ok fun hs => ?_)
    simp [value_copied, VT.cs, aBuild, fillA, AV.known, Nat.add_assoc]
    unfold value_copied_l3
    refine ALoop.ownC (H.length + 2) 2 e_api_Value 3 (cs := [.int .i64 k, .int .i64 n, .snil]) (by simp) rfl ?_
    have hset : (H ++ [AB.cells [.int .i64 k, .int .i64 n, .sl (VT.css ks) .none], .cells [.int .i64 0, .int .i64 0, .snil], .cells [.int .i64 k, .int .i64 n, .snil]]).set (H.length + 2) (.cells ([AV.int .i64 k, .int .i64 n, .snil].set 2 (.sl [] (.own (H ++ [AB.cells [.int .i64 k, .int .i64 n, .sl (VT.css ks) .none], .cells [.int .i64 0, .int .i64 0, .snil], .cells [.int .i64 k, .int .i64 n, .snil]]).length)))) ++ [.perm e_api_Value 3 0] =
        H ++ [.cells [.int .i64 k, .int .i64 n, .sl (VT.css ks) .none], .cells [.int .i64 0, .int .i64 0, .snil], .cells [.int .i64 k, .int .i64 n, .sl [] (.own (H.length + 3))], .perm e_api_Value 3 0] := by simp [List.set_append_right]
    rw [hset]
    show value_copied_l3 (.ptr (H.length + 1) 0) (.ptr (H.length + 2) 0) (.sl (VT.css ks) .none) (.int .i64 ks.length) (.int .i64 0) _ (Out H.length K)
    have hsc : ∀ i, HSc (H ++ [.cells [.int .i64 k, .int .i64 n, .sl (VT.css ks) .none], .cells [.int .i64 0, .int .i64 0, .snil], .cells [.int .i64 k, .int .i64 n, .sl (VT.css (ks.take i)) (.own (H.length + 3))], .perm e_api_Value 3 i]) := fun i => hs.append (by simp [AB.sc, AV.scA, AV.scB])
    refine value_copied_loop3 (Inv := fun q t14 H' => ∃ i : Nat, i ≤ ks.length ∧ q = ks.length - i ∧ t14 = .int .i64 i ∧
      H' = H ++ [.cells [.int .i64 k, .int .i64 n, .sl (VT.css ks) .none], .cells [.int .i64 0, .int .i64 0, .snil], .cells [.int .i64 k, .int .i64 n, .sl (VT.css (ks.take i)) (.own (H.length + 3))], .perm e_api_Value 3 i]) ks.length ?_ ?_
    · intro _; exact ⟨0, by omega, by omega, rfl, by simp [VT.css]⟩
    · rintro q t14 H' ⟨i, hi, rfl, rfl, rfl⟩ hsc' hlen hsF Kb hKb
      by_cases hlt : i < ks.length
      · obtain ⟨x, y, z, hvx, hx, hy, hz⟩ := vt3' ks[i]
        have hkn := VT.kid_lt (k := k) (n := n) hlt
        simp [value_copied_b3, hlt, hvx, hx, hy, hz]
        rw [← hvx]
        refine aPureX_call (.agg (ks[i]).cs) (fun J => ih ks[i] (by omega) (by omega) _ _ ⟨rfl, rfl⟩) ?_
        rw [buildS_vt]
        simp [aAppend, aSrc, aAppTo, Nat.min_eq_left hi, AV.known, List.set_append_right]
        refine ⟨⟨by omega, by omega⟩, ?_⟩
        rw [wrap_in (by omega) (by omega)]
        have hst : VT.css (ks.take i) ++ [(ks[i]).cs] = VT.css (ks.take (i + 1)) := by
          rw [List.take_succ_eq_append_getElem hlt, VT.css_map, VT.css_map, List.map_append]
          rfl
        rw [hst]
        refine hKb _ _ ⟨ks.length - (i + 1), by omega, Back.at (J := [.cells (ks[i]).cs]) (H2 := H ++ [.cells [.int .i64 k, .int .i64 n, .sl (VT.css ks) .none], .cells [.int .i64 0, .int .i64 0, .snil], .cells [.int .i64 k, .int .i64 n, .sl (VT.css (ks.take (i + 1))) (.own (H.length + 3))], .perm e_api_Value 3 (i + 1)]) (by simp) (by simp) (hsc _) ?_ ⟨_, rfl, i + 1, by omega, rfl, by simp, rfl⟩⟩
        simp [value_copied_fr3, AV.sc, AV.scV, AV.scA, AV.scB]
      · obtain rfl : i = ks.length := by omega
        rw [List.take_length] at *
        simp [value_copied_b3, AV.known, List.set_append_right]
        exact Out.at (J := [_, _, _, _]) (b := .agg [.int .i64 k, .int .i64 n, .sl (VT.css ks) .none]) rfl (Nat.le_refl _) hs (.agg ⟨.refl _, .refl _, .sl _ _, trivial⟩) rfl (by simp [AV.scV, AV.scA, AV.scB]) (by simpa [VT.cs] using hK)
theorem keep_Same_spec : ∀ (m : Nat), (∀ (v : VT), v.nodes ≤ m → v.nodes ≤ 1000000 → ∀ (H : Heap) (K : Kt), K (.bool true) H → ACalls Try.prog n_keep_SameValue [.agg v.cs, .agg v.cs] H K) := by
  intro m
  induction m with
  | zero => intro v h; have := v.nodes_pos; omega
  | succ m ih =>
    intro v hm hb H K hK
    obtain ⟨k, n, ks⟩ := v
    have hll := VT.len_le ks
    have hnn : (VT.mk k n ks).nodes = VT.nodesL ks + 1 := by simp [VT.nodes]
    refine ACalls.out (keep_SameValue_ok fun hs => ?_)
    simp [keep_SameValue, VT.cs, Nat.add_assoc]
    refine ACalls.out (keep_SameValues_ok fun hs2 => ?_)
    simp [keep_SameValues]
    refine keep_SameValues_loop4 (Inv := fun q t13 H' => ∃ i : Nat, i ≤ ks.length ∧ q = ks.length - i ∧ t13 = .int .i64 i ∧ H' = H ++ [.cells [.int .i64 k, .int .i64 n, .sl (VT.css ks) .none], .cells [.int .i64 k, .int .i64 n, .sl (VT.css ks) .none]]) ks.length ?_ ?_
    · intro _; exact ⟨0, by omega, by omega, rfl, rfl⟩
    · rintro q t13 H' ⟨i, hi, rfl, rfl, rfl⟩ hsc' hlen hsF Kb hKb
      by_cases hlt : i < ks.length
      · have hkn := VT.kid_lt (k := k) (n := n) hlt
        simp [keep_SameValues_b4, hlt]
        refine aPureX_call (.bool true) (fun J => ih ks[i] (by omega) (by omega) _ _ ⟨rfl, rfl⟩) ?_
        simp
        rw [wrap_in (by omega) (by omega)]
        refine hKb _ _ ⟨ks.length - (i + 1), by omega, Back.here (by simp) hsc' ?_ ⟨_, rfl, i + 1, by omega, rfl, by simp, rfl⟩⟩
        simp [keep_SameValues_fr4, AV.sc, AV.scV, AV.scA, AV.scB]
      · simp [keep_SameValues_b4, hlt]
        refine Out.bool (J := []) (by simp) (by simp) hs2 ?_
        try simp
        exact Out.bool rfl (Nat.le_refl _) hs hK
theorem keep_SameValues_spec (vs : List VT) (hv : ∀ v ∈ vs, v.nodes ≤ 1000000) (hl : vs.length ≤ 1000000) (H : Heap) (K : Kt) (hK : K (.bool true) H) : ACalls Try.prog n_keep_SameValues [.sl (VT.css vs) .none, .sl (VT.css vs) .none] H K := by
  refine ACalls.out (keep_SameValues_ok fun hs2 => ?_)
  simp [keep_SameValues]
  refine keep_SameValues_loop4 (Inv := fun q t13 H' => ∃ i : Nat, i ≤ vs.length ∧ q = vs.length - i ∧ t13 = .int .i64 i ∧ H' = H) vs.length ?_ ?_
  · intro _; exact ⟨0, by omega, by omega, rfl, rfl⟩
  · rintro q t13 H' ⟨i, hi, rfl, rfl, rfl⟩ hsc' hlen hsF Kb hKb
    by_cases hlt : i < vs.length
    · have hkn := hv _ (List.getElem_mem hlt)
      simp [keep_SameValues_b4, hlt]
      refine aPureX_call (.bool true) (fun J => keep_Same_spec _ vs[i] (Nat.le_refl _) hkn _ _ ⟨rfl, rfl⟩) ?_
      simp
      rw [wrap_in (by omega) (by omega)]
      refine hKb _ _ ⟨vs.length - (i + 1), by omega, Back.here (by simp) hsc' ?_ ⟨_, rfl, i + 1, by omega, rfl, by simp, rfl⟩⟩
      simp [keep_SameValues_fr4, AV.sc, AV.scV, AV.scA, AV.scB]
    · simp [keep_SameValues_b4, hlt]
      exact Out.bool (J := []) (by simp) (Nat.le_refl _) hs2 hK
end Go.Proofs.Ytfpmdpldabopjaa
namespace Go.Proofs.Ytfpmdpldabopjaa
open Go Go.Abs
set_option linter.unusedSimpArgs false
set_option linter.unusedVariables false
set_option maxRecDepth 8000
theorem callP1 : callable Try.prog n_value_Preorder_1 = true := by kernel_rfl
def rowsB (rs : List (List Bool)) : List (List AV) := rs.map fun r => [.sl (r.map fun b => [.bool b]) .none]
/-- The heap with the list of nodes set. -/
def pw (H : Heap) (io iv : Nat) (l : List VT) : Heap := (H.set iv (.vec e_api_Value 3 l.length (VT.css l).flatten)).set io (.cells [.ov iv l.length])
structure Pw (H : Heap) (io iv ir is : Nat) (rs : List (List Bool)) (l : List VT) : Prop where
  ne : io ≠ iv
  nr : ir ≠ io ∧ ir ≠ iv
  ns : is ≠ io ∧ is ≠ iv
  h1 : H[io]? = some (.cells [.ov iv l.length])
  h2 : H[iv]? = some (.vec e_api_Value 3 l.length (VT.css l).flatten)
  h3 : ∃ tok, H[ir]? = some (.cells [.sl (rowsB rs) tok])
  h4 : H[is]? = some (.cells [.fn n_value_Preorder_1 [.ptr io 0, .ptr ir 0, .ptr is 0]])
section
variable {H J : Heap} {io iv ir is : Nat} {rs : List (List Bool)} {l l' : List VT}
@[simp] theorem pw_len : (pw H io iv l).length = H.length := by simp [pw]
theorem pw_pw (hne : io ≠ iv) : pw (pw H io iv l) io iv l' = pw H io iv l' := by
  unfold pw
  rw [List.set_comm _ _ hne, List.set_set, List.set_set]
theorem Pw.app (h : Pw H io iv ir is rs l) : Pw (H ++ J) io iv ir is rs l := by
  obtain ⟨tok, h3⟩ := h.h3
  exact ⟨h.ne, h.nr, h.ns, app_get h.h1, app_get h.h2, ⟨tok, app_get h3⟩, app_get h.h4⟩
theorem Pw.pw_app (h : Pw H io iv ir is rs l) : pw (H ++ J) io iv l' = pw H io iv l' ++ J := by
  unfold pw
  rw [List.set_append_left _ _ (lt_get h.h2), List.set_append_left _ _ (by simpa using lt_get h.h1)]
theorem Pw.next (h : Pw H io iv ir is rs l) : Pw (pw H io iv l') io iv ir is rs l' := by
  have l1 := lt_get h.h1
  have l2 := lt_get h.h2
  obtain ⟨tok, h3⟩ := h.h3
  refine ⟨h.ne, h.nr, h.ns, ?_, ?_, ⟨tok, ?_⟩, ?_⟩
  · unfold pw; rw [List.getElem?_set_self (by simpa using l1)]
  · unfold pw; rw [List.getElem?_set_ne h.ne, List.getElem?_set_self l2]
  · unfold pw; rw [List.getElem?_set_ne (fun e => h.nr.1 e.symm), List.getElem?_set_ne (fun e => h.nr.2 e.symm)]; exact h3
  · unfold pw; rw [List.getElem?_set_ne (fun e => h.ns.1 e.symm), List.getElem?_set_ne (fun e => h.ns.2 e.symm)]; exact h.h4
theorem Pw.hsc (h : Pw H io iv ir is rs l) (hs : HSc H) : HSc (pw H io iv l') := by
  have l1 := lt_get h.h1
  have l2 := lt_get h.h2
  refine HSc.set (HSc.set hs ?_) ?_
  · simp only [AB.sc, List.all_eq_true]
    intro x hx
    obtain ⟨c, hc, hx⟩ := List.mem_flatten.1 hx
    rw [VT.css_map] at hc
    obtain ⟨v, _, rfl⟩ := List.mem_map.1 hc
    have := VT.cs_scA v H.length
    rw [List.all_eq_true] at this
    exact this x hx
  · simp [AB.sc, AV.scA, AV.scB]
    try omega
end
theorem css_snoc (l : List VT) (v : VT) : VT.css (l ++ [v]) = VT.css l ++ [v.cs] := by rw [VT.css_map, VT.css_map, List.map_append]; rfl
theorem css_flat_len (l : List VT) : (VT.css l).flatten.length = l.length * 3 := by
  rw [VT.css_map]
  induction l with
  | nil => rfl
  | cons v l ih =>
    simp only [List.map_cons, List.flatten_cons, List.length_append, ih, List.length_cons]
    obtain ⟨a, b, c⟩ := v
    simp [VT.cs]; omega
theorem upd_last (l : List VT) (v : VT) (a b c : AV) : ((VT.css l).flatten ++ [a, b, c]).take (l.length * 3) ++ v.cs ++ ((VT.css l).flatten ++ [a, b, c]).drop (l.length * 3 + 3) = (VT.css (l ++ [v])).flatten := by
  have h := css_flat_len l
  rw [← h, List.take_left, List.drop_eq_nil_of_le (by simp), List.append_nil, css_snoc, List.flatten_append]
  simp
theorem preK_drop {rs : List (List Bool)} {ks : List VT} {bs : List Bool} {i : Nat} (h : i < ks.length) (h' : i < bs.length) : preK rs (ks.drop i) (bs.drop i) = (if bs[i] = true then preV rs ks[i] else []) ++ preK rs (ks.drop (i + 1)) (bs.drop (i + 1)) := by
  rw [List.drop_eq_getElem_cons h, List.drop_eq_getElem_cons h', preK]
theorem visit_spec {data : List Dat} {n : Int} {al : List VT} {rs : List (List Bool)} (hrs : rs = recs data n.toNat) : ∀ (m : Nat) (v : VT), v.nodes ≤ m → v.nodes ≤ 10000 → hasV data v (.mk 5 n al) = true → ∀ (H : Heap) (io iv ir is : Nat) (l : List VT), Pw H io iv ir is rs l → l.length + (preV rs v).length ≤ 1000000 →
    ∀ K : Kt, K (.tup []) (pw H io iv (l ++ preV rs v)) → ACalls Try.prog n_value_Preorder_1 [.agg v.cs, .ptr io 0, .ptr ir 0, .ptr is 0] H K := by
  intro m
  induction m with
  | zero => intro v h; have := v.nodes_pos; omega
  | succ m ih =>
    intro v hm hb hh H io iv ir is l hP hlb K hK
    obtain ⟨vk, c, ks⟩ := v
    obtain ⟨rfl, n0, c0, c8, hn, hc, hkl, _, hrc, hrl, hkid⟩ := has_cons hh
    rw [← hrs] at hrc hrl
    have hll := VT.len_le ks
    have hnn : (VT.mk 5 c ks).nodes = VT.nodesL ks + 1 := by simp [VT.nodes]
    refine ACalls.out (value_Preorder_1_ok fun hs => ?_)
    have hne := hP.ne
    have l1 := lt_get hP.h1
    have l2 := lt_get hP.h2
    have hpre : preV rs (.mk 5 c ks) = .mk 5 c ks :: preK rs ks (rs.getD c.toNat []) := by rw [preV]
    generalize hbs : rs.getD c.toNat [] = bs at *
    have hbl : bs.length = ks.length := by rw [hrc, recsC, List.length_map]; exact hkl.symm
    have hcr : c.toNat < rs.length := by rw [hrl]; exact hc
    have hrow : rs[c.toNat] = bs := by rw [← hbs]; simp [List.getD_eq_getElem?_getD, hcr]
    have hrec : ∀ (i : Nat) (hi : i < ks.length) (hi2 : i < bs.length), bs[i] = true → hasV data ks[i] (.mk 5 n al) = true := fun i hi hi2 hb => by
      refine hkid i hi (by omega) ?_
      have : bs[i] = isSelf n.toNat (data[n.toNat]).vars (((data[n.toNat]).cons[c.toNat]).args[i]'(by omega)) := by simp [hrc, recsC]
      rw [← this]; exact hb
    rw [hpre] at hK hlb
    simp only [List.length_cons] at hlb
    have hcl := css_flat_len l
    -- what stands behind the first region
    have hj : ∀ X, X = pw H io iv (l ++ [.mk 5 c ks]) ++ [.cells (VT.mk 5 c ks).cs] → value_Preorder_1_j1 (.ptr ir 0) (.ptr is 0) (.ptr H.length 0) X (Out H.length K) := by
      rintro X rfl
      obtain ⟨c, rfl⟩ : ∃ x : Nat, c = x := ⟨c.toNat, by omega⟩
      simp only [Int.toNat_natCast] at hcr hrow
      simp [value_Preorder_1_j1, VT.cs, List.getElem?_append]
      refine value_Preorder_1_loop3 (Inv := fun q t17 H' => ∃ (i : Nat) (acc : List VT), i ≤ ks.length ∧ q = ks.length - i ∧ t17 = .int .i64 i ∧ acc ++ preK rs (ks.drop i) (bs.drop i) = l ++ .mk 5 c ks :: preK rs ks bs ∧
        H' = pw H io iv acc ++ [.cells [.int .i64 5, .int .i64 c, .sl (VT.css ks) .none]]) ks.length ?_ ?_
      · intro _; exact ⟨0, l ++ [.mk 5 c ks], by omega, by omega, rfl, by simp, rfl⟩
      · rintro q t17 H' ⟨i, acc, hi, rfl, rfl, ho, rfl⟩ hsc' hlen hsF Kb hKb
        have hlo := congrArg List.length ho
        simp only [List.length_append, List.length_cons] at hlo
        have hpk := preK_len rs ks bs
        by_cases hlt : i < ks.length
        · have hlt2 : i < bs.length := by omega
          obtain ⟨x, y, z, hvx, hx, hy, hz⟩ := vt3' ks[i]
          have hkn := VT.kid_lt (k := 5) (n := (c : Int)) hlt
          rw [preK_drop hlt hlt2] at ho hlo
          have hPA : Pw (pw H io iv acc) io iv ir is rs acc := hP.next
          obtain ⟨tok, h3⟩ := hPA.h3
          have h4 := hPA.h4
          have hback : ∀ acc' J, acc' ++ preK rs (ks.drop (i + 1)) (bs.drop (i + 1)) = l ++ .mk 5 c ks :: preK rs ks bs →
              value_Preorder_1_j2 (.ptr ir 0) (.ptr is 0) (.ptr H.length 0) (.sl (VT.css ks) .none) (.int .i64 ks.length) (.int .i64 i) (pw H io iv acc' ++ ([.cells [.int .i64 5, .int .i64 c, .sl (VT.css ks) .none]] ++ J)) (Out H.length K) Kb := by
            intro acc' J ha
            simp [value_Preorder_1_j2, value_Preorder_1_j3]
            rw [wrap_in (by omega) (by omega)]
            refine hKb _ _ ⟨ks.length - (i + 1), by omega, Back.at (J := J) (H2 := pw H io iv acc' ++ [.cells [.int .i64 5, .int .i64 c, .sl (VT.css ks) .none]]) (by simp) (by simp) ((hP.hsc hs).append (by simp [AB.sc, AV.scA, AV.scB])) ?_ ⟨_, rfl, i + 1, acc', by omega, rfl, by simp, ha, rfl⟩⟩
            have l3 := lt_get h3
            have l4 := lt_get h4
            simp at l3 l4
            simp [value_Preorder_1_fr3, AV.sc, AV.scV, AV.scA, AV.scB]
            try omega
          have hr1 : (rowsB rs)[c]? = some [.sl (bs.map fun b => [.bool b]) .none] := by simp [rowsB, hcr, hrow]
          have hr2 : (bs.map fun b => [AV.bool b])[i]? = some [.bool bs[i]] := by simp [hlt2]
          have l3 := lt_get h3
          have l4 := lt_get h4
          have hcr2 : c < (rowsB rs).length := by simpa [rowsB] using hcr
          have hr1' : (rowsB rs)[c]'hcr2 = [.sl (bs.map fun b => [.bool b]) .none] := by simp [rowsB, hrow]
          simp at l3 l4
          have h3' : (pw H io iv acc ++ [AB.cells [.int .i64 5, .int .i64 c, .sl (VT.css ks) .none], .cells [x, y, z]])[ir]? = some (.cells [.sl (rowsB rs) tok]) := app_get h3
          have h4' : (pw H io iv acc ++ [AB.cells [.int .i64 5, .int .i64 c, .sl (VT.css ks) .none], .cells [x, y, z]])[is]? = some (.cells [.fn n_value_Preorder_1 [.ptr io 0, .ptr ir 0, .ptr is 0]]) := app_get h4
          have h5' : (pw H io iv acc ++ [AB.cells [.int .i64 5, .int .i64 c, .sl (VT.css ks) .none], .cells [x, y, z]])[H.length]? = some (.cells [.int .i64 5, .int .i64 c, .sl (VT.css ks) .none]) := by simp [List.getElem?_append]
          have h6' : (pw H io iv acc ++ [AB.cells [.int .i64 5, .int .i64 c, .sl (VT.css ks) .none], .cells [x, y, z]])[H.length + 1]? = some (.cells [x, y, z]) := by simp [List.getElem?_append]
          simp [value_Preorder_1_b3, hlt, hvx, hx, hy, hz, h3', h4', h5', h6', hr1', hcr2, hlt2]
          cases hbi : bs[i] with
          | true =>
            rw [hbi, if_pos rfl] at ho hlo
            try simp [List.getElem?_append, l4, h4]
            simp only [aCallV, callP1]
            rw [← hvx]
            refine ih ks[i] (by omega) (by omega) (hrec i hlt hlt2 hbi) _ io iv ir is acc hPA.app (by simp only [List.length_append] at hlo; omega) _ ?_
            rw [hPA.pw_app, pw_pw hne]
            exact hback (acc ++ preV rs ks[i]) [.cells (ks[i]).cs] (by simpa using ho)
          | false =>
            rw [hbi] at ho
            simp at ho
            try simp
            exact hback acc [.cells [x, y, z]] ho
        · obtain rfl : i = ks.length := by omega
          rw [List.drop_length] at ho
          simp only [preK, List.append_nil] at ho
          simp [value_Preorder_1_b3]
          have := tupP (n := H.length) (J := [.cells [.int .i64 5, .int .i64 c, .sl (VT.css ks) .none]]) (K := K) rfl (by simp) (hP.hsc (l' := acc) hs) (by rw [ho]; exact hK)
          first
            | exact this
            | (simp only [aRet_nil]; exact this)
    have g1 : (H ++ [AB.cells (VT.mk 5 c ks).cs])[io]? = some (.cells [.ov iv l.length]) := app_get hP.h1
    have g2 : (H ++ [AB.cells (VT.mk 5 c ks).cs])[iv]? = some (.vec e_api_Value 3 l.length (VT.css l).flatten) := app_get hP.h2
    simp [value_Preorder_1, g1]
    refine aPureX_call (.agg (VT.mk 5 c ks).cs) (fun J => value_copied_spec _ (.mk 5 c ks) (Nat.le_refl _) hb _ _ ⟨rfl, rfl⟩) ?_
    simp [aBuildS, fillS, plain, AV.pd, aAppend, aSrc, g2]
    refine ⟨⟨by omega, by omega⟩, ?_⟩
    have hup := upd_last l (.mk 5 c ks) (AV.int IntKind.i64 0) (AV.int IntKind.i64 0) (AV.sl [] Tok.none)
    have hcl2 := css_flat_len l
    have hfin : ((H ++ [AB.cells (VT.mk 5 c ks).cs]).set iv (.vec e_api_Value 3 (l.length + 1) (VT.css (l ++ [.mk 5 c ks])).flatten)).set io (.cells [.ov iv (l.length + 1)]) = pw H io iv (l ++ [.mk 5 c ks]) ++ [.cells (VT.mk 5 c ks).cs] := by
      rw [← hP.pw_app]
      simp [pw]
    generalize hA : List.set (H ++ [AB.cells (VT.mk 5 c ks).cs]) iv (AB.vec e_api_Value 3 (l.length + 1) ((VT.css l).flatten ++ [AV.int IntKind.i64 0, AV.int IntKind.i64 0, AV.sl [] Tok.none])) = A
    have fA1 : A[io]? = some (.cells [.ov iv l.length]) := by rw [← hA, List.getElem?_set_ne (fun e => hne e.symm)]; exact g1
    have fA2 : A[iv]? = some (.vec e_api_Value 3 (l.length + 1) ((VT.css l).flatten ++ [AV.int IntKind.i64 0, AV.int IntKind.i64 0, AV.sl [] Tok.none])) := by rw [← hA]; exact List.getElem?_set_self (lt_get g2)
    have hA1 : ∀ X Y, (A.set iv X).set io Y = ((H ++ [AB.cells (VT.mk 5 c ks).cs]).set iv X).set io Y := fun X Y => by rw [← hA, List.set_set]
    have hA2 : ∀ X Y, (A.set io Y).set iv X = ((H ++ [AB.cells (VT.mk 5 c ks).cs]).set iv X).set io Y := fun X Y => by rw [List.set_comm _ _ hne]; exact hA1 X Y
    have fB1 : ∀ X, (A.set iv X)[io]? = some (.cells [.ov iv l.length]) := fun X => by rw [List.getElem?_set_ne (fun e => hne e.symm)]; exact fA1
    have fB2 : ∀ Y, (A.set io Y)[iv]? = some (.vec e_api_Value 3 (l.length + 1) ((VT.css l).flatten ++ [AV.int IntKind.i64 0, AV.int IntKind.i64 0, AV.sl [] Tok.none])) := fun Y => by rw [List.getElem?_set_ne hne]; exact fA2
    have st : ∀ X, X = pw H io iv (l ++ [.mk 5 c ks]) ++ [.cells (VT.mk 5 c ks).cs] → value_Preorder_1_j1 (.ptr ir 0) (.ptr is 0) (.ptr H.length 0) X (Out H.length K) := hj
    rw [fA1, fA2]
    refine ⟨⟨by omega, ?_, ?_⟩, ?_⟩
    · rw [aStoreV_some, hup]
      refine ⟨⟨rfl, by simp, (by rw [List.length_append, hcl2]; simp), by simp⟩, ?_⟩
      rw [fB1]
      simp
      exact st _ (by rw [hA1, hfin])
    · simp
      rw [fB2, aStoreV_some, hup]
      refine ⟨⟨rfl, by simp, (by rw [List.length_append, hcl2]; simp), by simp⟩, ?_⟩
      exact st _ (by rw [hA2, hfin])
    · simp
      refine ⟨by omega, ?_⟩
      rw [fB2, aStoreV_some, hup]
      refine ⟨⟨rfl, by simp, (by rw [List.length_append, hcl2]; simp), by simp⟩, ?_⟩
      exact st _ (by rw [hA2, hfin])
end Go.Proofs.Ytfpmdpldabopjaa
namespace Go.Proofs.Ytfpmdpldabopjaa
open Go Go.Abs
set_option linter.unusedSimpArgs false
set_option linter.unusedVariables false
set_option maxRecDepth 8000
theorem hasT_parts {data : List Dat} {v t : VT} (h : hasT data v t = true) : dataOk data = true ∧ tyValid data 0 t = true ∧ hasV data v t = true := by
  simp only [hasT, fineV, Bool.and_eq_true] at h
  exact ⟨h.1.1, h.1.2, h.2⟩
theorem plain_app : ∀ {a b c d : List AV}, plain a = some c → plain b = some d → plain (a ++ b) = some (c ++ d)
  | [], b, c, d, h, h' => by simp [plain] at h; subst h; simpa using h'
  | x :: a, b, c, d, h, h' => by
    simp only [plain] at h
    split at h
    · rename_i p q hp hq
      cases h
      simp only [List.cons_append, plain]
      rw [hp, plain_app hq h']
    · cases h
theorem plain_cs (v : VT) : plain v.cs = some v.cs := by
  obtain ⟨k, n, ks⟩ := v
  simp [VT.cs, plain, AV.pd]
theorem plain_css : ∀ l : List VT, plain (VT.css l).flatten = some (VT.css l).flatten
  | [] => by simp [VT.css, plain]
  | v :: l => by
    simp only [VT.css, List.flatten_cons]
    exact plain_app (plain_cs v) (plain_css l)
theorem value_Preorder_spec (data : List Dat) (hk : KData data) (v : VT) (n : Int) (al : List VT) (hv : v.nodes ≤ 5000) (ht : (VT.mk 5 n al).nodes ≤ 1000000) (hh : hasT data v (.mk 5 n al) = true) (H : Heap) (K : Kt)
    (hK : K (.sl (VT.css (preV (recs data n.toNat) v)) .none) H) : ACalls Try.prog n_value_Preorder [.sl (data.map Dat.cs) .none, .agg v.cs, .agg (VT.mk 5 n al).cs] H K := by
  refine ACalls.out (value_Preorder_ok fun hs => ?_)
  obtain ⟨hd, hty, hhv⟩ := hasT_parts hh
  have hhv0 := hhv
  obtain ⟨vk, c, ks⟩ := v
  obtain ⟨_, n0, _, _, hn, _, _, _, _, hrl, _⟩ := has_cons hhv
  obtain ⟨f1, f2, f3⟩ := kd_fields hk
  obtain ⟨n, rfl⟩ : ∃ x : Nat, n = x := ⟨n.toNat, by omega⟩
  simp only [Int.toNat_natCast] at hn hrl hK
  have hTc : (VT.mk 5 (n : Int) al).cs = [.int .i64 5, .int .i64 n, .sl (VT.css al) .none] := rfl
  have hVc : (VT.mk vk c ks).cs = [.int .i64 vk, .int .i64 c, .sl (VT.css ks) .none] := rfl
  have e1 : (data.map Dat.cs)[n]? = some (data[n]).cs := by simp [hn]
  have hdm := List.getElem_mem hn
  have hcl := f3 _ hdm
  simp [value_Preorder, hTc, hVc, Nat.add_assoc]
  rw [← hTc, ← hVc]
  refine value_HasType_spec data hk (.mk vk c ks) (.mk 5 n al) hv ht _ _ ?_
  rw [hh]
  simp [hTc, hVc, e1, hn, Dat.cs, Nat.add_assoc]
  generalize hrs : recs data n = rs at *
  have hrow : ∀ (i : Nat) (hi : i < (data[n]).cons.length), rs[i]? = some (recsC n data[n] (data[n]).cons[i]) := fun i hi => by rw [← hrs]; simp [recs, hn, hi]
  unfold value_Preorder_l5
  refine ALoop.ownC (H.length + 2) 0 e_S_bool 1 (cs := [.snil]) (by simp) rfl ?_
  have hset : (H ++ [AB.cells [.int .i64 vk, .int .i64 c, .sl (VT.css ks) .none], .cells [.int .i64 5, .int .i64 n, .sl (VT.css al) .none], .cells [.snil]]).set (H.length + 2) (.cells ([AV.snil].set 0 (.sl [] (.own (H ++ [AB.cells [.int .i64 vk, .int .i64 c, .sl (VT.css ks) .none], .cells [.int .i64 5, .int .i64 n, .sl (VT.css al) .none], .cells [.snil]]).length)))) ++ [.perm e_S_bool 1 0] =
      H ++ [.cells [.int .i64 vk, .int .i64 c, .sl (VT.css ks) .none], .cells [.int .i64 5, .int .i64 n, .sl (VT.css al) .none], .cells [.sl [] (.own (H.length + 3))], .perm e_S_bool 1 0] := by simp [List.set_append_right]
  rw [hset]
  show value_Preorder_l5 (.sl (data.map Dat.cs) .none) (.ptr H.length 0) (.ptr (H.length + 1) 0) (.ptr (H.length + 2) 0) (.int .i64 (data[n]).cons.length) (.int .i64 0) _ (Out H.length K)
  have hsc : ∀ i, HSc (H ++ [.cells [.int .i64 vk, .int .i64 c, .sl (VT.css ks) .none], .cells [.int .i64 5, .int .i64 n, .sl (VT.css al) .none], .cells [.sl (rowsB (rs.take i)) (.own (H.length + 3))], .perm e_S_bool 1 i]) := fun i => hs.append (by simp [AB.sc, AV.scA, AV.scB])
  refine value_Preorder_loop5 (Inv := fun q t28 H' => ∃ i : Nat, i ≤ (data[n]).cons.length ∧ q = (data[n]).cons.length - i ∧ t28 = .int .i64 i ∧
    H' = H ++ [.cells [.int .i64 vk, .int .i64 c, .sl (VT.css ks) .none], .cells [.int .i64 5, .int .i64 n, .sl (VT.css al) .none], .cells [.sl (rowsB (rs.take i)) (.own (H.length + 3))], .perm e_S_bool 1 i]) (data[n]).cons.length ?_ ?_
  · intro _; exact ⟨0, by omega, by omega, rfl, by simp [rowsB]⟩
  · rintro q t28 H' ⟨i, hi, rfl, rfl, rfl⟩ hsc' hlen hsF Kb hKb
    by_cases hlt : i < (data[n]).cons.length
    · have hcm := List.getElem_mem hlt
      obtain ⟨g1, g2⟩ := f2 _ hdm _ hcm
      have hr := hrow i hlt
      have hil : i < rs.length := (List.getElem?_eq_some_iff.1 hr).1
      simp [value_Preorder_b5, hlt]
      refine aPureX_call (.sl ((recsC n data[n] (data[n]).cons[i]).map fun b => [.bool b]) .none) (fun J => scope_Recursive_spec data n i hn hlt f1 hcl (by omega) (fun x hx => by have := g2 x hx; omega) _ _ ⟨by simp [recsC, Function.comp_def], rfl⟩) ?_
      have hl1 : (rowsB (rs.take i)).length = i := by simp [rowsB]; omega
      simp [aBuildS, fillS, plain, AV.pd, aAppend, aSrc, aAppTo, hl1, AV.known, List.set_append_right]
      refine ⟨⟨by omega, by omega⟩, ?_⟩
      rw [wrap_in (by omega) (by omega)]
      have hst : rowsB (rs.take i) ++ [[.sl ((recsC n data[n] (data[n]).cons[i]).map fun b => [.bool b]) .none]] = rowsB (rs.take (i + 1)) := by
        rw [List.take_add_one, hr]
        simp [rowsB]
      rw [hst]
      refine hKb _ _ ⟨(data[n]).cons.length - (i + 1), by omega, Back.at (J := []) (H2 := H ++ [.cells [.int .i64 vk, .int .i64 c, .sl (VT.css ks) .none], .cells [.int .i64 5, .int .i64 n, .sl (VT.css al) .none], .cells [.sl (rowsB (rs.take (i + 1))) (.own (H.length + 3))], .perm e_S_bool 1 (i + 1)]) (by simp) (by simp) (hsc _) ?_ ⟨_, rfl, i + 1, by omega, rfl, by simp, rfl⟩⟩
      simp [value_Preorder_fr5, AV.sc, AV.scV, AV.scA, AV.scB]
    · obtain rfl : i = (data[n]).cons.length := by omega
      have htk : rs.take (data[n]).cons.length = rs := List.take_of_length_le (by omega)
      rw [htk] at *
      simp [value_Preorder_b5, AV.known, List.set_append_right, Nat.add_assoc]
      refine ⟨⟨rfl, rfl, rfl⟩, ?_⟩
      simp only [aCallV, callP1]
      refine ACalls.ovC (id := H.length + 4) (j := 0) (cs := [.snil]) e_api_Value 3 (by simp) rfl ?_
      have hset2 : (H ++ [AB.cells [.int .i64 vk, .int .i64 c, .sl (VT.css ks) .none], .cells [.int .i64 5, .int .i64 n, .sl (VT.css al) .none], .cells [.sl (rowsB rs) (.own (H.length + 3))], .perm e_S_bool 1 (data[n]).cons.length, .cells [.snil], .cells [.fn n_value_Preorder_1 [.ptr (H.length + 4) 0, .ptr (H.length + 2) 0, .ptr (H.length + 5) 0]]]).set (H.length + 4) (.cells ([AV.snil].set 0 (.ov (H ++ [AB.cells [.int .i64 vk, .int .i64 c, .sl (VT.css ks) .none], .cells [.int .i64 5, .int .i64 n, .sl (VT.css al) .none], .cells [.sl (rowsB rs) (.own (H.length + 3))], .perm e_S_bool 1 (data[n]).cons.length, .cells [.snil], .cells [.fn n_value_Preorder_1 [.ptr (H.length + 4) 0, .ptr (H.length + 2) 0, .ptr (H.length + 5) 0]]]).length 0))) ++ [.vec e_api_Value 3 0 []] =
          H ++ [AB.cells [.int .i64 vk, .int .i64 c, .sl (VT.css ks) .none], .cells [.int .i64 5, .int .i64 n, .sl (VT.css al) .none], .cells [.sl (rowsB rs) (.own (H.length + 3))], .perm e_S_bool 1 (data[n]).cons.length, .cells [.ov (H.length + 6) 0], .cells [.fn n_value_Preorder_1 [.ptr (H.length + 4) 0, .ptr (H.length + 2) 0, .ptr (H.length + 5) 0]], .vec e_api_Value 3 0 []] := by simp [List.set_append_right]
      rw [hset2]
      have hP : Pw (H ++ [AB.cells [.int .i64 vk, .int .i64 c, .sl (VT.css ks) .none], .cells [.int .i64 5, .int .i64 n, .sl (VT.css al) .none], .cells [.sl (rowsB rs) (.own (H.length + 3))], .perm e_S_bool 1 (data[n]).cons.length, .cells [.ov (H.length + 6) 0], .cells [.fn n_value_Preorder_1 [.ptr (H.length + 4) 0, .ptr (H.length + 2) 0, .ptr (H.length + 5) 0]], .vec e_api_Value 3 0 []]) (H.length + 4) (H.length + 6) (H.length + 2) (H.length + 5) rs [] :=
        ⟨by omega, ⟨by omega, by omega⟩, ⟨by omega, by omega⟩, by simp, by simp [VT.css], ⟨.own (H.length + 3), by simp⟩, by simp⟩
      have hpl := preV_len rs (.mk vk c ks)
      refine visit_spec (n := n) (al := al) (by simpa using hrs.symm) _ (.mk vk c ks) (Nat.le_refl _) (by omega) hhv0 _ _ _ _ _ [] hP (by simp; omega) _ ?_
      have hN := hP.next (l' := [] ++ preV rs (.mk vk c ks))
      have hN1 := hN.h1
      have hN2 := hN.h2
      rw [List.nil_append] at hN1 hN2 ⊢
      rw [hN1]
      simp only [aLoadB_some, aCells, List.getElem?_cons_zero]
      generalize preV rs (.mk vk c ks) = l at *
      refine ⟨.sl (VT.css l) .none, H, [AB.cells [.int .i64 vk, .int .i64 c, .sl (VT.css ks) .none], .cells [.int .i64 5, .int .i64 n, .sl (VT.css al) .none], .cells [.sl (rowsB rs) (.own (H.length + 3))], .perm e_S_bool 1 (data[n]).cons.length, .cells [.ov (H.length + 6) l.length], .cells [.fn n_value_Preorder_1 [.ptr (H.length + 4) 0, .ptr (H.length + 2) 0, .ptr (H.length + 5) 0]], .vec e_api_Value 3 l.length (VT.css l).flatten], ?_, Nat.le_refl _, hs, .one (.vfz (H.length + 6) e_api_Value 3 l.length _ (VT.css l) (by omega) hN2 (plain_css l) (by simp) (fun c hc => ?_)), hK⟩
      · simp [pw, List.set_append_right]
      · rw [VT.css_map] at hc
        obtain ⟨v, _, rfl⟩ := List.mem_map.1 hc
        simp
end Go.Proofs.Ytfpmdpldabopjaa
