/- Indices read from texts: the easy kinds. -/
import Derived.Test.YtfpmdpldabopjaaGreatDoorKPAa
namespace Go.Proofs.YtfpmdpldabopjaaGreatDoor
open Go Go.Abs
set_option linter.unusedSimpArgs false
set_option linter.unusedVariables false
set_option maxRecDepth 8000
theorem small_atoi : ∀ n : Nat, n < 10 → Lib.atoi (small n) = some (n : Int) := by decide
theorem small_digs : ∀ n : Nat, n < 10 → (small n).all bDig = true := by decide
theorem small_one : ∀ n : Nat, n < 10 → (small n).length = 1 := by decide
theorem dig_in {b : UInt8} (h : bIn b = false) : bDig b = false := by
  unfold bIn at h
  simp only [Bool.or_eq_false_iff] at h
  simp [h]
theorem index_index_easy {data : List Dat} (n : Int) (ks : List IT) (hkids : ∀ v ∈ ks, RdOk data v) (hks : ks.length ≤ 1000) (tk tn : Int) (tks : List VT) (h5 : tk ≠ 5) (ht : (VT.mk tk tn tks).nodes ≤ 1000)
    (hok : 0 ≤ rdV data (.mk n ks) (.mk tk tn tks)) (H : Heap) (id : Nat) (tail : List UInt8) (hid : H[id]? = some (rdB data (fmtV data (.mk n ks) (.mk tk tn tks) ++ tail))) (hb : (fmtV data (.mk n ks) (.mk tk tn tks) ++ tail).length ≤ 1000000000) (hst : StopB tail) (K : Kt)
    (hK : K (.agg (IT.mk n ks).cs) (H.set id (rdB data tail))) :
    ACalls Tryz.prog n_zq69 [.ptr id 0, .agg (VT.mk tk tn tks).cs] H K := by
  refine ACalls.out (zq69_ok fun hs => ?_)
  rw [fmtV_mk] at hid hb
  rw [rdV_mk] at hok
  have hl1 := lt_get hid
  have hsc0 := hs.set (rdB_sc data tail H.length) (id := id)
  by_cases h6 : tk = 6
  · subst h6
    rw [if_pos rfl] at hok hb hid
    by_cases hn : n = 0
    · subst hn
      rw [if_pos rfl] at hok
      by_cases hl : tks.length = ks.length
      · rw [if_pos hl] at hok
        simp [zq69, VT.cs, Nat.add_assoc]
        have htk : ∀ t ∈ tks, t.nodes ≤ 1000 := fun t htm => by
          obtain ⟨i, hi, rfl⟩ := List.getElem_of_mem htm
          have := VT.kid_lt (k := 6) (n := tn) hi
          omega
        refine index_row_spec ks hks hkids tks hl htk hok _ id tail (by rw [List.getElem?_append_left hl1]; exact hid) hb _ ?_
        simp [zq69_j1, zq69_j2, AV.known, List.set_append, hl1, List.getElem?_append, Nat.add_assoc]
        exact Out.at (H2 := H.set id (rdB data tail)) (b := .agg [.int .i64 0, .sl (IT.css ks) .none]) rfl (by simp) hsc0 .rfl' rfl (by simp [AV.scV, AV.scA, AV.scB]) (by simpa [IT.cs] using hK)
      · rw [if_neg hl] at hok; omega
    · rw [if_neg hn] at hok; omega
  have h6' : (tk == 6) = false := by simp [h6]
  rw [if_neg h6] at hok hb hid
  by_cases h7 : tk = 7
  · subst h7
    rw [if_pos rfl] at hok hb hid
    by_cases g : 0 ≤ n ∧ n ≤ 6 ∧ ks.length = 0
    · obtain ⟨m, rfl⟩ : ∃ m : Nat, n = m := ⟨n.toNat, by omega⟩
      obtain rfl : ks = [] := List.eq_nil_of_length_eq_zero g.2.2
      simp only [Int.toNat_natCast] at hid hb
      simp [zq69, VT.cs, Nat.add_assoc]
      refine word_spec (data := data) n_zq116 bDig callDigit digit_spec (small m) tail (fun b hb => List.all_eq_true.1 (small_digs m (by omega)) b hb) (fun b hb => dig_in (hst b hb)) hb (by rw [List.getElem?_append_left hl1]; exact hid) _ ?_
      refine Atoi_short (small m) m (by have := small_one m (by omega); omega) (small_atoi m (by omega)) _ _ ?_
      simp [zq69_j3, zq69_j1, zq69_j2, AV.known, List.set_append, hl1, List.getElem?_append, Nat.add_assoc]
      exact Out.at (H2 := H.set id (rdB data tail)) (b := .agg [.int .i64 m, .sl (IT.css []) .none]) rfl (by simp) hsc0 (.agg ⟨.refl _, .snil, trivial⟩) rfl (by simp [AV.scV, AV.scA, AV.scB]) (by simpa [IT.cs] using hK)
    · rw [if_neg g] at hok; omega
  have h7' : (tk == 7) = false := by simp [h7]
  have h5' : (tk == 5) = false := by simp [h5]
  rw [if_neg h7, if_neg h5] at hok hb hid
  by_cases g : n = 0 ∧ ks.length = 0
  · obtain ⟨rfl, hz⟩ := g
    obtain rfl : ks = [] := List.eq_nil_of_length_eq_zero hz
    simp [zq69, VT.cs, Nat.add_assoc, h6', h7', h5']
    refine need_yes (data := data) [42] tail hb (by rw [List.getElem?_append_left hl1]; exact hid) _ ?_
    simp [zq69_j3, zq69_j1, zq69_j2, AV.known, List.set_append, hl1, List.getElem?_append, Nat.add_assoc]
    exact Out.at (H2 := H.set id (rdB data tail)) (b := .agg [.int .i64 0, .sl (IT.css []) .none]) rfl (by simp) hsc0 (.agg ⟨.refl _, .snil, trivial⟩) rfl (by simp [AV.scV, AV.scA, AV.scB]) (by simpa [IT.cs] using hK)
  · rw [if_neg g] at hok; omega
end Go.Proofs.YtfpmdpldabopjaaGreatDoor
namespace Go.Proofs.YtfpmdpldabopjaaGreatDoor
open Go Go.Abs
set_option linter.unusedSimpArgs false
set_option linter.unusedVariables false
set_option maxRecDepth 8000
theorem no_close {s : List UInt8} (h : ∀ b, s.head? = some b → b ≠ 93) : ¬ [93] <+: s := by
  rintro ⟨t, rfl⟩
  exact h 93 rfl rfl
theorem stopE {data : List Dat} (es : List IT) (t : VT) (tail : List UInt8) : StopB (fmtE data es t false ++ ([93] ++ tail)) := by
  intro b hb
  cases es with
  | nil => simp [fmtE] at hb; subst hb; decide
  | cons v es => obtain ⟨c, ks⟩ := v; simp [fmtE] at hb; subst hb; decide
theorem index_index_spec {data : List Dat} (hk : KData data) (hD : dataOk data = true) : ∀ (m : Nat) (v : IT), v.nodes ≤ m → v.nodes ≤ 900 → RdOk data v := by
  intro m
  induction m with
  | zero => intro v h; have := v.nodes_pos; omega
  | succ m ih =>
    intro v hv hvb t ht hok H id tail hid hb hst K hK
    obtain ⟨n, ks⟩ := v
    obtain ⟨tk, tn, tks⟩ := t
    have hnl : IT.nodesL ks + 1 ≤ 900 := by simpa [IT.nodes] using hvb
    have hll := IT.len_le ks
    have hkids : ∀ v ∈ ks, RdOk data v := fun v hvm => by
      obtain ⟨i, hi, rfl⟩ := List.getElem_of_mem hvm
      have := IT.kid_lt (n := n) hi
      exact ih _ (by omega) (by omega)
    by_cases h5 : tk = 5
    case neg => exact index_index_easy n ks hkids (by omega) tk tn tks h5 ht hok H id tail hid hb hst K hK
    subst h5
    refine ACalls.out (zq69_ok fun hs => ?_)
    rw [fmtV_mk, if_neg (by decide), if_neg (by decide), if_pos rfl] at hid hb
    rw [rdV_mk, if_neg (by decide), if_neg (by decide), if_pos rfl] at hok
    by_cases hn : n = 0 ∧ ks.length ≤ 6
    case neg => rw [if_neg hn] at hok; omega
    rw [if_pos hn] at hok
    obtain ⟨rfl, hl6⟩ := hn
    have hT' : (VT.mk 5 tn tks).cs = [.int .i64 5, .int .i64 tn, .sl (VT.css tks) .none] := rfl
    have hl1 := lt_get hid
    have hsc0 := fun s => hs.set (rdB_sc data s H.length) (id := id)
    simp only [List.length_append, List.length_cons, List.length_nil] at hb
    simp [zq69, VT.cs, Nat.add_assoc]
    refine need_yes (data := data) [91] (fmtE data ks (.mk 5 tn tks) true ++ ([93] ++ tail)) (by simp; omega) (by rw [List.getElem?_append_left hl1]; simpa using hid) _ ?_
    unfold zq69_l13
    refine ALoop.ownC (H.length + 2) 1 e_api_Index 2 (cs := [.int .i64 0, .snil]) (by simp [List.set_append, hl1, List.getElem?_append]) rfl ?_
    have hset : ((H ++ [AB.cells [.int .i64 5, .int .i64 tn, .sl (VT.css tks) .none], .cells [.int .i64 0, .snil], .cells [.int .i64 0, .snil]]).set id (rdB data (fmtE data ks (.mk 5 tn tks) true ++ ([93] ++ tail)))).set (H.length + 2) (.cells ([AV.int .i64 0, .snil].set 1 (.sl [] (.own ((H ++ [AB.cells [.int .i64 5, .int .i64 tn, .sl (VT.css tks) .none], .cells [.int .i64 0, .snil], .cells [.int .i64 0, .snil]]).set id (rdB data (fmtE data ks (.mk 5 tn tks) true ++ ([93] ++ tail)))).length)))) ++ [.perm e_api_Index 2 0] =
        H.set id (rdB data (fmtE data ks (.mk 5 tn tks) true ++ ([93] ++ tail))) ++ [AB.cells [.int .i64 5, .int .i64 tn, .sl (VT.css tks) .none], .cells [.int .i64 0, .snil], .cells [.int .i64 0, .sl [] (.own (H.length + 3))], .perm e_api_Index 2 0] := by
      simp [List.set_append, hl1]
    rw [hset]
    show zq69_l13 (.ptr id 0) (.ptr H.length 0) (.ptr (H.length + 1) 0) (.ptr (H.length + 2) 0) _ (Out H.length K)
    refine zq69_loop13 (Inv := fun q H' => ∃ (i : Nat), i ≤ ks.length ∧ q = ks.length - i ∧ (fmtE data (ks.drop i) (.mk 5 tn tks) (i == 0)).length ≤ (fmtE data ks (.mk 5 tn tks) true).length ∧
      H' = H.set id (rdB data (fmtE data (ks.drop i) (.mk 5 tn tks) (i == 0) ++ ([93] ++ tail))) ++ [AB.cells [.int .i64 5, .int .i64 tn, .sl (VT.css tks) .none], .cells [.int .i64 0, .snil], .cells [.int .i64 0, .sl (IT.css (ks.take i)) (.own (H.length + 3))], .perm e_api_Index 2 i]) ks.length ?_ ?_
    · intro _; exact ⟨0, by omega, by omega, by simp, by simp [IT.css]⟩
    · rintro q H' ⟨i, hi, rfl, hdl, rfl⟩ hsc' hlen hsF Kb hKb
      have hcl : (IT.css (ks.take i)).length = i := by rw [IT.css_map]; simp; omega
      have hX0 : ∀ s (J : Heap), (H.set id (rdB data s) ++ J)[id]? = some (rdB data s) := fun s J => by simp [List.getElem?_append, hl1]
      have hX0' : ∀ s (J : Heap), (H.set id (rdB data s) ++ J)[id]? = some (.cells [.sl (data.map Dat.cs) .none, .str s, .bool false]) := hX0
      by_cases hlt : i < ks.length
      · obtain ⟨c, es, ps, hx, hp, hpl, hra⟩ := rdE_el hok i hlt
        have hkn := IT.kid_lt (n := 0) hlt
        rw [List.drop_eq_getElem_cons hlt, hx, fmtE_cons data c es _ _ _ ps hp] at hdl ⊢
        rw [hx] at hkn
        obtain ⟨_, n0, c0, hn1, hc1, hnm⟩ := payT_con hp
        have hcne := con_name hD hn1 hc1
        rw [← hnm] at hcne
        simp only [List.length_append] at hdl
        have hesl := IT.len_le es
        have hen : IT.nodesL es + 1 ≤ 900 := by
          have : (IT.mk c es).nodes = IT.nodesL es + 1 := by simp [IT.nodes]
          have : (IT.mk 0 ks).nodes = IT.nodesL ks + 1 := by simp [IT.nodes]
          omega
        have hes : ∀ v ∈ es, RdOk data v := fun v hvm => by
          obtain ⟨j, hj, rfl⟩ := List.getElem_of_mem hvm
          have := IT.kid_lt (n := c) hj
          exact ih _ (by omega) (by omega)
        generalize hmid : (if es.length = 0 then [] else [40] ++ fmtA data es ps true ++ [41]) = mid at *
        have hnext : zq69_j4 (.ptr id 0) (.ptr H.length 0) (.ptr (H.length + 1) 0) (.ptr (H.length + 2) 0) (H.set id (rdB data (conName data (.mk 5 tn tks) c ++ (mid ++ (fmtE data (ks.drop (i + 1)) (.mk 5 tn tks) false ++ ([93] ++ tail))))) ++
            [AB.cells [.int .i64 5, .int .i64 tn, .sl (VT.css tks) .none], .cells [.int .i64 0, .snil], .cells [.int .i64 0, .sl (IT.css (ks.take i)) (.own (H.length + 3))], .perm e_api_Index 2 i]) (Out H.length K) Kb := by
          have hE : ∀ (K' : Kt), K' (.agg (IT.mk c es).cs) (H.set id (rdB data (fmtE data (ks.drop (i + 1)) (.mk 5 tn tks) false ++ ([93] ++ tail))) ++ [AB.cells [.int .i64 5, .int .i64 tn, .sl (VT.css tks) .none], .cells [.int .i64 0, .snil], .cells [.int .i64 0, .sl (IT.css (ks.take i)) (.own (H.length + 3))], .perm e_api_Index 2 i]) →
              ACalls Tryz.prog n_zq119 [.ptr id 0, .agg (VT.mk 5 tn tks).cs] (H.set id (rdB data (conName data (.mk 5 tn tks) c ++ (mid ++ (fmtE data (ks.drop (i + 1)) (.mk 5 tn tks) false ++ ([93] ++ tail))))) ++
                [AB.cells [.int .i64 5, .int .i64 tn, .sl (VT.css tks) .none], .cells [.int .i64 0, .snil], .cells [.int .i64 0, .sl (IT.css (ks.take i)) (.own (H.length + 3))], .perm e_api_Index 2 i]) K' := by
            intro K' hK'
            refine index_element_spec hk hD tn tks ht c es (by omega) hes ps hp hpl hra _ id (fmtE data (ks.drop (i + 1)) (.mk 5 tn tks) false ++ ([93] ++ tail)) ?_ ?_ (stopE _ _ _) _ ?_
            · rw [hmid]; exact hX0 _ _
            · rw [hmid]; simp; omega
            · rw [List.set_append_left _ _ (by simpa using hl1), List.set_set]; exact hK'
          have hc2 : (IT.mk c es).cs.length = 2 := rfl
          have hfin : Kb (zq69_fr13 (.ptr id 0) (.ptr H.length 0) (.ptr (H.length + 1) 0) (.ptr (H.length + 2) 0)) (H.set id (rdB data (fmtE data (ks.drop (i + 1)) (.mk 5 tn tks) false ++ ([93] ++ tail))) ++ [AB.cells [.int .i64 5, .int .i64 tn, .sl (VT.css tks) .none], .cells [.int .i64 0, .snil], .cells [.int .i64 0, .sl (IT.css (ks.take i) ++ [(IT.mk c es).cs]) (.own (H.length + 3))], .perm e_api_Index 2 (i + 1)]) := by
            rw [← hx, ← icss_take_succ hlt]
            refine hKb _ _ ⟨ks.length - (i + 1), by omega, Back.here (by simp) ((hsc0 _).append (by simp [AB.sc, AV.scA, AV.scB])) ?_ ⟨rfl, i + 1, by omega, rfl, by simp; omega, by simp⟩⟩
            simp [zq69_fr13, AV.sc, AV.scV, AV.scA, AV.scB]
            try omega
          refine zq69_j4_ok fun _ => ?_
          simp [zq69_j4b, List.getElem?_append, hl1]
          rw [← hT']
          have hgt : ¬ (6 : Int) < (i : Int) + 1 := by omega
          refine ⟨hE _ ?_, hE _ ⟨?_, ?_⟩⟩
          · rw [buildS_it]
            simp [aAppend, aSrc, aAppTo, hcl, hc2, List.set_append, List.getElem?_append, zq69_j5, zq69_j6, hgt, show ¬ H.length + 3 < H.length by omega, show ¬ H.length + 2 < H.length by omega]
            exact ⟨⟨by omega, by omega⟩, hfin⟩
          · simp [List.getElem?_append]
            rw [buildS_it]
            simp [aAppend, aSrc, aAppTo, hcl, hc2, List.set_append, List.getElem?_append, zq69_j5, zq69_j6, hgt, show ¬ H.length + 3 < H.length by omega, show ¬ H.length + 2 < H.length by omega]
            exact ⟨⟨by omega, by omega⟩, hfin⟩
          · rw [buildS_it]
            simp [aAppend, aSrc, aAppTo, hcl, hc2, List.set_append, List.getElem?_append, zq69_j5, zq69_j6, hgt, show ¬ H.length + 3 < H.length by omega, show ¬ H.length + 2 < H.length by omega]
            exact ⟨⟨by omega, by omega⟩, hfin⟩
        obtain ⟨b0, nm', hnm0⟩ := List.exists_cons_of_ne_nil hcne.1
        have hb0 := hcne.2 b0 (by rw [hnm0]; simp)
        have hb93 : b0 ≠ 93 := by rintro rfl; revert hb0; decide
        by_cases h0 : i = 0
        · have hz : (i == 0) = true := by simp [h0]
          have h1 : ¬ (0 : Int) < i := by omega
          have h1' : ¬ 0 < i := by omega
          rw [hz] at hdl ⊢
          simp only [if_true, List.nil_append, List.append_assoc] at hdl ⊢
          simp [zq69_b13, hX0']
          refine take_no (data := data) [93] (conName data (.mk 5 tn tks) c ++ (mid ++ (fmtE data (ks.drop (i + 1)) (.mk 5 tn tks) false ++ ([93] ++ tail)))) (by simp at hdl ⊢; omega) (by simp) (no_close fun b hb => by rw [hnm0] at hb; simp at hb; subst hb; exact hb93) (hX0 _ _) _ ?_
          simp [List.getElem?_append, hcl, h1, h1']
          exact hnext
        · have hz : (i == 0) = false := by simpa using h0
          have h1 : (0 : Int) < i := by omega
          have h1' : 0 < i := by omega
          rw [hz] at hdl ⊢
          simp only [Bool.false_eq_true, if_false, List.append_assoc, List.length_cons, List.length_nil] at hdl ⊢
          simp [zq69_b13, hX0']
          refine take_no (data := data) [93] ([44, 32] ++ (conName data (.mk 5 tn tks) c ++ (mid ++ (fmtE data (ks.drop (i + 1)) (.mk 5 tn tks) false ++ ([93] ++ tail))))) (by simp at hdl ⊢; omega) (by simp) (no_close fun b hb => by simp at hb; subst hb; decide) (hX0 _ _) _ ?_
          simp [List.getElem?_append, hcl, h1, h1']
          refine need_yes (data := data) [44, 32] (conName data (.mk 5 tn tks) c ++ (mid ++ (fmtE data (ks.drop (i + 1)) (.mk 5 tn tks) false ++ ([93] ++ tail)))) (by simp at hdl ⊢; omega) (hX0 _ _) _ ?_
          rw [List.set_append_left _ _ (by simpa using hl1), List.set_set]
          exact hnext
      · obtain rfl : i = ks.length := by omega
        rw [List.drop_length, List.take_length] at *
        simp [zq69_b13, fmtE, hX0']
        refine take_yes (data := data) [93] tail (by simp; omega) (hX0 _ _) _ ?_
        rw [List.set_append_left _ _ (by simpa using hl1), List.set_set]
        simp [zq69_j1, zq69_j2, AV.known, List.set_append, hl1, List.getElem?_append, Nat.add_assoc]
        exact Out.at (H2 := H.set id (rdB data tail)) (b := .agg [.int .i64 0, .sl (IT.css ks) .none]) rfl (by simp) (hsc0 _) (.agg ⟨.refl _, .sl _ _, trivial⟩) rfl (by simp [AV.scV, AV.scA, AV.scB]) (by simpa [IT.cs] using hK)
end Go.Proofs.YtfpmdpldabopjaaGreatDoor
namespace Go.Proofs.YtfpmdpldabopjaaGreatDoor
open Go Go.Abs
set_option linter.unusedSimpArgs false
set_option linter.unusedVariables false
set_option maxRecDepth 8000
theorem zq41_spec (vs : List IT) (hl : vs.length ≤ 1000000) (hel : ∀ v ∈ vs, ∀ (H : Heap) (K : Kt), K (.bool true) H → ACalls Tryz.prog n_zq35 [.agg v.cs, .agg v.cs] H K) (H : Heap) (K : Kt) (hK : K (.bool true) H) : ACalls Tryz.prog n_zq41 [.sl (IT.css vs) .none, .sl (IT.css vs) .none] H K := by
  refine ACalls.out (zq41_ok fun hs2 => ?_)
  simp [zq41]
  refine zq41_loop4 (Inv := fun q t13 H' => ∃ i : Nat, i ≤ vs.length ∧ q = vs.length - i ∧ t13 = .int .i64 i ∧ H' = H) vs.length ?_ ?_
  · intro _; exact ⟨0, by omega, by omega, rfl, rfl⟩
  · rintro q t13 H' ⟨i, hi, rfl, rfl, rfl⟩ hsc' hlen hsF Kb hKb
    by_cases hlt : i < vs.length
    · simp [zq41_b4, hlt]
      refine aPureX_call (.bool true) (fun J => hel _ (List.getElem_mem hlt) _ _ ⟨rfl, rfl⟩) ?_
      simp
      rw [wrap_in (by omega) (by omega)]
      refine hKb _ _ ⟨vs.length - (i + 1), by omega, Back.here (by simp) hsc' ?_ ⟨_, rfl, i + 1, by omega, rfl, by simp, rfl⟩⟩
      simp [zq41_fr4, AV.sc, AV.scV, AV.scA, AV.scB]
    · simp [zq41_b4, hlt]
      exact Out.bool (J := []) (by simp) (Nat.le_refl _) hs2 hK
theorem zq35_spec : ∀ (m : Nat) (v : IT), v.nodes ≤ m → v.nodes ≤ 1000000 → ∀ (H : Heap) (K : Kt), K (.bool true) H → ACalls Tryz.prog n_zq35 [.agg v.cs, .agg v.cs] H K := by
  intro m
  induction m with
  | zero => intro v h; have := v.nodes_pos; omega
  | succ m ih =>
    intro v hv hb H K hK
    obtain ⟨n, ks⟩ := v
    have hnl : IT.nodesL ks + 1 ≤ 1000000 := by simpa [IT.nodes] using hb
    have hll := IT.len_le ks
    refine ACalls.out (zq35_ok fun hs2 => ?_)
    simp [zq35, IT.cs, Nat.add_assoc]
    refine zq41_spec ks (by omega) (fun v hvm => by
      obtain ⟨i, hi, rfl⟩ := List.getElem_of_mem hvm
      have := IT.kid_lt (n := n) hi
      exact ih _ (by omega) (by omega)) _ _ ?_
    try simp
    exact Out.bool rfl (Nat.le_refl _) hs2 hK
theorem zq33_back (data : List Dat) (hk : KData data) (hD : dataOk data = true) (t : VT) (ht : t.nodes ≤ 1000) (v : IT) (hv : v.nodes ≤ 900) (hd : 0 ≤ degI data t v) (H : Heap) (K : Kt) (hK : K (.tup [.agg v.cs, .bool true]) H) :
    ACalls Tryz.prog n_zq33 [.sl (data.map Dat.cs) .none, .agg t.cs, .str (fmtV data v t)] H K := by
  refine ACalls.out (zq33_ok fun hs => ?_)
  obtain ⟨x, y, z, hvx, hx, hy, hz⟩ := vt3' t
  obtain ⟨x2, y2, hvx2, hx2, hy2⟩ := it2 v
  have hfb := fmtV_bound hk v t
  obtain ⟨hf, hr⟩ := degI_pos hd
  simp [zq33, hvx, hvx2, Nat.add_assoc]
  rw [← hvx]
  refine zq59_spec data hk t (by omega) _ _ ?_
  rw [hf]
  simp [aBuild, fillA, AV.known, hvx, hx, hy, hz, List.getElem?_append, Nat.add_assoc]
  rw [← hvx]
  refine index_index_spec hk hD _ v (Nat.le_refl _) hv t ht hr _ (H.length + 2) [] (by simp [rdB]) (by simp; omega) (by intro b hb; cases hb) _ ?_
  simp [rdB, hvx2, hx2, hy2, hx, hy, hz, List.getElem?_append, List.set_append, Nat.add_assoc]
  rw [← hvx2]
  refine zq28_spec data hk t ht v hv _ _ ?_
  have hfi : fmtI data t v = fmtV data v t := by simp [fmtI, hd]
  rw [hfi]
  simp [hvx2, hx2, hy2, List.getElem?_append, List.set_append, Nat.add_assoc]
  rw [← hvx2]
  have hvc : (AV.agg v.cs).scV H.length = true := by obtain ⟨n, ks⟩ := v; simp [IT.cs, AV.scV, AV.scA, AV.scB]
  refine ⟨⟨rfl, rfl⟩, ?_⟩
  exact Out.tup (bs := [.agg v.cs, .bool true]) hs hK ⟨keepV rfl hvc, keepV rfl rfl, trivial⟩
end Go.Proofs.YtfpmdpldabopjaaGreatDoor
