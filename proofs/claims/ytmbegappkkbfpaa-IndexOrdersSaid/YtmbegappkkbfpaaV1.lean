/- ValueSizes: the walks of the functions, in the abstract layer. -/
import Derived.Test.YtmbegappkkbfpaaVT
import Derived.Test.YtmbegappkkbfpaaGenA
namespace Go.Proofs.Ytmbegappkkbfpaa
open Go Go.Abs
theorem nodes_ok : ∀ (m : Nat) (v : VT), v.nodes ≤ m → v.nodes ≤ 1000000 → ∀ (H : Heap) (K : AV → Heap → Prop), K (.int .i64 v.nodes) H → ACalls Try.prog 16 [.agg v.cs] H K := by
  intro m
  induction m with
  | zero => intro v h; have := v.nodes_pos; omega
  | succ m ih =>
    intro v hv hb H K hK
    obtain ⟨k, n, ks⟩ := v
    have hnl : VT.nodesL ks + 1 ≤ 1000000 := by simpa [VT.nodes] using hb
    have hll := VT.len_le ks
    refine ACalls.out (f16_ok fun hs => ?_)
    simp [VT.cs, f16]
    refine f16_loop3 (Inv := fun q t3 t9 H' => ∃ i : Nat, i ≤ ks.length ∧ q = ks.length - i ∧ t9 = .int .i64 i ∧ t3 = .int .i64 (1 + VT.nodesL (ks.take i) : Nat) ∧ H' = H ++ [.cells [.int .i64 k, .int .i64 n, .sl (VT.css ks) .none]]) ks.length ?_ ?_
    · intro _; exact ⟨0, by omega, by omega, rfl, by simp [VT.nodesL], rfl⟩
    · rintro q t3 t9 H' ⟨i, hi, rfl, rfl, rfl, rfl⟩ hsc hlen hsF Kb hKb
      by_cases hlt : i < ks.length
      · have hki := VT.kid_lt (k := k) (n := n) hlt
        have h1 := VT.nodesL_take hlt
        have h2 := VT.nodesL_take_le ks (i + 1)
        simp [f16_b3, hlt]
        refine ih ks[i] (by omega) (by omega) _ _ ?_
        rw [aAdd_int, wrap_in (by omega) (by omega), wrap_in (by omega) (by omega)]
        refine hKb _ _ ⟨ks.length - (i + 1), by omega, ?_⟩
        have e : ∀ x y : AB, H ++ [x, y] = (H ++ [x]) ++ [y] := fun x y => by simp
        rw [e]
        refine Back.same (by simp) hsc (by simp [f16_fr3, AV.sc, AV.scV, AV.scA, AV.scB]) ⟨_, _, rfl, i + 1, by omega, rfl, by simp, ?_, rfl⟩
        congr 1
        omega
      · simp [f16_b3, hlt]
        obtain rfl : i = ks.length := by omega
        refine Out.same rfl hs rfl (by rfl) ?_
        simp only [List.take_length]
        simpa [VT.nodes, Int.add_comm] using hK
theorem refnodes_ok : ∀ (m : Nat) (v : VT), v.nodes ≤ m → v.nodes ≤ 1000000 → ∀ (H : Heap) (K : AV → Heap → Prop), K (.int .i64 v.nodes) H → ACalls Try.prog 17 [.agg v.cs] H K := by
  intro m
  induction m with
  | zero => intro v h; have := v.nodes_pos; omega
  | succ m ih =>
    intro v hv hb H K hK
    obtain ⟨k, n, ks⟩ := v
    have hnl : VT.nodesL ks + 1 ≤ 1000000 := by simpa [VT.nodes] using hb
    have hll := VT.len_le ks
    refine ACalls.out (f17_ok fun hs => ?_)
    simp [VT.cs, f17]
    refine f17_loop3 (Inv := fun q t3 t9 H' => ∃ i : Nat, i ≤ ks.length ∧ q = ks.length - i ∧ t9 = .int .i64 i ∧ t3 = .int .i64 (1 + VT.nodesL (ks.take i) : Nat) ∧ H' = H ++ [.cells [.int .i64 k, .int .i64 n, .sl (VT.css ks) .none]]) ks.length ?_ ?_
    · intro _; exact ⟨0, by omega, by omega, rfl, by simp [VT.nodesL], rfl⟩
    · rintro q t3 t9 H' ⟨i, hi, rfl, rfl, rfl, rfl⟩ hsc hlen hsF Kb hKb
      by_cases hlt : i < ks.length
      · have hki := VT.kid_lt (k := k) (n := n) hlt
        have h1 := VT.nodesL_take hlt
        have h2 := VT.nodesL_take_le ks (i + 1)
        simp [f17_b3, hlt]
        refine ih ks[i] (by omega) (by omega) _ _ ?_
        rw [aAdd_int, wrap_in (by omega) (by omega), wrap_in (by omega) (by omega)]
        refine hKb _ _ ⟨ks.length - (i + 1), by omega, ?_⟩
        have e : ∀ x y : AB, H ++ [x, y] = (H ++ [x]) ++ [y] := fun x y => by simp
        rw [e]
        refine Back.same (by simp) hsc (by simp [f17_fr3, AV.sc, AV.scV, AV.scA, AV.scB]) ⟨_, _, rfl, i + 1, by omega, rfl, by simp, ?_, rfl⟩
        congr 1
        omega
      · simp [f17_b3, hlt]
        obtain rfl : i = ks.length := by omega
        refine Out.same rfl hs rfl (by rfl) ?_
        simp only [List.take_length]
        simpa [VT.nodes, Int.add_comm] using hK
theorem size_ok : ∀ (m : Nat) (v : VT), v.nodes ≤ m → v.nodes ≤ 1000000 → ∀ (H : Heap) (K : AV → Heap → Prop), K (.int .i64 v.size) H → ACalls Try.prog 14 [.agg v.cs] H K := by
  intro m
  induction m with
  | zero => intro v h; have := v.nodes_pos; omega
  | succ m ih =>
    intro v hv hb H K hK
    obtain ⟨k, n, ks⟩ := v
    have hnl : VT.nodesL ks + 1 ≤ 1000000 := by simpa [VT.nodes] using hb
    have hll := VT.len_le ks
    have hsl := VT.sizeL_le ks
    refine ACalls.out (f14_ok fun hs => ?_)
    by_cases hleaf : VT.leaf k = true
    · have hK : K (.int .i64 1) H := by simpa [VT.size, hleaf] using hK
      have fin : Out H.length K (.int .i64 1) (H ++ [.cells [.int .i64 k, .int .i64 n, .sl (VT.css ks) .none]]) := Out.same rfl hs rfl (by rfl) hK
      have h678 : k = 6 ∨ k = 7 ∨ k = 8 := by simpa [VT.leaf, or_assoc] using hleaf
      rcases h678 with rfl | rfl | rfl <;> simp [VT.cs, f14, f14_j1] <;> exact fin
    · have hK : K (.int .i64 (VT.sizeL ks + 1 : Nat)) H := by simpa [VT.size, hleaf] using hK
      have h678 : (k == 6) = false ∧ (k == 7) = false ∧ (k == 8) = false := by simpa [VT.leaf, and_assoc] using hleaf
      simp [VT.cs, f14, f14_j1, h678]
      refine f14_loop8 (Inv := fun q t3 t9 H' => ∃ i : Nat, i ≤ ks.length ∧ q = ks.length - i ∧ t9 = .int .i64 i ∧ t3 = .int .i64 (1 + VT.sizeL (ks.take i) : Nat) ∧ H' = H ++ [.cells [.int .i64 k, .int .i64 n, .sl (VT.css ks) .none]]) ks.length ?_ ?_
      · intro _; exact ⟨0, by omega, by omega, rfl, by simp [VT.sizeL], rfl⟩
      · rintro q t3 t9 H' ⟨i, hi, rfl, rfl, rfl, rfl⟩ hsc hlen hsF Kb hKb
        by_cases hlt : i < ks.length
        · have hki := VT.kid_lt (k := k) (n := n) hlt
          have h1 := VT.sizeL_take hlt
          have h2 := VT.sizeL_take_le ks (i + 1)
          simp [f14_b8, hlt]
          refine ih ks[i] (by omega) (by omega) _ _ ?_
          rw [aAdd_int, wrap_in (by omega) (by omega), wrap_in (by omega) (by omega)]
          refine hKb _ _ ⟨ks.length - (i + 1), by omega, ?_⟩
          have e : ∀ x y : AB, H ++ [x, y] = (H ++ [x]) ++ [y] := fun x y => by simp
          rw [e]
          refine Back.same (by simp) hsc (by simp [f14_fr8, AV.sc, AV.scV, AV.scA, AV.scB]) ⟨_, _, rfl, i + 1, by omega, rfl, by simp, ?_, rfl⟩
          congr 1
          omega
        · simp [f14_b8, hlt]
          obtain rfl : i = ks.length := by omega
          refine Out.same rfl hs rfl (by rfl) ?_
          simp only [List.take_length]
          simpa [Int.add_comm] using hK
theorem refsize_ok : ∀ (m : Nat) (v : VT), v.nodes ≤ m → v.nodes ≤ 1000000 → ∀ (H : Heap) (K : AV → Heap → Prop), K (.int .i64 v.size) H → ACalls Try.prog 15 [.agg v.cs] H K := by
  intro m
  induction m with
  | zero => intro v h; have := v.nodes_pos; omega
  | succ m ih =>
    intro v hv hb H K hK
    obtain ⟨k, n, ks⟩ := v
    have hnl : VT.nodesL ks + 1 ≤ 1000000 := by simpa [VT.nodes] using hb
    have hll := VT.len_le ks
    have hsl := VT.sizeL_le ks
    refine ACalls.out (f15_ok fun hs => ?_)
    by_cases hleaf : VT.leaf k = true
    · have hK : K (.int .i64 1) H := by simpa [VT.size, hleaf] using hK
      have fin : Out H.length K (.int .i64 1) (H ++ [.cells [.int .i64 k, .int .i64 n, .sl (VT.css ks) .none]]) := Out.same rfl hs rfl (by rfl) hK
      have h678 : k = 6 ∨ k = 7 ∨ k = 8 := by simpa [VT.leaf, or_assoc] using hleaf
      rcases h678 with rfl | rfl | rfl <;> simp [VT.cs, f15] <;> exact fin
    · have hK : K (.int .i64 (VT.sizeL ks + 1 : Nat)) H := by simpa [VT.size, hleaf] using hK
      have h678 : (k == 6) = false ∧ (k == 7) = false ∧ (k == 8) = false := by simpa [VT.leaf, and_assoc] using hleaf
      simp [VT.cs, f15, h678]
      refine f15_loop5 (Inv := fun q t3 t9 H' => ∃ i : Nat, i ≤ ks.length ∧ q = ks.length - i ∧ t9 = .int .i64 i ∧ t3 = .int .i64 (1 + VT.sizeL (ks.take i) : Nat) ∧ H' = H ++ [.cells [.int .i64 k, .int .i64 n, .sl (VT.css ks) .none]]) ks.length ?_ ?_
      · intro _; exact ⟨0, by omega, by omega, rfl, by simp [VT.sizeL], rfl⟩
      · rintro q t3 t9 H' ⟨i, hi, rfl, rfl, rfl, rfl⟩ hsc hlen hsF Kb hKb
        by_cases hlt : i < ks.length
        · have hki := VT.kid_lt (k := k) (n := n) hlt
          have h1 := VT.sizeL_take hlt
          have h2 := VT.sizeL_take_le ks (i + 1)
          simp [f15_b5, hlt]
          refine ih ks[i] (by omega) (by omega) _ _ ?_
          rw [aAdd_int, wrap_in (by omega) (by omega), wrap_in (by omega) (by omega)]
          refine hKb _ _ ⟨ks.length - (i + 1), by omega, ?_⟩
          have e : ∀ x y : AB, H ++ [x, y] = (H ++ [x]) ++ [y] := fun x y => by simp
          rw [e]
          refine Back.same (by simp) hsc (by simp [f15_fr5, AV.sc, AV.scV, AV.scA, AV.scB]) ⟨_, _, rfl, i + 1, by omega, rfl, by simp, ?_, rfl⟩
          congr 1
          omega
        · simp [f15_b5, hlt]
          obtain rfl : i = ks.length := by omega
          refine Out.same rfl hs rfl (by rfl) ?_
          simp only [List.take_length]
          simpa [Int.add_comm] using hK

theorem val_ok : ∀ (m : Nat) (v : VT), v.nodes ≤ m → ∀ (id : Nat) (n : Int) (H : Heap) (K : AV → Heap → Prop), H[id]? = some (.cells [.int .i64 n]) → 0 ≤ n → n ≤ 1000000 →
    K (.bool (VT.val v n).1) (H.set id (.cells [.int .i64 (VT.val v n).2])) → ACalls Try.prog 29 [.agg v.cs, .ptr id 0] H K := by
  intro m
  induction m with
  | zero => intro v h; have := v.nodes_pos; omega
  | succ m ih =>
    intro v hv id n H K hid h0 h1 hK
    obtain ⟨k, num, ks⟩ := v
    have hlt := lt_get hid
    refine ACalls.out (f29_ok fun hs => ?_)
    simp [VT.cs, f29, List.getElem?_append_left hlt, hid, wrap_in (n := n - 1) (by omega) (by omega), AV.known, List.set_append_left _ _ hlt]
    have hg : (H.set id (.cells [.int .i64 (n - 1)]))[id]? = some (.cells [.int .i64 (n - 1)]) := set_get _ hid
    rw [app_get hg]
    simp only [aLoadB_some, aCells_cons0, aLss_int, aTest_bool, decide_eq_true_eq]
    split
    · rename_i hneg
      refine Out.same (by simp) (HSc.set hs rfl) rfl rfl ?_
      simpa [VT.val, hneg] using hK
    · rename_i hneg
      have hK : K (.bool (VT.valL ks (n - 1)).1) (H.set id (.cells [.int .i64 (VT.valL ks (n - 1)).2])) := by simpa [VT.val, hneg] using hK
      refine f29_loop5 (Inv := fun q t5 H' => ∃ (i : Nat) (x : Int), i ≤ ks.length ∧ q = ks.length - i ∧ t5 = .int .i64 i ∧ 0 ≤ x ∧ x + i ≤ n - 1 ∧ VT.valL (ks.drop i) x = VT.valL ks (n - 1) ∧
        H' = H.set id (.cells [.int .i64 x]) ++ [.cells [.int .i64 k, .int .i64 num, .sl (VT.css ks) .none]]) ks.length ?_ ?_
      · intro _; exact ⟨0, n - 1, by omega, by omega, rfl, by omega, by simp, by simp, rfl⟩
      · rintro q t5 H' ⟨i, x, hi, rfl, rfl, hx0, hx1, hx, rfl⟩ hsc hlen hsF Kb hKb
        by_cases hik : i < ks.length
        · have hki := VT.kid_lt (k := k) (n := num) hik
          have hsp := VT.val_spec ks[i] x hx0
          rw [VT.valL_drop hik] at hx
          simp [f29_b5, hik]
          refine ih ks[i] (by omega) id x _ _ (by rw [app_get (set_get _ hid)]) hx0 (by omega) ?_
          have hset : (H.set id (.cells [.int .i64 x]) ++ [AB.cells [.int .i64 k, .int .i64 num, .sl (VT.css ks) .none]]).set id (.cells [.int .i64 (VT.val ks[i] x).2]) =
              H.set id (.cells [.int .i64 (VT.val ks[i] x).2]) ++ [.cells [.int .i64 k, .int .i64 num, .sl (VT.css ks) .none]] := by
            rw [app_set _ (set_get _ hid), List.set_set]
          rw [hset]
          cases hv : VT.val ks[i] x with
          | mk b y =>
            rw [hv] at hsp hx
            cases b with
            | false =>
              simp only [aNot_bool, Bool.not_false, aTest_bool, if_true]
              simp only at hx
              refine Out.same (by simp) (HSc.set hs rfl) rfl rfl ?_
              rw [← hx] at hK
              exact hK
            | true =>
              have hsp := hsp.1 rfl
              simp only at hx hsp
              have hpos := VT.nodes_pos ks[i]
              simp only [aNot_bool, Bool.not_true, aTest_bool, Bool.false_eq_true, if_false]
              rw [wrap_in (by omega) (by omega)]
              refine hKb _ _ ⟨ks.length - (i + 1), by omega, Back.here (by simp) (HSc.append (HSc.set hs rfl) rfl) ?_ ⟨_, rfl, i + 1, y, by omega, rfl, by simp, hsp.2, by simp; omega, hx, rfl⟩⟩
              simp [f29_fr5, AV.sc, AV.scV, AV.scA, AV.scB]; omega
        · simp [f29_b5, hik]
          obtain rfl : i = ks.length := by omega
          rw [List.drop_length] at hx
          refine Out.same (by simp) (HSc.set hs rfl) rfl rfl ?_
          rw [← hx] at hK
          exact hK
theorem value_ok (v : VT) (H : Heap) (K : AV → Heap → Prop) (hK : K (.bool (VT.val v 400).1) H) : ACalls Try.prog 13 [.agg v.cs] H K := by
  refine ACalls.out (f13_ok fun hs => ?_)
  simp [f13, AV.known]
  refine val_ok _ v (Nat.le_refl _) (H.length + 1) 400 _ _ (by simp) (by omega) (by omega) ?_
  simp
  exact Out.same rfl hs rfl rfl hK
theorem sizes_law (v : VT) : ACalls Try.prog 4 [.agg v.cs] [] fun r _ => r = .bool true := by
  refine f4_ok fun hs => ?_
  simp [f4]
  refine value_ok v _ _ ?_
  have hsp := VT.val_spec v 400 (by omega)
  cases hb : (VT.val v 400).1 with
  | false => simp
  | true =>
    have hn : v.nodes ≤ 400 := by have := hsp.1 hb; omega
    have hsz := VT.size_le v
    simp
    refine aPure_call _ (size_ok _ v (Nat.le_refl _) (by omega) _ _ ⟨rfl, rfl⟩) ?_
    refine aPure_call _ (refsize_ok _ v (Nat.le_refl _) (by omega) _ _ ⟨rfl, rfl⟩) ?_
    simp
    refine aPure_call _ (nodes_ok _ v (Nat.le_refl _) (by omega) _ _ ⟨rfl, rfl⟩) ?_
    refine aPure_call _ (refnodes_ok _ v (Nat.le_refl _) (by omega) _ _ ⟨rfl, rfl⟩) ?_
    simp
    refine aPure_call _ (size_ok _ v (Nat.le_refl _) (by omega) _ _ ⟨rfl, rfl⟩) ?_
    refine aPure_call _ (nodes_ok _ v (Nat.le_refl _) (by omega) _ _ ⟨rfl, rfl⟩) ?_
    simp [hsz, aBuild_eq, fillA]
    refine aPure_call (.int .i64 1) ((nodes_ok _ (.mk 1 0 []) (Nat.le_refl _) (by simp [VT.nodes, VT.nodesL]) _ _ (by simp [VT.nodes, VT.nodesL])).wk ?_) ?_
    · exact ⟨.agg ⟨.refl _, .refl _, .snil, trivial⟩, trivial⟩
    · simp
end Go.Proofs.Ytmbegappkkbfpaa
