/- A value's copy; equal values. -/
import Derived.Test.YtfpmdpldabopjaaGreatDoorKVb
import Derived.Test.YtfpmdpldabopjaaGreatDoorKGP
import Derived.Test.YtfpmdpldabopjaaGreatDoorA3
namespace Go.Proofs.YtfpmdpldabopjaaGreatDoor
open Go Go.Abs
set_option linter.unusedSimpArgs false
set_option linter.unusedVariables false
set_option maxRecDepth 8000
theorem tupP {n : Nat} {H2 J H' : Heap} {K : Kt} (he : H' = H2 ++ J) (hn : n ≤ H2.length) (hs : HSc H2) (h : K (.tup []) H2) : Out n K (.tup []) H' := by
  subst he
  exact ⟨.tup [], H2, J, rfl, hn, hs, .tup trivial, h⟩
theorem keep_Same_spec : ∀ (m : Nat), (∀ (v : VT), v.nodes ≤ m → v.nodes ≤ 1000000 → ∀ (H : Heap) (K : Kt), K (.bool true) H → ACalls Tryz.prog n_keep_SameValue [.agg v.cs, .agg v.cs] H K) := by
  intro m
  induction m with
  | zero => intro v h; have := v.nodes_pos; omega
  | succ m ih =>
    intro v hm hb H K hK
    obtain ⟨k, n, ks⟩ := v
    have hll := VT.len_le ks
    have hnn : (VT.mk k n ks).nodes = VT.nodesL ks + 1 := by simp [VT.nodes]
    refine ACalls.out (keep_SameValue_ok fun hs => ?_)
    simp [keep_SameValue, VT.cs, Nat.add_assoc]
    refine ACalls.out (keep_SameValues_ok fun hs2 => ?_)
    simp [keep_SameValues]
    refine keep_SameValues_loop4 (Inv := fun q t13 H' => ∃ i : Nat, i ≤ ks.length ∧ q = ks.length - i ∧ t13 = .int .i64 i ∧ H' = H ++ [.cells [.int .i64 k, .int .i64 n, .sl (VT.css ks) .none], .cells [.int .i64 k, .int .i64 n, .sl (VT.css ks) .none]]) ks.length ?_ ?_
    · intro _; exact ⟨0, by omega, by omega, rfl, rfl⟩
    · rintro q t13 H' ⟨i, hi, rfl, rfl, rfl⟩ hsc' hlen hsF Kb hKb
      by_cases hlt : i < ks.length
      · have hkn := VT.kid_lt (k := k) (n := n) hlt
        simp [keep_SameValues_b4, hlt]
        refine aPureX_call (.bool true) (fun J => ih ks[i] (by omega) (by omega) _ _ ⟨rfl, rfl⟩) ?_
        simp
        rw [wrap_in (by omega) (by omega)]
        refine hKb _ _ ⟨ks.length - (i + 1), by omega, Back.here (by simp) hsc' ?_ ⟨_, rfl, i + 1, by omega, rfl, by simp, rfl⟩⟩
        simp [keep_SameValues_fr4, AV.sc, AV.scV, AV.scA, AV.scB]
      · simp [keep_SameValues_b4, hlt]
        refine Out.bool (J := []) (by simp) (by simp) hs2 ?_
        try simp
        exact Out.bool rfl (Nat.le_refl _) hs hK
theorem keep_SameValues_spec (vs : List VT) (hv : ∀ v ∈ vs, v.nodes ≤ 1000000) (hl : vs.length ≤ 1000000) (H : Heap) (K : Kt) (hK : K (.bool true) H) : ACalls Tryz.prog n_keep_SameValues [.sl (VT.css vs) .none, .sl (VT.css vs) .none] H K := by
  refine ACalls.out (keep_SameValues_ok fun hs2 => ?_)
  simp [keep_SameValues]
  refine keep_SameValues_loop4 (Inv := fun q t13 H' => ∃ i : Nat, i ≤ vs.length ∧ q = vs.length - i ∧ t13 = .int .i64 i ∧ H' = H) vs.length ?_ ?_
  · intro _; exact ⟨0, by omega, by omega, rfl, rfl⟩
  · rintro q t13 H' ⟨i, hi, rfl, rfl, rfl⟩ hsc' hlen hsF Kb hKb
    by_cases hlt : i < vs.length
    · have hkn := hv _ (List.getElem_mem hlt)
      simp [keep_SameValues_b4, hlt]
      refine aPureX_call (.bool true) (fun J => keep_Same_spec _ vs[i] (Nat.le_refl _) hkn _ _ ⟨rfl, rfl⟩) ?_
      simp
      rw [wrap_in (by omega) (by omega)]
      refine hKb _ _ ⟨vs.length - (i + 1), by omega, Back.here (by simp) hsc' ?_ ⟨_, rfl, i + 1, by omega, rfl, by simp, rfl⟩⟩
      simp [keep_SameValues_fr4, AV.sc, AV.scV, AV.scA, AV.scB]
    · simp [keep_SameValues_b4, hlt]
      exact Out.bool (J := []) (by simp) (Nat.le_refl _) hs2 hK
end Go.Proofs.YtfpmdpldabopjaaGreatDoor
