import Derived.Test.YtfpmdpldabopjaaGreatDoorA3
import Derived.Test.YtfpmdpldabopjaaGreatDoorKGY
set_option linter.unusedSimpArgs false
set_option linter.unusedVariables false
namespace Go.Proofs.YtfpmdpldabopjaaGreatDoor
open Go Go.Abs
set_option maxRecDepth 8000
theorem zq46_spec : ∀ (m : Nat) (v : VT), v.nodes ≤ m → ∀ (left : Int), left ≤ 1000000 → -1 ≤ left → ∀ (H : Heap) (id : Nat), H[id]? = some (.cells [.int .i64 left]) → ∀ (K : AV → Heap → Prop),
  ((v.nodes : Int) ≤ left → K (.bool true) (H.set id (.cells [.int .i64 (left - v.nodes)]))) → (¬ (v.nodes : Int) ≤ left → ∀ l', K (.bool false) (H.set id (.cells [.int .i64 l']))) →
  ACalls Tryz.prog n_zq46 [.agg v.cs, .ptr id 0] H K := by
 intro m
 induction m with
 | zero => intro v h; have := v.nodes_pos; omega
 | succ m ih =>
  intro v hv left hl1 hl0 H id hid K hK hF
  obtain ⟨k, n, ks⟩ := v
  have hlt := lt_get hid
  have hnn : (VT.mk k n ks).nodes = VT.nodesL ks + 1 := by simp [VT.nodes]
  refine ACalls.out (zq46_ok fun hs => ?_)
  have hget : (H ++ [AB.cells [.int .i64 k, .int .i64 n, .sl (VT.css ks) .none]])[id]? = some (.cells [.int .i64 left]) := app_get hid
  have bad : (¬ ((VT.mk k n ks).nodes : Int) ≤ left) → ∀ l' H', H' = H.set id (.cells [.int .i64 l']) ++ [.cells [.int .i64 k, .int .i64 n, .sl (VT.css ks) .none]] → Out H.length K (.bool false) H' := by
   intro h l' H' he
   exact Out.bool he (by simp) (hs.set rfl) (hF h l')
  simp [zq46, VT.cs, hget, AV.known]
  rw [wrap_in (by omega) (by omega), app_set _ hid, app_get (set_get _ hid)]
  by_cases h0 : left - 1 < 0
  ·simp [h0]
   exact bad (by omega) _ _ rfl
  ·simp [h0]
   refine zq46_loop5 (Inv := fun q t5 H' => ∃ i : Nat, i ≤ ks.length ∧ q = ks.length - i ∧ t5 = .int .i64 i ∧ ((VT.nodesL (ks.take i) : Int) + 1 ≤ left) ∧ H' = H.set id (.cells [.int .i64 (left - 1 - VT.nodesL (ks.take i))]) ++ [.cells [.int .i64 k, .int .i64 n, .sl (VT.css ks) .none]]) ks.length ?_ ?_
   ·intro _; exact ⟨0, by omega, by omega, rfl, by simp [VT.nodesL]; omega, by simp [VT.nodesL]⟩
   ·rintro q t5 H' ⟨i, hi, rfl, rfl, hb, rfl⟩ hsc hlen hsF Kb hKb
    by_cases hil : i < ks.length
    ·have hki := VT.kid_lt (k := k) (n := n) hil
     have h1 := VT.nodesL_take hil
     have h2 := VT.nodesL_take_le ks (i + 1)
     have hll := VT.len_le (ks.take i)
     simp only [List.length_take] at hll
     have hge : (H.set id (.cells [.int .i64 (left - 1 - VT.nodesL (ks.take i))]) ++ [AB.cells [.int .i64 k, .int .i64 n, .sl (VT.css ks) .none]])[id]? = some (.cells [.int .i64 (left - 1 - VT.nodesL (ks.take i))]) := app_get (set_get _ hid)
     simp [zq46_b5, hil]
     refine ih ks[i] (by omega) (left - 1 - VT.nodesL (ks.take i)) (by omega) (by omega) _ id hge _ ?_ ?_
     ·intro hle
      rw [app_set _ (set_get _ hid), List.set_set]
      simp
      rw [wrap_in (by omega) (by omega)]
      refine hKb _ _ ⟨ks.length - (i + 1), by omega, Back.here (by simp) ((hs.set rfl).snoc rfl) ?_ ⟨_, rfl, i + 1, by omega, rfl, by simp, by omega, ?_⟩⟩
      ·simp [zq46_fr5, AV.sc, AV.scV, AV.scA, AV.scB]; omega
      ·rw [h1]; congr 5; omega
     ·intro hle l'
      rw [app_set _ (set_get _ hid), List.set_set]
      simp
      exact bad (by omega) _ _ rfl
    ·obtain rfl : i = ks.length := by omega
     rw [List.take_length] at hb ⊢
     simp [zq46_b5]
     refine Out.bool rfl (by simp) (hs.set rfl) ?_
     have := hK (by omega)
     rw [hnn] at this
     rw [show left - 1 - (VT.nodesL ks : Int) = left - ((VT.nodesL ks + 1 : Nat) : Int) by omega]
     exact this
theorem zq15_spec (v : VT) (H : Heap) (K : AV → Heap → Prop) (hK : ∀ b, (b = true → v.nodes ≤ 250) → K (.bool b) H) : ACalls Tryz.prog n_zq15 [.agg v.cs] H K := by
 refine ACalls.out (zq15_ok fun hs => ?_)
 simp [zq15, AV.known]
 refine zq46_spec _ v (Nat.le_refl _) 250 (by omega) (by omega) _ (H.length + 1) (by simp) _ ?_ ?_
 ·intro h
  exact Out.bool (J := [_, _]) (by simp; exact ⟨rfl, rfl⟩) (Nat.le_refl _) hs (hK true fun _ => by omega)
 ·intro h l'
  exact Out.bool (J := [_, _]) (by simp; exact ⟨rfl, rfl⟩) (Nat.le_refl _) hs (hK false fun h => by cases h)
theorem zq93_spec : ∀ (m : Nat) (v : VT), v.nodes ≤ m → v.nodes ≤ 1000000000 → ∀ (H : Heap) (K : AV → Heap → Prop), K (.int .i64 v.nodes) H → ACalls Tryz.prog n_zq93 [.agg v.cs] H K := by
 intro m
 induction m with
 | zero => intro v h; have := v.nodes_pos; omega
 | succ m ih =>
  intro v hv hb H K hK
  obtain ⟨k, n, ks⟩ := v
  have hnl : VT.nodesL ks + 1 ≤ 1000000000 := by simpa [VT.nodes] using hb
  have hll := VT.len_le ks
  refine ACalls.out (zq93_ok fun hs => ?_)
  simp [VT.cs, zq93]
  refine zq93_loop3 (Inv := fun q t3 t4 H' => ∃ i : Nat, i ≤ ks.length ∧ q = ks.length - i ∧ t4 = .int .i64 i ∧ t3 = .int .i64 (1 + VT.nodesL (ks.take i) : Nat) ∧ H' = H ++ [.cells [.int .i64 k, .int .i64 n, .sl (VT.css ks) .none]]) ks.length ?_ ?_
  ·intro _; exact ⟨0, by omega, by omega, rfl, by simp [VT.nodesL], rfl⟩
  ·rintro q t3 t4 H' ⟨i, hi, rfl, rfl, rfl, rfl⟩ hsc hlen hsF Kb hKb
   by_cases hlt : i < ks.length
   ·have hki := VT.kid_lt (k := k) (n := n) hlt
    have h1 := VT.nodesL_take hlt
    have h2 := VT.nodesL_take_le ks (i + 1)
    simp [zq93_b3, hlt]
    refine ih ks[i] (by omega) (by omega) _ _ ?_
    simp
    rw [wrap_in (by omega) (by omega), wrap_in (by omega) (by omega)]
    refine hKb _ _ ⟨ks.length - (i + 1), by omega, Back.here (by simp) hsc ?_ ⟨_, _, rfl, i + 1, by omega, rfl, by simp, ?_, rfl⟩⟩
    ·simp [zq93_fr3, AV.sc, AV.scV, AV.scA, AV.scB]
    ·rw [h1]; congr 1; omega
   ·obtain rfl : i = ks.length := by omega
    simp [zq93_b3]
    refine Out.int rfl (Nat.le_refl _) hs ?_
    simpa [VT.nodes, Int.add_comm] using hK
theorem zq94_spec (data : List Dat) (hdl : data.length ≤ 1000000) (vars : Int) : ∀ (m : Nat) (v : VT), v.nodes ≤ m → v.nodes ≤ 1000000000 → ∀ (H : Heap) (K : AV → Heap → Prop), K (.bool (tyOk data vars v)) H → ACalls Tryz.prog n_zq94 [.sl (data.map Dat.cs) .none, .agg v.cs, .int .i64 vars] H K := by
 intro m
 induction m with
 | zero => intro v h; have := v.nodes_pos; omega
 | succ m ih =>
  intro v hv hb H K hK
  obtain ⟨k, n, ks⟩ := v
  have hnl : VT.nodesL ks + 1 ≤ 1000000000 := by simpa [VT.nodes] using hb
  have hll := VT.len_le ks
  refine ACalls.out (zq94_ok fun hs => ?_)
  have hO : ∀ J, Out H.length K (.bool (shapeOk data vars k n ks.length && tyOkL data vars ks)) (H ++ J) := fun J => Out.bool rfl (Nat.le_refl _) hs (by simpa [tyOk] using hK)
  have hF : shapeOk data vars k n ks.length = false → ∀ J, Out H.length K (.bool false) (H ++ J) := fun h J => by have := hO J; rwa [h, Bool.false_and] at this
  have loop : shapeOk data vars k n ks.length = true → zq94_l24 (.sl (data.map Dat.cs) .none) (.int .i64 vars) (.ptr H.length 0) (.int .i64 ks.length) (.int .i64 0) (H ++ [.cells [.int .i64 k, .int .i64 n, .sl (VT.css ks) .none]]) (Out H.length K) := by
   intro hsh
   rw [hsh] at hO
   simp only [Bool.true_and] at hO
   refine zq94_loop24 (Inv := fun q t8 H' => ∃ i : Nat, i ≤ ks.length ∧ q = ks.length - i ∧ t8 = .int .i64 i ∧ tyOkL data vars (ks.drop i) = tyOkL data vars ks ∧ H' = H ++ [.cells [.int .i64 k, .int .i64 n, .sl (VT.css ks) .none]]) ks.length ?_ ?_
   ·intro _; exact ⟨0, by omega, by omega, rfl, by simp, rfl⟩
   ·rintro q t8 H' ⟨i, hi, rfl, rfl, ho, rfl⟩ hsc hlen hsF Kb hKb
    by_cases hlt : i < ks.length
    ·have hki := VT.kid_lt (k := k) (n := n) hlt
     rw [List.drop_eq_getElem_cons hlt, tyOkL] at ho
     simp [zq94_b24, hlt]
     refine ih ks[i] (by omega) (by omega) _ _ ?_
     cases hb : tyOk data vars ks[i] with
     | false =>
      rw [hb, Bool.false_and] at ho
      rw [← ho] at hO
      simp
      exact hO _
     | true =>
      rw [hb, Bool.true_and] at ho
      simp
      rw [wrap_in (by omega) (by omega)]
      refine hKb _ _ ⟨ks.length - (i + 1), by omega, Back.here (by simp) hsc ?_ ⟨_, rfl, i + 1, by omega, rfl, by simp, ho, rfl⟩⟩
      simp [zq94_fr24, AV.sc, AV.scV, AV.scA, AV.scB]
    ·obtain rfl : i = ks.length := by omega
     rw [List.drop_length, tyOkL] at ho
     rw [← ho] at hO
     simp [zq94_b24]
     exact hO _
  have prim : (k = 1 ∨ k = 2 ∨ k = 3) → Out H.length K (.bool (n == 0 && ks.length == 0)) (H ++ [.cells [.int .i64 k, .int .i64 n, .sl (VT.css ks) .none]]) := by
   intro h
   have hsh : shapeOk data vars k n ks.length = (n == 0 && ks.length == 0) := by rcases h with rfl | rfl | rfl <;> rfl
   have := hO [.cells [.int .i64 k, .int .i64 n, .sl (VT.css ks) .none]]
   rw [hsh] at this
   cases ks with
   | nil => simpa [tyOkL] using this
   | cons x l => simpa using this
  by_cases h123 : k = 1 ∨ k = 2 ∨ k = 3
  ·have := prim h123
   cases hn : (n == 0) with
   | false => rw [hn, Bool.false_and] at this; rcases h123 with rfl | rfl | rfl <;> simp [zq94, VT.cs, zq94_j1, hn] <;> exact this
   | true =>
    rw [hn, Bool.true_and] at this
    have e : ((ks.length : Int) == 0) = (ks.length == 0) := by rw [Bool.eq_iff_iff]; simp
    rw [← e] at this
    rcases h123 with rfl | rfl | rfl <;> simp only [zq94, VT.cs] <;> simp [zq94_j1, hn] <;> simpa using this
  by_cases h4 : k = 4
  ·subst h4
   have hsh : shapeOk data vars 4 n ks.length = (decide (0 ≤ n) && decide (n < vars) && ks.length == 0) := rfl
   have hO' : ∀ J, Out H.length K (.bool (decide (0 ≤ n) && decide (n < vars) && ks.length == 0)) (H ++ J) := fun J => by
    have := hO J
    rw [hsh] at this
    cases ks with
    | nil => simpa [tyOkL] using this
    | cons x l => simpa using this
   have e : ((ks.length : Int) == 0) = (ks.length == 0) := by rw [Bool.eq_iff_iff]; simp
   rw [← e] at hO'
   by_cases g1 : 0 ≤ n
   ·by_cases g2 : n < vars
    ·simp only [zq94, VT.cs]
     simp [zq94_j1, g1, g2]
     simpa [g1, g2] using hO' _
    ·simp only [zq94, VT.cs]
     simp [zq94_j1, g1, g2]
     simpa [g1, g2] using hO' _
   ·simp only [zq94, VT.cs]
    simp [zq94_j1, g1]
    simpa [g1] using hO' _
  by_cases h5 : k = 5
  ·subst h5
   have hsh : shapeOk data vars 5 n ks.length = (decide (0 ≤ n) && (match data[n.toNat]? with | some d => (ks.length : Int) == d.vars | none => false)) := rfl
   by_cases g1 : 0 ≤ n
   ·have g1' : ¬ n < 0 := by omega
    by_cases g2 : n < data.length
    ·have hnl : n.toNat < data.length := by omega
     have g2' : ¬ (data.length : Int) ≤ n := by omega
     have hat : (data.map Dat.cs)[n.toNat]?.getD [] = [.str data[n.toNat].name, .int .i64 data[n.toNat].vars, .sl (data[n.toNat].cons.map Con.cs) .none] := by simp [hnl, Dat.cs]
     rw [List.getElem?_eq_getElem hnl] at hsh
     simp only [g1, decide_true, Bool.true_and] at hsh
     cases hv : ((ks.length : Int) == data[n.toNat].vars) with
     | false =>
      rw [hv] at hsh
      have hv' : ((ks.length : Int) != data[n.toNat].vars) = true := by simp [bne, hv]
      simp only [zq94, VT.cs]
      simp [zq94_j1, g1', g2', g1, g2, hnl, Dat.cs, hv']
      exact hF hsh _
     | true =>
      rw [hv] at hsh
      have hv' : ((ks.length : Int) != data[n.toNat].vars) = false := by simp [bne, hv]
      simp only [zq94, VT.cs]
      simp [zq94_j1, g1', g2', g1, g2, hnl, Dat.cs, hv', zq94_j2, zq94_j3]
      exact loop hsh
    ·have g2' : (data.length : Int) ≤ n := by omega
     rw [List.getElem?_eq_none (by omega)] at hsh
     simp only [zq94, VT.cs]
     simp [zq94_j1, g1', g2']
     exact hF (by rw [hsh]; simp) _
   ·have g1' : n < 0 := by omega
    simp only [zq94, VT.cs]
    simp [zq94_j1, g1']
    exact hF (by rw [hsh]; simp [g1]) _
  by_cases h6 : k = 6
  ·subst h6
   have hsh : shapeOk data vars 6 n ks.length = (n == 0 && decide (2 ≤ ks.length) && decide (ks.length ≤ 6)) := rfl
   simp only [zq94, VT.cs]
   cases hn : (n == 0) with
   | false =>
    have : (n != 0) = true := by simp [bne, hn]
    simp [zq94_j1, this]
    exact hF (by rw [hsh, hn]; rfl) _
   | true =>
    have hn' : (n != 0) = false := by simp [bne, hn]
    by_cases g1 : ks.length < 2
    ·have : (ks.length : Int) < 2 := by omega
     simp [zq94_j1, hn', this]
     exact hF (by rw [hsh]; simp; omega) _
    ·have g1' : ¬ (ks.length : Int) < 2 := by omega
     by_cases g2 : 6 < ks.length
     ·have : (6 : Int) < ks.length := by omega
      simp [zq94_j1, hn', g1', this]
      exact hF (by rw [hsh]; simp; omega) _
     ·have : ¬ (6 : Int) < ks.length := by omega
      simp [zq94_j1, hn', g1', this, zq94_j2, zq94_j3]
      exact loop (by rw [hsh, hn]; simp; omega)
  by_cases h78 : k = 7 ∨ k = 8
  ·have hsh : shapeOk data vars k n ks.length = (n == 0 && ks.length == 1) := by rcases h78 with rfl | rfl <;> rfl
   cases hn : (n == 0) with
   | false =>
    have : (n != 0) = true := by simp [bne, hn]
    have fin := hF (by rw [hsh, hn]; rfl)
    simp only [zq94, VT.cs]
    rcases h78 with rfl | rfl <;> simp [zq94_j1, zq94_j4, this] <;> exact fin _
   | true =>
    have hn' : (n != 0) = false := by simp [bne, hn]
    by_cases g1 : ks.length = 1
    ·have g1' : ((ks.length : Int) != 1) = false := by simp [g1]
     have fin := loop (by rw [hsh, hn, g1]; rfl)
     simp only [zq94, VT.cs]
     rcases h78 with rfl | rfl <;> simp [zq94_j1, zq94_j4, hn', g1', zq94_j2, zq94_j3] <;> exact fin
    ·have g1' : ((ks.length : Int) != 1) = true := by simp; omega
     have fin := hF (by rw [hsh]; simp [g1])
     simp only [zq94, VT.cs]
     rcases h78 with rfl | rfl <;> simp [zq94_j1, zq94_j4, hn', g1'] <;> exact fin _
  have b1 : (k == 1) = false := by simp; omega
  have b2 : (k == 2) = false := by simp; omega
  have b3 : (k == 3) = false := by simp; omega
  have b4 : (k == 4) = false := by simp; omega
  have b5 : (k == 5) = false := by simp; omega
  have b6 : (k == 6) = false := by simp; omega
  have b7 : (k == 7) = false := by simp; omega
  have b8 : (k == 8) = false := by simp; omega
  by_cases h9 : k = 9
  ·subst h9
   have hsh : shapeOk data vars 9 n ks.length = (n == 0 && decide (1 ≤ ks.length) && decide (ks.length ≤ 7)) := rfl
   simp only [zq94, VT.cs]
   cases hn : (n == 0) with
   | false =>
    have : (n != 0) = true := by simp [bne, hn]
    simp [zq94_j1, zq94_j4, this]
    exact hF (by rw [hsh, hn]; rfl) _
   | true =>
    have hn' : (n != 0) = false := by simp [bne, hn]
    by_cases g1 : ks.length < 1
    ·have : (ks.length : Int) < 1 := by omega
     simp [zq94_j1, zq94_j4, hn', this]
     exact hF (by rw [hsh]; simp; omega) _
    ·have g1' : ¬ (ks.length : Int) < 1 := by omega
     by_cases g2 : 7 < ks.length
     ·have : (7 : Int) < ks.length := by omega
      simp [zq94_j1, zq94_j4, hn', g1', this]
      exact hF (by rw [hsh]; simp; omega) _
     ·have : ¬ (7 : Int) < ks.length := by omega
      simp [zq94_j1, zq94_j4, hn', g1', this, zq94_j2, zq94_j3]
      exact loop (by rw [hsh, hn]; simp; omega)
  ·have b9 : (k == 9) = false := by simp; omega
   simp only [zq94, VT.cs]
   simp [zq94_j1, zq94_j4, b1, b2, b3, b4, b5, b6, b7, b8, b9]
   exact hF (by unfold shapeOk; simp [b1, b2, b3, b4, b5, b6, b7, b8, b9]) _
theorem zq52_spec (data : List Dat) (hdl : data.length ≤ 1000000) (vars : Int) (v : VT) (hb : v.nodes ≤ 1000000000) (H : Heap) (K : AV → Heap → Prop) (hK : K (.bool (tyValid data vars v)) H) : ACalls Tryz.prog n_zq52 [.sl (data.map Dat.cs) .none, .agg v.cs, .int .i64 vars] H K := by
 refine ACalls.out (zq52_ok fun hs => ?_)
 have hO : ∀ J, Out H.length K (.bool (tyValid data vars v)) (H ++ J) := fun J => Out.bool rfl (Nat.le_refl _) hs hK
 unfold tyValid at hO
 simp [zq52]
 refine zq93_spec _ v (Nat.le_refl _) hb _ _ ?_
 by_cases h : v.nodes ≤ 200
 ·have h' : (v.nodes : Int) ≤ 200 := by omega
  simp [h']
  refine zq94_spec data hdl vars _ v (Nat.le_refl _) hb _ _ ?_
  simpa [h] using hO _
 ·have h' : ¬ (v.nodes : Int) ≤ 200 := by omega
  simp [h']
  simpa [h] using hO _
def accV (es : List (List AV)) (id : Nat) : AV := match es with | [] => .snil | _ => .sl es (.own id)
def accB (e s : Nat) (n : Nat) : Heap := match n with | 0 => [] | n => [.perm e s n]
theorem accV_wk (es : List (List AV)) (id : Nat) : WkA (accV es id) (.sl es .none) := by
 cases es with
 | nil => exact .snil
 | cons e es => exact .sl _ _
theorem accV_sc (es : List (List AV)) {id n : Nat} (h : es = [] ∨ id < n) : (accV es id).scA n = true := by
 cases es with
 | nil => rfl
 | cons e es =>
  rcases h with h | h
  ·cases h
  ·simpa [accV, AV.scA, AV.scB] using h
theorem accV_known (es : List (List AV)) (id : Nat) : (accV es id).known = true := by cases es <;> rfl
theorem accV_cs (es : List (List AV)) (id : Nat) : (accV es id).cs? = some [accV es id] := by cases es <;> rfl
theorem acc_append {e s bytes : Nat} {es : List (List AV)} {y : List AV} {t : Tok} {H : Heap} {K : AV → Heap → Prop} (hy : y.length = s) (hb : (es.length + 1) * bytes ≤ 140737488355328) (hl : es.length + 1 ≤ 9223372036854775807)
  (hk : K (accV (es ++ [y]) H.length) (H ++ accB e s (es.length + 1))) : aAppend e s bytes (accV es H.length) (.sl [y] t) (H ++ accB e s es.length) K := by
 unfold aAppend aSrc
 refine ⟨by simpa using hy, ?_⟩
 cases es with
 | nil =>
  unfold aAppTo
  simp [accV, accB] at *
  exact ⟨by omega, hk⟩
 | cons x es =>
  unfold aAppTo
  simp [accV, accB] at *
  refine ⟨⟨by omega, by omega⟩, hk⟩
theorem acc_append' {e s bytes id n : Nat} {es : List (List AV)} {y : List AV} {t : Tok} {H0 Hh : Heap} {K : AV → Heap → Prop} (hn : n = es.length) (he : Hh = H0 ++ accB e s n) (hid : id = H0.length) (hy : y.length = s) (hb : (es.length + 1) * bytes ≤ 140737488355328) (hl : es.length + 1 ≤ 9223372036854775807)
  (hk : K (accV (es ++ [y]) id) (H0 ++ accB e s (n + 1))) : aAppend e s bytes (accV es id) (.sl [y] t) Hh K := by
 subst he hid hn
 exact acc_append hy hb hl hk
@[simp] theorem accV_cs' (es : List (List AV)) (id : Nat) : (accV es id).cs? = some [accV es id] := accV_cs es id
@[simp] theorem accV_known' (es : List (List AV)) (id : Nat) : (accV es id).known = true := accV_known es id
theorem buildS_vt {v : VT} {k : AV → Prop} : aBuildS 3 [.int .i64 0, .int .i64 0, .snil] 1 [(0, .agg v.cs)] k = k (.sl [v.cs] .full) := by
 cases v
 exact propext Iff.rfl
theorem css_take_succ {l : List VT} {i : Nat} (h : i < l.length) : VT.css (l.take (i + 1)) = VT.css (l.take i) ++ [(l[i]).cs] := by
 rw [VT.css_map, VT.css_map, List.take_succ_eq_append_getElem h, List.map_append]
 rfl
theorem out_vt {H J : Heap} {K : AV → Heap → Prop} {k n : Int} {ks : List VT} {id : Nat} (hs : HSc H) (hK : K (.agg (VT.mk k n ks).cs) H) : Out H.length K (.agg [.int .i64 k, .int .i64 n, accV (VT.css ks) id]) (H ++ J) :=
 Out.at rfl (Nat.le_refl _) hs (WkV.agg (ds := [.int .i64 k, .int .i64 n, .sl (VT.css ks) .none]) ⟨.refl _, .refl _, accV_wk _ _, trivial⟩) rfl (by simp [AV.scV, AV.scA, AV.scB]) (by simpa [VT.cs] using hK)
theorem copied_spec : ∀ (m : Nat) (v : VT), v.nodes ≤ m → v.nodes ≤ 1000000 → ∀ (H : Heap) (K : AV → Heap → Prop), K (.agg v.cs) H → ACalls Tryz.prog n_zq203 [.agg v.cs] H K := by
 intro m
 induction m with
 | zero => intro v h; have := v.nodes_pos; omega
 | succ m ih =>
  intro v hv hb H K hK
  obtain ⟨k, n, ks⟩ := v
  have hnl : VT.nodesL ks + 1 ≤ 1000000 := by simpa [VT.nodes] using hb
  have hll := VT.len_le ks
  refine ACalls.out (zq203_ok fun hs => ?_)
  simp [VT.cs, zq203, aBuild, fillA, Nat.add_assoc]
  refine zq203_loop3 (Inv := fun q t4 H' => ∃ i : Nat, i ≤ ks.length ∧ q = ks.length - i ∧ t4 = .int .i64 i ∧ H' = H ++ [.cells [.int .i64 k, .int .i64 n, .sl (VT.css ks) .none], .cells [.int .i64 0, .int .i64 0, .snil], .cells [.int .i64 k, .int .i64 n, accV (VT.css (ks.take i)) (H.length + 3)]] ++ accB e_api_Type 3 i) ks.length ?_ ?_
  ·intro _; exact ⟨0, by omega, by omega, rfl, by simp [accB, accV, VT.css]⟩
  ·rintro q t4 H' ⟨i, hi, rfl, rfl, rfl⟩ hsc hlen hsF Kb hKb
   by_cases hlt : i < ks.length
   ·have hki := VT.kid_lt (k := k) (n := n) hlt
    simp [zq203_b3, hlt]
    refine aPureX_call (.agg (ks[i]).cs) (fun J => ih ks[i] (by omega) (by omega) _ _ ⟨rfl, rfl⟩) ?_
    rw [buildS_vt]
    refine acc_append' (H0 := H ++ [.cells [.int .i64 k, .int .i64 n, .sl (VT.css ks) .none], .cells [.int .i64 0, .int .i64 0, .snil], .cells [.int .i64 k, .int .i64 n, accV (VT.css (ks.take i)) (H.length + 3)]]) (n := i) (by simp; omega) (by simp) (by simp) (by simp) (by simp; omega) (by simp; omega) ?_
    rw [← css_take_succ hlt]
    simp
    rw [wrap_in (by omega) (by omega)]
    refine hKb _ _ ⟨ks.length - (i + 1), by omega, Back.here (by simp [accB]) ?_ ?_ ⟨_, rfl, i + 1, by omega, rfl, by simp, by simp⟩⟩
    ·refine hs.append ?_
     simp [AB.sc, accB, AV.scA, AV.scB]
     exact accV_sc _ (.inr (by omega))
    ·simp [zq203_fr3, AV.sc, AV.scV, AV.scA, AV.scB]
   ·obtain rfl : i = ks.length := by omega
    rw [List.take_length] at *
    simp [zq203_b3]
    exact out_vt hs hK
theorem substL_map (args : List VT) : ∀ l : List VT, substL args l = l.map (subst args)
 | [] => rfl
 | t :: ts => by rw [substL, substL_map args ts]; rfl
theorem zq161_spec (args : List VT) (ha : ∀ x ∈ args, x.nodes ≤ 1000000) (hal : args.length ≤ 1000000) : ∀ (m : Nat) (v : VT), v.nodes ≤ m → v.nodes ≤ 1000000 → ∀ (H : Heap) (K : AV → Heap → Prop), K (.agg (subst args v).cs) H → ACalls Tryz.prog n_zq161 [.agg v.cs, .sl (VT.css args) .none] H K := by
 intro m
 induction m with
 | zero => intro v h; have := v.nodes_pos; omega
 | succ m ih =>
  intro v hv hb H K hK
  obtain ⟨k, n, ks⟩ := v
  have hnl : VT.nodesL ks + 1 ≤ 1000000 := by simpa [VT.nodes] using hb
  have hll := VT.len_le ks
  refine ACalls.out (zq161_ok fun hs => ?_)
  by_cases hvar : k = 4 ∧ 0 ≤ n ∧ n < args.length
  ·obtain ⟨rfl, h0, h1⟩ := hvar
   have hn : n.toNat < args.length := by omega
   have hK' : K (.agg (args[n.toNat]).cs) H := by
    rw [subst, if_pos ⟨rfl, h0, h1⟩, List.getElem?_eq_getElem hn] at hK
    exact hK
   simp [VT.cs, zq161, h0, h1, hn]
   refine copied_spec _ _ (Nat.le_refl _) (ha _ (List.getElem_mem hn)) _ _ ?_
   generalize args[n.toNat] = x at *
   obtain ⟨k', n', ks'⟩ := x
   simp [VT.cs]
   exact Out.at rfl (Nat.le_refl _) hs .rfl' rfl rfl hK'
  ·have hK' : K (.agg (VT.mk k n (substL args ks)).cs) H := by
    rw [subst, if_neg hvar] at hK
    exact hK
   have go : ∀ H1, H1 = H ++ [.cells [.int .i64 k, .int .i64 n, .sl (VT.css ks) .none], .cells [.int .i64 0, .int .i64 0, .snil], .cells [.int .i64 k, .int .i64 n, .snil]] → zq161_l5 (.sl (VT.css args) .none) (.ptr H.length 0) (.ptr (H.length + 1) 0) (.ptr (H.length + 2) 0) (.int .i64 0) H1 (Out H.length K) := by
    rintro _ rfl
    refine zq161_loop5 (Inv := fun q t6 H' => ∃ i : Nat, i ≤ ks.length ∧ q = ks.length - i ∧ t6 = .int .i64 i ∧ H' = H ++ [.cells [.int .i64 k, .int .i64 n, .sl (VT.css ks) .none], .cells [.int .i64 0, .int .i64 0, .snil], .cells [.int .i64 k, .int .i64 n, accV (VT.css ((substL args ks).take i)) (H.length + 3)]] ++ accB e_api_Type 3 i) ks.length ?_ ?_
    ·intro _; exact ⟨0, by omega, by omega, rfl, by simp [accB, accV, VT.css]⟩
    ·rintro q t6 H' ⟨i, hi, rfl, rfl, rfl⟩ hsc hlen hsF Kb hKb
     by_cases hlt : i < ks.length
     ·have hki := VT.kid_lt (k := k) (n := n) hlt
      have hlt' : i < (substL args ks).length := by rw [substL_map]; simpa using hlt
      have hsi : (substL args ks)[i] = subst args ks[i] := by simp [substL_map]
      simp [zq161_b5, hlt]
      refine aPureX_call (.agg (subst args ks[i]).cs) (fun J => ih ks[i] (by omega) (by omega) _ _ ⟨rfl, rfl⟩) ?_
      rw [buildS_vt, ← hsi]
      refine acc_append' (H0 := H ++ [.cells [.int .i64 k, .int .i64 n, .sl (VT.css ks) .none], .cells [.int .i64 0, .int .i64 0, .snil], .cells [.int .i64 k, .int .i64 n, accV (VT.css ((substL args ks).take i)) (H.length + 3)]]) (n := i) (by simp; omega) (by simp) (by simp) (by simp) (by simp; omega) (by simp; omega) ?_
      rw [← css_take_succ hlt']
      simp
      rw [wrap_in (by omega) (by omega)]
      refine hKb _ _ ⟨ks.length - (i + 1), by omega, Back.here (by simp [accB]) ?_ ?_ ⟨_, rfl, i + 1, by omega, rfl, by simp, by simp⟩⟩
      ·refine hs.append ?_
       simp [AB.sc, accB, AV.scA, AV.scB]
       exact accV_sc _ (.inr (by omega))
      ·simp [zq161_fr5, AV.sc, AV.scV, AV.scA, AV.scB]
     ·obtain rfl : i = ks.length := by omega
      have e : (substL args ks).take ks.length = substL args ks := List.take_of_length_le (by rw [substL_map]; simp)
      rw [e]
      simp [zq161_b5]
      exact out_vt hs hK'
   simp only [VT.cs, zq161]
   by_cases h4 : k = 4
   ·subst h4
    by_cases h0 : 0 ≤ n
    ·have h1 : ¬ n < args.length := fun h => hvar ⟨rfl, h0, h⟩
     simp [h0, h1, aBuild, fillA, Nat.add_assoc]
     exact go _ rfl
    ·simp [h0, aBuild, fillA, Nat.add_assoc]
     exact go _ rfl
   ·have h4' : (k == 4) = false := by simpa using h4
    simp [h4', aBuild, fillA, Nat.add_assoc]
    exact go _ rfl
mutual
theorem subst_le {args : List VT} {M : Nat} (h1 : 1 ≤ M) (ha : ∀ x ∈ args, x.nodes ≤ M) : ∀ v : VT, (subst args v).nodes ≤ v.nodes * M
 | .mk k n ks => by
  unfold subst
  split
  ·rename_i h
   have hn : n.toNat < args.length := by omega
   rw [List.getElem?_eq_getElem hn]
   have := ha _ (List.getElem_mem hn)
   have h2 : M ≤ (VT.mk k n ks).nodes * M := by
    have := (VT.mk k n ks).nodes_pos
    exact Nat.le_mul_of_pos_left M this
   simp only [Option.getD_some]
   omega
  ·have := substL_le h1 ha ks
   simp only [VT.nodes, Nat.succ_mul]
   omega
theorem substL_le {args : List VT} {M : Nat} (h1 : 1 ≤ M) (ha : ∀ x ∈ args, x.nodes ≤ M) : ∀ l : List VT, VT.nodesL (substL args l) ≤ VT.nodesL l * M
 | [] => by simp [substL, VT.nodesL]
 | t :: ts => by
  have h2 := subst_le h1 ha t
  have h3 := substL_le h1 ha ts
  simp only [substL, VT.nodesL, Nat.add_mul]
  omega
end
theorem kids_le {k n : Int} {ks : List VT} : ∀ x ∈ ks, x.nodes ≤ (VT.mk k n ks).nodes := by
 intro x hx
 obtain ⟨i, hi, rfl⟩ := List.mem_iff_getElem.1 hx
 exact Nat.le_of_lt (VT.kid_lt hi)
theorem kids_lt {k n : Int} {ks : List VT} : ∀ x ∈ ks, x.nodes < (VT.mk k n ks).nodes := by
 intro x hx
 obtain ⟨i, hi, rfl⟩ := List.mem_iff_getElem.1 hx
 exact VT.kid_lt hi
theorem two' {H : Heap} {x y : AB} : H ++ [x, y] = (H ++ [x]) ++ [y] := by simp
theorem fields_mk (data : List Dat) (k n : Int) (ks : List VT) (c : Int) : fields data (.mk k n ks) c = (if k = 5 ∧ 0 ≤ n ∧ 0 ≤ c then
  match data[n.toNat]? with
  | some d => if (ks.length : Int) = d.vars then
    match d.cons[c.toNat]? with
    | some co => if (co.args.map (subst ks)).all (fun x => decide (x.nodes ≤ 200)) = true then some (co.args.map (subst ks)) else none
    | none => none
   else none
  | none => none
 else none) := rfl
def fieldsR (o : Option (List VT)) : AV := match o with
 | some l => .tup [.sl (VT.css l) .none, .bool true]
 | none => .tup [.sl [] .none, .bool false]
theorem mem_take_succ' {α : Type} {l : List α} {i : Nat} (h : i < l.length) {p : α → Prop} (h1 : ∀ x ∈ l.take i, p x) (h2 : p l[i]) : ∀ x ∈ l.take (i + 1), p x := by
 rw [List.take_succ_eq_append_getElem h]
 intro x hx
 rcases List.mem_append.1 hx with hx | hx
 ·exact h1 x hx
 ·simp at hx; subst hx; exact h2
theorem vt3' (v : VT) : ∃ a b c, v.cs = [a, b, c] ∧ a.known = true ∧ b.known = true ∧ c.known = true := by
 obtain ⟨k, n, ks⟩ := v; exact ⟨_, _, _, rfl, rfl, rfl, rfl⟩
theorem zq96_spec (data : List Dat) (hdl : data.length ≤ 1000000) (hda : ∀ d ∈ data, ∀ c ∈ d.cons, c.args.length ≤ 1000 ∧ ∀ x ∈ c.args, x.nodes ≤ 1000) (hdc : ∀ d ∈ data, d.cons.length ≤ 1000000) (t : VT) (ht : t.nodes ≤ 1000) (c : Int) (H : Heap) (K : AV → Heap → Prop) (hK : K (fieldsR (fields data t c)) H) :
  ACalls Tryz.prog n_zq96 [.sl (data.map Dat.cs) .none, .agg t.cs, .int .i64 c] H K := by
 refine ACalls.out (zq96_ok fun hs => ?_)
 obtain ⟨k, n, ks⟩ := t
 have hkn : VT.nodesL ks + 1 ≤ 1000 := by simpa [VT.nodes] using ht
 have hkl := VT.len_le ks
 have hF : fields data (.mk k n ks) c = none → ∀ J, Out H.length K (.tup [.snil, .bool false]) (H ++ J) := fun h J => by
  rw [h] at hK
  exact Out.tup hs hK ⟨snilV, keepV rfl rfl, trivial⟩
 have hFF : ∀ J, fields data (.mk k n ks) c = none → Out H.length K (.tup [.snil, .bool false]) (H ++ J) := fun J h => hF h J
 simp only [VT.cs, zq96]
 by_cases h5 : k = 5
 case neg =>
  have : (k != 5) = true := by simpa using h5
  simp [this, AV.isV]
  exact hF (by rw [fields_mk, if_neg (fun h => h5 h.1)]) _
 subst h5
 by_cases h0 : n < 0
 ·simp [h0, AV.isV]
  exact hF (by rw [fields_mk, if_neg (fun h => by have := h.2.1; omega)]) _
 by_cases h1 : (data.length : Int) ≤ n
 ·simp [h0, h1, AV.isV]
  exact hF (by
   rw [fields_mk]
   split
   ·rw [List.getElem?_eq_none (by omega)]
   ·rfl) _
 have hn : n.toNat < data.length := by omega
 have h1' : n < data.length := by omega
 have h0' : 0 ≤ n := by omega
 generalize hdd : data[n.toNat] = d at *
 have hd : d ∈ data := by rw [← hdd]; exact List.getElem_mem hn
 have hget : data[n.toNat]? = some d := by rw [List.getElem?_eq_getElem hn, hdd]
 cases hv : ((ks.length : Int) == d.vars) with
 | false =>
  have hv' : ((ks.length : Int) != d.vars) = true := by simp [bne, hv]
  simp [h0, h1, h0', h1', hn, hdd, Dat.cs, hv', AV.isV, hget]
  exact hF (by
   rw [fields_mk]
   split
   ·rw [hget]
    simp only
    rw [if_neg (by simpa using hv)]
   ·rfl) _
 | true =>
 have hv' : ((ks.length : Int) != d.vars) = false := by simp [bne, hv]
 have hve : (ks.length : Int) = d.vars := by simpa using hv
 by_cases hc0 : c < 0
 ·simp [h0, h1, h0', h1', hn, hdd, Dat.cs, hv', AV.isV, hget, hc0]
  exact hF (by rw [fields_mk, if_neg (fun h => by have := h.2.2; omega)]) _
 have hfe : ∀ o, (match d.cons[c.toNat]? with | some k => if (k.args.map (subst ks)).all (fun x => decide (x.nodes ≤ 200)) = true then some (k.args.map (subst ks)) else none | none => none) = o → fields data (.mk 5 n ks) c = o := fun o h => by
  rw [fields_mk, if_pos ⟨rfl, h0', by omega⟩, hget]
  simp only
  rw [if_pos hve]
  exact h
 by_cases hc1 : (d.cons.length : Int) ≤ c
 ·simp [h0, h1, h0', h1', hn, hdd, Dat.cs, hv', AV.isV, hget, hc0, hc1]
  exact hF (hfe none (by rw [List.getElem?_eq_none (by omega)])) _
 have hcn : c.toNat < d.cons.length := by omega
 have hc1' : c < d.cons.length := by omega
 have hc0' : 0 ≤ c := by omega
 generalize hcc : d.cons[c.toNat] = co at *
 have hco : co ∈ d.cons := by rw [← hcc]; exact List.getElem_mem hcn
 have hgc : d.cons[c.toNat]? = some co := by rw [List.getElem?_eq_getElem hcn, hcc]
 obtain ⟨hal, han⟩ := hda d hd co hco
 have hfe' := fun o => hfe o
 rw [hgc] at hfe'
 simp only at hfe'
 have hsub : ∀ x ∈ co.args, (subst ks x).nodes ≤ 1000000 := fun x hx => by
  have h2 := subst_le (M := 1000) (by omega) (fun y hy => Nat.le_trans (kids_le (k := 5) (n := n) y hy) ht) x
  have h3 := han x hx
  have : x.nodes * 1000 ≤ 1000 * 1000 := Nat.mul_le_mul_right _ h3
  omega
 simp [h0, h1, h0', h1', hn, hdd, Dat.cs, hv', AV.isV, hget, hc0, hc1, hc0', hc1', hcn, hcc, Con.cs, hgc]
 have hperm : ∀ m, HSc (H ++ [.cells [.int .i64 5, .int .i64 n, .sl (VT.css ks) .none], .perm e_api_Type 3 m]) := fun m => hs.append rfl
 unfold zq96_l5
 refine ALoop.own 8 e_api_Type 3 rfl ?_
 have hlen1 : (H ++ [AB.cells [.int .i64 5, .int .i64 n, .sl (VT.css ks) .none]]).length = H.length + 1 := by simp
 rw [hlen1, List.append_assoc]
 show zq96_l5 (.ptr H.length 0) (.sl [] (.own (H.length + 1))) (.sl (VT.css co.args) .none) (.int .i64 co.args.length) (.int .i64 0) (H ++ [.cells [.int .i64 5, .int .i64 n, .sl (VT.css ks) .none], .perm e_api_Type 3 0]) (Out H.length K)
 refine zq96_loop5 (Inv := fun q t8 t65 H' => ∃ i : Nat, i ≤ co.args.length ∧ q = co.args.length - i ∧ t65 = .int .i64 i ∧ t8 = .sl (VT.css ((co.args.map (subst ks)).take i)) (.own (H.length + 1)) ∧ (∀ x ∈ co.args.take i, (subst ks x).nodes ≤ 200) ∧ H' = H ++ [.cells [.int .i64 5, .int .i64 n, .sl (VT.css ks) .none], .perm e_api_Type 3 i]) co.args.length ?_ ?_
 ·intro _; exact ⟨0, by omega, by omega, rfl, by simp [VT.css], by simp, rfl⟩
 ·rintro q t8 t65 H' ⟨i, hi, rfl, rfl, rfl, hall, rfl⟩ hsc hlen hsF Kb hKb
  by_cases hlt : i < co.args.length
  ·have hmem := List.getElem_mem hlt
   have hx3 := hsub _ hmem
   obtain ⟨x, y, z, hvx, hx, hy, hz⟩ := vt3' co.args[i]
   simp [zq96_b5, hlt, hvx, hx, hy, hz]
   rw [← hvx]
   refine zq161_spec ks (fun y hy => by have := kids_le (k := 5) (n := n) y hy; omega) (by omega) _ co.args[i] (Nat.le_refl _) (by have := han _ hmem; omega) _ _ ?_
   obtain ⟨x', y', z', hvx', hx', hy', hz'⟩ := vt3' (subst ks co.args[i])
   simp [hvx', hx', hy', hz']
   rw [← hvx']
   refine zq93_spec _ _ (Nat.le_refl _) (by omega) _ _ ?_
   by_cases h200 : (subst ks co.args[i]).nodes ≤ 200
   ·have h200' : ¬ (200 : Int) < (subst ks co.args[i]).nodes := by omega
    simp [h200']
    rw [buildS_vt]
    simp [aAppend, aSrc, aAppTo]
    refine ⟨by omega, by omega, ?_⟩
    rw [wrap_in (by omega) (by omega), show min i co.args.length = i by omega]
    refine hKb _ _ ⟨co.args.length - (i + 1), by omega, Back.at (H2 := H ++ [.cells [.int .i64 5, .int .i64 n, .sl (VT.css ks) .none], .perm e_api_Type 3 (i + 1)]) (J := [_, _]) (by simp; exact ⟨rfl, rfl⟩) (by simp) (hperm _) ?_ ⟨_, _, rfl, i + 1, by omega, rfl, by simp, ?_, mem_take_succ' hlt hall h200, rfl⟩⟩
    ·simp [zq96_fr5, AV.sc, AV.scV, AV.scA, AV.scB]
    ·rw [css_take_succ (by simpa using hlt)]; simp
   ·have h200' : (200 : Int) < (subst ks co.args[i]).nodes := by omega
    simp [h200', AV.isV]
    refine hF (hfe' none ?_) _
    rw [if_neg]
    intro hal2
    have := List.all_eq_true.1 hal2 (subst ks co.args[i]) (List.mem_map.2 ⟨_, hmem, rfl⟩)
    exact h200 (of_decide_eq_true this)
  ·obtain rfl : i = co.args.length := by omega
   rw [List.take_length] at hall
   rw [List.take_of_length_le (by simp)]
   simp [zq96_b5, AV.isV]
   have hfs := hfe' (some (co.args.map (subst ks))) (if_pos (List.all_eq_true.2 fun y hy => by
    obtain ⟨x, hx, rfl⟩ := List.mem_map.1 hy
    exact decide_eq_true (hall x hx)))
   rw [hfs] at hK
   exact Out.tup hs hK ⟨slV, keepV rfl rfl, trivial⟩
theorem zq157_spec : ∀ (m : Nat) (v : VT), v.nodes ≤ m → v.nodes ≤ 1000000000 → ∀ (H : Heap) (K : AV → Heap → Prop), K (.int .i64 v.nodes) H → ACalls Tryz.prog n_zq157 [.agg v.cs] H K := by
 intro m
 induction m with
 | zero => intro v h; have := v.nodes_pos; omega
 | succ m ih =>
  intro v hv hb H K hK
  obtain ⟨k, n, ks⟩ := v
  have hnl : VT.nodesL ks + 1 ≤ 1000000000 := by simpa [VT.nodes] using hb
  have hll := VT.len_le ks
  refine ACalls.out (zq157_ok fun hs => ?_)
  simp [VT.cs, zq157]
  refine zq157_loop3 (Inv := fun q t3 t4 H' => ∃ i : Nat, i ≤ ks.length ∧ q = ks.length - i ∧ t4 = .int .i64 i ∧ t3 = .int .i64 (1 + VT.nodesL (ks.take i) : Nat) ∧ H' = H ++ [.cells [.int .i64 k, .int .i64 n, .sl (VT.css ks) .none]]) ks.length ?_ ?_
  ·intro _; exact ⟨0, by omega, by omega, rfl, by simp [VT.nodesL], rfl⟩
  ·rintro q t3 t4 H' ⟨i, hi, rfl, rfl, rfl, rfl⟩ hsc hlen hsF Kb hKb
   by_cases hlt : i < ks.length
   ·have hki := VT.kid_lt (k := k) (n := n) hlt
    have h1 := VT.nodesL_take hlt
    have h2 := VT.nodesL_take_le ks (i + 1)
    obtain ⟨x, y, z, hvx, hx, hy, hz⟩ := vt3' ks[i]
    simp [zq157_b3, hlt, hvx, hx, hy, hz]
    rw [← hvx]
    refine ih ks[i] (by omega) (by omega) _ _ ?_
    simp
    rw [wrap_in (by omega) (by omega), wrap_in (by omega) (by omega), two']
    refine hKb _ _ ⟨ks.length - (i + 1), by omega, Back.same (by simp) hsc ?_ ⟨_, _, rfl, i + 1, by omega, rfl, by simp, ?_, rfl⟩⟩
    ·simp [zq157_fr3, AV.sc, AV.scV, AV.scA, AV.scB]
    ·rw [h1]; congr 1; omega
   ·obtain rfl : i = ks.length := by omega
    simp [zq157_b3]
    refine Out.int rfl (Nat.le_refl _) hs ?_
    simpa [VT.nodes, Int.add_comm] using hK
def eqBy (f : VT → VT → Bool) : List VT → List VT → Bool
 | [], [] => true
 | a :: x, b :: y => f a b && eqBy f x y
 | _, _ => false
theorem eqBy_len {f : VT → VT → Bool} : ∀ {x y : List VT}, x.length ≠ y.length → eqBy f x y = false
 | [], [], h => (h rfl).elim
 | a :: x, b :: y, h => by
  have : x.length ≠ y.length := fun e => h (by simp [e])
  simp [eqBy, eqBy_len this]
 | [], _ :: _, _ => rfl
 | _ :: _, [], _ => rfl
theorem indexFunc_spec (x : List VT) (hl : x.length ≤ 1000000000) (fv : AV) (H : Heap) (K : AV → Heap → Prop) (hfv : fv.sc H.length = true) (Inv : Nat → Heap → Prop) (h0 : Inv 0 H)
  (step : ∀ (i : Nat) (h : i < x.length) (H' : Heap), H.length ≤ H'.length → Inv i H' → aCallV Tryz.prog fv [.agg (x[i]).cs] H' fun r H'' => (r = .bool false ∧ Inv (i + 1) H'') ∨ (r = .bool true ∧ K (.int .i64 i) H''))
  (fin : ∀ H', Inv x.length H' → K (.int .i64 (-1)) H') : ACalls Tryz.prog n_zq186 [.sl (VT.css x) .none, fv] H K := by
 refine zq186_ok fun hs => ?_
 simp [zq186]
 refine zq186_loop2 (Inv := fun q t8 H' => ∃ i : Nat, i ≤ x.length ∧ q = x.length - i ∧ t8 = .int .i64 i ∧ H.length ≤ H'.length ∧ Inv i H') x.length ?_ ?_
 ·intro _; exact ⟨0, by omega, by omega, rfl, Nat.le_refl _, h0⟩
 ·rintro q t8 H' ⟨i, hi, rfl, rfl, hle, hI⟩ hsc hlen hsF Kb hKb
  by_cases hlt : i < x.length
  ·simp [zq186_b2, hlt]
   refine (step i hlt H' hle hI).mono' fun r H'' hsc' hle' hr => ?_
   rcases hr with ⟨rfl, hI'⟩ | ⟨rfl, hk⟩
   ·simp
    rw [wrap_in (by omega) (by omega)]
    refine hKb _ _ ⟨x.length - (i + 1), by omega, Back.here (by omega) hsc' ?_ ⟨_, rfl, i + 1, by omega, rfl, by simp, by omega, hI'⟩⟩
    simp [zq186_fr2, AV.sc, AV.scV, AV.scA, AV.scB]
    exact sc_mono (by omega) hfv
   ·simpa using hk
  ·obtain rfl : i = x.length := by omega
   simp [zq186_b2]
   exact fin H' hI
theorem containsFunc_spec (x : List VT) (hl : x.length ≤ 1000000000) (fv : AV) (H : Heap) (K : AV → Heap → Prop) (hfv : fv.sc H.length = true) (Inv : Nat → Heap → Prop) (h0 : Inv 0 H)
  (step : ∀ (i : Nat) (h : i < x.length) (H' : Heap), H.length ≤ H'.length → Inv i H' → aCallV Tryz.prog fv [.agg (x[i]).cs] H' fun r H'' => (r = .bool false ∧ Inv (i + 1) H'') ∨ (r = .bool true ∧ K (.bool true) H''))
  (fin : ∀ H', Inv x.length H' → K (.bool false) H') : ACalls Tryz.prog n_zq144 [.sl (VT.css x) .none, fv] H K := by
 refine zq144_ok fun hs => ?_
 unfold zq144
 refine indexFunc_spec x hl fv H _ hfv Inv h0 (fun i h H' hle hI => (step i h H' hle hI).mono' fun r H'' _ _ hr => ?_) (fun H' hI => ?_)
 ·rcases hr with hr | ⟨h1, h2⟩
  ·exact .inl hr
  ·refine .inr ⟨h1, ?_⟩
   have : decide ((0 : Int) ≤ i) = true := by simp
   simpa using h2
 ·simpa using fin H' hI
theorem callValid1 : callable Tryz.prog n_zq196 = true := by kernel_rfl
section
variable (data : List Dat) (vars : Int)
theorem tyOkL_at : ∀ (l : List VT) (i : Nat) (h : i < l.length), tyOkL data vars l = true → tyOk data vars l[i] = true := by
 intro l
 induction l with
 | nil => intro i h; simp at h
 | cons a l ih =>
  intro i h hl
  simp [tyOkL] at hl
  cases i with
  | zero => exact hl.1
  | succ i => exact ih i (by simpa using h) hl.2
def vcell (left : Int) : AB := .cells [.sl (data.map Dat.cs) .none, .int .i64 vars, .int .i64 left]
theorem vvalid_spec : ∀ (m : Nat) (v : VT), v.nodes ≤ m → v.nodes ≤ 1000000000 → ∀ (left : Int), left ≤ 1000000 → -1 ≤ left → ∀ (H : Heap) (id : Nat), H[id]? = some (vcell data vars left) → ∀ (K : AV → Heap → Prop),
  (tyOk data vars v = true → (v.nodes : Int) ≤ left → K (.bool true) (H.set id (vcell data vars (left - v.nodes)))) → (¬ (tyOk data vars v = true ∧ (v.nodes : Int) ≤ left) → ∀ l', K (.bool false) (H.set id (vcell data vars l'))) →
  ACalls Tryz.prog n_zq153 [.ptr id 0, .agg v.cs] H K := by
 intro m
 induction m with
 | zero => intro v h; have := v.nodes_pos; omega
 | succ m ih =>
  intro v hv hb left hl1 hl0 H id hid K hK hF
  obtain ⟨k, n, ks⟩ := v
  have hlt := lt_get hid
  have hnn : (VT.mk k n ks).nodes = VT.nodesL ks + 1 := by simp [VT.nodes]
  have hll := VT.len_le ks
  refine ACalls.out (zq153_ok fun hs => ?_)
  -- the heap within: the receiver's copy and the type's
  generalize hJ : ([.cells [.ptr id 0], .cells [.int .i64 k, .int .i64 n, .sl (VT.css ks) .none]] : Heap) = J
  have hJ0 : J[0]? = some (.cells [.ptr id 0]) := by subst hJ; rfl
  have hJ1 : J[1]? = some (.cells [.int .i64 k, .int .i64 n, .sl (VT.css ks) .none]) := by subst hJ; rfl
  have hget : ∀ l', (H.set id (vcell data vars l') ++ J)[id]? = some (vcell data vars l') := fun l' => app_get (set_get _ hid)
  have bad : (¬ (tyOk data vars (.mk k n ks) = true ∧ ((VT.mk k n ks).nodes : Int) ≤ left)) → ∀ l', Out H.length K (.bool false) (H.set id (vcell data vars l') ++ J) := fun h l' =>
   Out.bool rfl (by simp) (hs.set rfl) (hF h l')
  have badS : shapeOk data vars k n ks.length = false → ∀ l', Out H.length K (.bool false) (H.set id (vcell data vars l') ++ J) := fun h l' => bad (fun ⟨h1, _⟩ => by simp [tyOk, h] at h1) l'
  -- the arguments
  have args : shapeOk data vars k n ks.length = true → 1 ≤ left → ∀ KK : AV → Heap → Prop, (∀ H', Out H.length K (.bool true) H' → KK (.bool false) H') → (∀ H', Out H.length K (.bool false) H' → KK (.bool true) H') →
    ACalls Tryz.prog n_zq144 [.sl (VT.css ks) .none, .fn n_zq196 [.ptr H.length 0]] (H.set id (vcell data vars (left - 1)) ++ J) KK := by
   intro hsh h1 KK hKf hKt
   subst hJ
   refine containsFunc_spec ks (by omega) _ _ _ (by simp [AV.sc, AV.scV, AV.scA, AV.scB]) (fun i H' => (VT.nodesL (ks.take i) : Int) + 1 ≤ left ∧ tyOkL data vars (ks.take i) = true ∧ H' = H.set id (vcell data vars (left - 1 - VT.nodesL (ks.take i))) ++ [.cells [.ptr id 0], .cells [.int .i64 k, .int .i64 n, .sl (VT.css ks) .none]]) ⟨by simp [VT.nodesL]; omega, by simp [tyOkL], by simp [VT.nodesL]⟩ ?_ ?_
   ·rintro i hi H' hle ⟨hb1, hb2, rfl⟩
    have hki := VT.kid_lt (k := k) (n := n) hi
    have h1 := VT.nodesL_take hi
    have h2 := VT.nodesL_take_le ks (i + 1)
    have hokL : tyOkL data vars (ks.take (i + 1)) = (tyOkL data vars (ks.take i) && tyOk data vars ks[i]) := by
     rw [List.take_succ_eq_append_getElem hi]
     have : ∀ (l : List VT) (x : VT), tyOkL data vars (l ++ [x]) = (tyOkL data vars l && tyOk data vars x) := by
      intro l x
      induction l with
      | nil => simp [tyOkL]
      | cons a l ih => simp [tyOkL, ih, Bool.and_assoc]
     exact this _ _
    simp only [aCallV, callValid1, List.singleton_append]
    refine ACalls.out (zq196_ok fun hs1 => ?_)
    have hH1 : ∀ l', HSc (H.set id (vcell data vars l') ++ [.cells [.ptr id 0], .cells [.int .i64 k, .int .i64 n, .sl (VT.css ks) .none]]) := fun l' => (hs.set rfl).append (by simp [AB.sc, AV.scA, AV.scB]; omega)
    obtain ⟨x1, x2, x3, hvx, hx1, hx2, hx3⟩ := vt3' ks[i]
    have hll2 : (H.set id (vcell data vars (left - 1 - VT.nodesL (ks.take i)))).length = H.length := by simp
    have hg1 : (H.set id (vcell data vars (left - 1 - VT.nodesL (ks.take i))) ++ [AB.cells [.ptr id 0], .cells [.int .i64 k, .int .i64 n, .sl (VT.css ks) .none], .cells [x1, x2, x3]])[H.length]? = some (.cells [.ptr id 0]) := by
     rw [List.getElem?_append_right (by simp)]; simp
    have hg2 : (H.set id (vcell data vars (left - 1 - VT.nodesL (ks.take i))) ++ [AB.cells [.ptr id 0], .cells [.int .i64 k, .int .i64 n, .sl (VT.css ks) .none], .cells [x1, x2, x3]])[H.length + 2]? = some (.cells [x1, x2, x3]) := by
     rw [List.getElem?_append_right (by simp)]; simp
    simp [zq196, hvx, hg1, hg2, hll2]
    rw [← hvx]
    refine ih ks[i] (by omega) (by omega) (left - 1 - VT.nodesL (ks.take i)) (by omega) (by omega) _ id (app_get (set_get _ hid)) _ ?_ ?_
    ·intro ho hle2
     rw [app_set _ (set_get _ hid), List.set_set, show left - 1 - (VT.nodesL (ks.take i) : Int) - (ks[i]).nodes = left - 1 - VT.nodesL (ks.take (i + 1)) by omega]
     simp
     refine Out.bool (J := [_]) (H2 := H.set id (vcell data vars (left - 1 - VT.nodesL (ks.take (i + 1)))) ++ [.cells [.ptr id 0], .cells [.int .i64 k, .int .i64 n, .sl (VT.css ks) .none]]) (by simp; rfl) (by simp) (hH1 _) (.inl ⟨rfl, by omega, by rw [hokL, hb2, ho]; rfl, rfl⟩)
    ·intro ho l'
     rw [app_set _ (set_get _ hid), List.set_set]
     simp
     have hno : ¬ (tyOk data vars (.mk k n ks) = true ∧ ((VT.mk k n ks).nodes : Int) ≤ left) := by
      rintro ⟨g1, g2⟩
      have hall : tyOkL data vars ks = true := by simp [tyOk] at g1; exact g1.2
      exact ho ⟨tyOkL_at data vars ks i hi hall, by omega⟩
     have hb3 := bad hno l'
     exact Out.bool (J := [_]) (H2 := H.set id (vcell data vars l') ++ [.cells [.ptr id 0], .cells [.int .i64 k, .int .i64 n, .sl (VT.css ks) .none]]) (by simp; rfl) (by simp) (hH1 _) (.inr ⟨rfl, hKt _ hb3⟩)
   ·rintro H' ⟨hb1, hb2, rfl⟩
    rw [List.take_length] at *
    refine hKf _ ?_
    refine Out.bool rfl (by simp) (hs.set rfl) ?_
    have := hK (by simp [tyOk, hsh, hb2]) (by omega)
    rw [hnn] at this
    rw [show left - 1 - (VT.nodesL ks : Int) = left - ((VT.nodesL ks + 1 : Nat) : Int) by omega]
    exact this
  -- behind the shape
  have fin : ∀ lo hi : Int, (k ≠ 4 → k ≠ 5 → n ≠ 0 → shapeOk data vars k n ks.length = false) → ((ks.length : Int) < lo ∨ hi < (ks.length : Int) → shapeOk data vars k n ks.length = false) → 1 ≤ left →
    ((k = 4 ∨ k = 5 ∨ n = 0) → lo ≤ (ks.length : Int) → (ks.length : Int) ≤ hi → shapeOk data vars k n ks.length = true) →
    zq153_j5 (.ptr H.length 0) (.ptr (H.length + 1) 0) (.int .i64 lo) (.int .i64 hi) (H.set id (vcell data vars (left - 1)) ++ J) (Out H.length K) := by
   intro lo hi hz hr h1 hok
   have hg3 : (H.set id (vcell data vars (left - 1)) ++ J)[H.length + 1]? = some (.cells [.int .i64 k, .int .i64 n, .sl (VT.css ks) .none]) := by
    rw [List.getElem?_append_right (by simp)]; subst hJ; simp
   by_cases hcase : k = 4 ∨ k = 5 ∨ n = 0
   ·have h3 : (k != 4) = false ∨ ((k != 4) = true ∧ (k != 5) = false) ∨ ((k != 4) = true ∧ (k != 5) = true ∧ (n != 0) = false) := by
     by_cases g4 : k = 4
     ·left; simp [g4]
     ·by_cases g5 : k = 5
      ·right; left; simp [g5]
      ·right; right; simp [g4, g5]; omega
    rcases h3 with g | ⟨g, g'⟩ | ⟨g, g', g''⟩
    case' inl => simp [zq153_j5, hg3, hJ1, g]
    case' inr.inl => simp [zq153_j5, hg3, hJ1, g, g']
    case' inr.inr => simp [zq153_j5, hg3, hJ1, g, g', g'']
    all_goals
     by_cases hlo : (ks.length : Int) < lo
     ·simp [hlo]
      exact badS (hr (.inl hlo)) _
     ·by_cases hhi : hi < (ks.length : Int)
      ·simp [hlo, hhi, hJ1]
       exact badS (hr (.inr hhi)) _
      ·simp [hlo, hhi, AV.isB, hJ1]
       refine args (hok hcase (by omega) (by omega)) h1 _ (fun H' ho => ?_) (fun H' ho => ?_) <;> simpa using ho
   ·have g : (k != 4) = true := by simp; omega
    have g' : (k != 5) = true := by simp; omega
    have g'' : (n != 0) = true := by simp; omega
    simp [zq153_j5, hg3, hJ1, g, g', g'']
    exact badS (hz (by omega) (by omega) (by omega)) _
  have start : (H ++ J)[id]? = some (vcell data vars left) := app_get hid
  have hmain : zq153_j1 (.ptr H.length 0) (.ptr (H.length + 1) 0) (H.set id (vcell data vars (left - 1)) ++ J) (Out H.length K) := by
   refine zq153_j1_ok fun hs1 => ?_
   have hgv := hget (left - 1)
   unfold vcell at hgv
   by_cases h0 : left - 1 < 0
   ·simp [zq153_j1b, hJ0, vcell, hgv, h0]
    exact bad (fun h => by have := h.2; rw [hnn] at this; omega) _
   have h1 : 1 ≤ left := by omega
   simp [zq153_j1b, hJ0, hJ1, vcell, hgv, h0]
   refine zq153_j2_ok fun _ => ?_
   have hfin := fun lo hi a b c => fin lo hi a b h1 c
   unfold vcell at hfin badS
   -- the three without arguments
   by_cases h123 : k = 1 ∨ k = 2 ∨ k = 3
   ·have hsh : shapeOk data vars k n ks.length = (n == 0 && ks.length == 0) := by rcases h123 with rfl | rfl | rfl <;> rfl
    have := hfin 0 0 (fun _ _ hn => by rw [hsh]; simp [hn]) (fun h => by rw [hsh]; simp; intro _; rintro rfl; simp at h) (fun h h2 h3 => by
     have hn : n = 0 := by omega
     have hl : ks.length = 0 := by omega
     rw [hsh, hn, hl]; rfl)
    rcases h123 with rfl | rfl | rfl <;> simp [zq153_j2b] <;> refine zq153_j3_ok fun _ => ?_ <;> simp [zq153_j3b, zq153_j4] <;> exact this
   have b1 : (k == 1) = false := by simp; omega
   have b2 : (k == 2) = false := by simp; omega
   have b3 : (k == 3) = false := by simp; omega
   simp [zq153_j2b, b1, b2, b3]
   refine zq153_j3_ok fun _ => ?_
   by_cases h4 : k = 4
   ·subst h4
    have hsh : shapeOk data vars 4 n ks.length = (decide (0 ≤ n) && decide (n < vars) && ks.length == 0) := rfl
    by_cases g1 : n < 0
    ·simp [zq153_j3b, hJ0, hJ1, hgv, g1]
     exact badS (by rw [hsh]; simp; omega) _
    by_cases g2 : vars ≤ n
    ·simp [zq153_j3b, hJ0, hJ1, hgv, g1, g2]
     exact badS (by rw [hsh]; simp; omega) _
    have := hfin 0 0 (fun h => (h rfl).elim) (fun h => by rw [hsh]; simp; intro _ _; rintro rfl; simp at h) (fun h h2 h3 => by
     have hl : ks.length = 0 := by omega
     rw [hsh, hl]; simp; omega)
    simp [zq153_j3b, hJ0, hJ1, hgv, g1, g2, zq153_j4]
    exact this
   have b4 : (k == 4) = false := by simp; omega
   by_cases h5 : k = 5
   ·subst h5
    have hsh : shapeOk data vars 5 n ks.length = (decide (0 ≤ n) && (match data[n.toNat]? with | some d => (ks.length : Int) == d.vars | none => false)) := rfl
    by_cases g1 : n < 0
    ·simp [zq153_j3b, hJ0, hJ1, hgv, g1]
     exact badS (by rw [hsh]; simp; omega) _
    by_cases g2 : (data.length : Int) ≤ n
    ·simp [zq153_j3b, hJ0, hJ1, hgv, g1, g2]
     exact badS (by rw [hsh, List.getElem?_eq_none (by omega)]; simp) _
    have hnl : n.toNat < data.length := by omega
    have g2' : n < data.length := by omega
    have g1' : 0 ≤ n := by omega
    rw [List.getElem?_eq_getElem hnl] at hsh
    simp only [g1', decide_true, Bool.true_and] at hsh
    have := hfin (data[n.toNat]).vars (data[n.toNat]).vars (fun _ h => (h rfl).elim) (fun h => by rw [hsh]; simp; omega) (fun h h2 h3 => by rw [hsh]; simp; omega)
    simp [zq153_j3b, hJ0, hJ1, hgv, g1, g2, g1', g2', hnl, Dat.cs, zq153_j4]
    exact this
   have b5 : (k == 5) = false := by simp; omega
   by_cases h6 : k = 6
   ·subst h6
    have hsh : shapeOk data vars 6 n ks.length = (n == 0 && decide (2 ≤ ks.length) && decide (ks.length ≤ 6)) := rfl
    have := hfin 2 6 (fun _ _ hn => by rw [hsh]; simp [hn]) (fun h => by rw [hsh]; simp; intros; omega) (fun h h2 h3 => by rw [hsh]; simp; omega)
    simp [zq153_j3b, zq153_j4]
    exact this
   have b6 : (k == 6) = false := by simp; omega
   by_cases h78 : k = 7 ∨ k = 8
   ·have hsh : shapeOk data vars k n ks.length = (n == 0 && ks.length == 1) := by rcases h78 with rfl | rfl <;> rfl
    have := hfin 1 1 (fun _ _ hn => by rw [hsh]; simp [hn]) (fun h => by rw [hsh]; simp; intros; omega) (fun h h2 h3 => by rw [hsh]; simp; omega)
    rcases h78 with rfl | rfl <;> simp [zq153_j3b] <;> refine zq153_j6_ok fun _ => ?_ <;> simp [zq153_j6b, zq153_j4] <;> exact this
   have b7 : (k == 7) = false := by simp; omega
   have b8 : (k == 8) = false := by simp; omega
   simp [zq153_j3b, b4, b5, b6, b7, b8]
   refine zq153_j6_ok fun _ => ?_
   by_cases h9 : k = 9
   ·subst h9
    have hsh : shapeOk data vars 9 n ks.length = (n == 0 && decide (1 ≤ ks.length) && decide (ks.length ≤ 7)) := rfl
    have := hfin 1 7 (fun _ _ hn => by rw [hsh]; simp [hn]) (fun h => by rw [hsh]; simp; intros; omega) (fun h h2 h3 => by rw [hsh]; simp; omega)
    simp [zq153_j6b, zq153_j4]
    exact this
   ·have b9 : (k == 9) = false := by simp; omega
    simp [zq153_j6b, b9]
    exact badS (by unfold shapeOk; simp [b1, b2, b3, b4, b5, b6, b7, b8, b9]) _
  subst hJ
  unfold vcell at start
  simp [zq153, VT.cs, start]
  rw [wrap_in (by omega) (by omega), app_set _ hid]
  exact hmain
theorem zq85_spec (v : VT) (hb : v.nodes ≤ 1000000000) (H : Heap) (K : AV → Heap → Prop) (hK : K (.bool (tyValid data vars v)) H) : ACalls Tryz.prog n_zq85 [.sl (data.map Dat.cs) .none, .agg v.cs, .int .i64 vars] H K := by
 refine ACalls.out (zq85_ok fun hs => ?_)
 have hO : ∀ J, Out H.length K (.bool (tyValid data vars v)) (H ++ J) := fun J => Out.bool rfl (Nat.le_refl _) hs hK
 obtain ⟨x1, x2, x3, hvx, hx1, hx2, hx3⟩ := vt3' v
 simp [zq85, hvx, aBuild, fillA]
 rw [← hvx]
 refine vvalid_spec data vars _ v (Nat.le_refl _) hb 200 (by omega) (by omega) _ (H.length + 1) (by simp [vcell]) _ ?_ ?_
 ·intro ho hn
  have : tyValid data vars v = true := by simp [tyValid, ho]; omega
  rw [this] at hO
  simp
  exact hO _
 ·intro hno l'
  have : tyValid data vars v = false := by
   cases h : tyValid data vars v with
   | false => rfl
   | true => simp [tyValid] at h; exact (hno ⟨h.2, by omega⟩).elim
  rw [this] at hO
  simp
  exact hO _
end
mutual
theorem subst_nil : ∀ v : VT, subst [] v = v
 | .mk k n ks => by
  rw [subst, if_neg (by rintro ⟨_, h1, h2⟩; simp at h2; omega), substL_nil ks]
theorem substL_nil : ∀ l : List VT, substL [] l = l
 | [] => rfl
 | t :: ts => by rw [substL, subst_nil t, substL_nil ts]
end
theorem zq159_spec : ∀ (m : Nat) (args : List VT), (∀ x ∈ args, x.nodes ≤ 1000000) → args.length ≤ 1000000 → ∀ (v : VT), (if args = [] then v.nodes else v.nodes + 1000001) ≤ m → v.nodes ≤ 1000000 → ∀ (H : Heap) (K : AV → Heap → Prop), K (.agg (subst args v).cs) H → ACalls Tryz.prog n_zq159 [.agg v.cs, .sl (VT.css args) .none] H K := by
 intro m
 induction m with
 | zero => intro args _ _ v h; have := v.nodes_pos; split at h <;> omega
 | succ m ih =>
  intro args ha hal v hv hb H K hK
  obtain ⟨k, n, ks⟩ := v
  have hnl : VT.nodesL ks + 1 ≤ 1000000 := by simpa [VT.nodes] using hb
  have hll := VT.len_le ks
  refine ACalls.out (zq159_ok fun hs => ?_)
  by_cases hvar : k = 4 ∧ 0 ≤ n ∧ n < args.length
  ·obtain ⟨rfl, h0, h1⟩ := hvar
   have hn : n.toNat < args.length := by omega
   have hne : args ≠ [] := by rintro rfl; simp at hn
   have hK' : K (.agg (args[n.toNat]).cs) H := by
    rw [subst, if_pos ⟨rfl, h0, h1⟩, List.getElem?_eq_getElem hn] at hK
    exact hK
   have hle := ha _ (List.getElem_mem hn)
   simp [VT.cs, zq159, h0, h1, hn]
   rw [if_neg hne] at hv
   refine ACalls.wk (args' := [.agg (args[n.toNat]).cs, .sl (VT.css []) .none]) ?_ ⟨.rfl', .atom .snil, trivial⟩
   refine ih [] (by simp) (by simp) _ (by simp; omega) hle _ _ ?_
   rw [subst_nil]
   generalize args[n.toNat] = x at *
   obtain ⟨k', n', ks'⟩ := x
   simp [VT.cs]
   exact Out.at rfl (Nat.le_refl _) hs .rfl' rfl rfl hK'
  ·have hK' : K (.agg (VT.mk k n (substL args ks)).cs) H := by
    rw [subst, if_neg hvar] at hK
    exact hK
   have go : ∀ H1, H1 = H ++ [.cells [.int .i64 k, .int .i64 n, .sl (VT.css ks) .none], .cells [.int .i64 0, .int .i64 0, .snil], .cells [.int .i64 k, .int .i64 n, .snil]] → zq159_l5 (.sl (VT.css args) .none) (.ptr (H.length + 1) 0) (.ptr (H.length + 2) 0) (.sl (VT.css ks) .none) (.int .i64 ks.length) (.int .i64 0) H1 (Out H.length K) := by
    rintro _ rfl
    unfold zq159_l5
    refine ALoop.ownC (cs := [.int .i64 k, .int .i64 n, .snil]) (H.length + 2) 2 e_api_Type 3 (by simp) rfl ?_
    have e0 : (H ++ [AB.cells [.int .i64 k, .int .i64 n, .sl (VT.css ks) .none], .cells [.int .i64 0, .int .i64 0, .snil], .cells [.int .i64 k, .int .i64 n, .snil]]).length = H.length + 3 := by simp
    rw [e0, set_len_add, List.append_assoc]
    have hJ : ∀ i X, HSc (H ++ [.cells [.int .i64 k, .int .i64 n, .sl (VT.css ks) .none], .cells [.int .i64 0, .int .i64 0, .snil], .cells [.int .i64 k, .int .i64 n, .sl X (.own (H.length + 3))], .perm e_api_Type 3 i]) := fun i X => hs.append (by simp [AB.sc, AV.scA, AV.scB])
    show zq159_l5 (.sl (VT.css args) .none) (.ptr (H.length + 1) 0) (.ptr (H.length + 2) 0) (.sl (VT.css ks) .none) (.int .i64 ks.length) (.int .i64 0) (H ++ [.cells [.int .i64 k, .int .i64 n, .sl (VT.css ks) .none], .cells [.int .i64 0, .int .i64 0, .snil], .cells [.int .i64 k, .int .i64 n, .sl [] (.own (H.length + 3))], .perm e_api_Type 3 0]) (Out H.length K)
    refine zq159_loop5 (Inv := fun q t37 H' => ∃ i : Nat, i ≤ ks.length ∧ q = ks.length - i ∧ t37 = .int .i64 i ∧ H' = H ++ [.cells [.int .i64 k, .int .i64 n, .sl (VT.css ks) .none], .cells [.int .i64 0, .int .i64 0, .snil], .cells [.int .i64 k, .int .i64 n, .sl (VT.css ((substL args ks).take i)) (.own (H.length + 3))], .perm e_api_Type 3 i]) ks.length ?_ ?_
    ·intro _; exact ⟨0, by omega, by omega, rfl, by simp [VT.css]⟩
    ·rintro q t37 H' ⟨i, hi, rfl, rfl, rfl⟩ hsc hlen hsF Kb hKb
     by_cases hlt : i < ks.length
     ·have hki := VT.kid_lt (k := k) (n := n) hlt
      have hsl : (substL args ks).length = ks.length := by rw [substL_map]; simp
      have hlt' : i < (substL args ks).length := by omega
      have hsi : (substL args ks)[i] = subst args ks[i] := by simp [substL_map]
      obtain ⟨x1, x2, x3, hvx, hx1, hx2, hx3⟩ := vt3' ks[i]
      simp [zq159_b5, hlt, hvx, hx1, hx2, hx3]
      rw [← hvx]
      refine aPureX_call (.agg (subst args ks[i]).cs) (fun J => ih args ha hal ks[i] (by by_cases he : args = [] <;> simp only [he, if_true, if_false] at hv ⊢ <;> omega) (by omega) _ _ ⟨rfl, rfl⟩) ?_
      rw [buildS_vt, ← hsi]
      simp [aAppend, aSrc, aAppTo, hsl]
      refine ⟨by omega, ⟨by omega, by omega⟩, ?_⟩
      rw [wrap_in (by omega) (by omega), show min i ks.length = i by omega]
      refine hKb _ _ ⟨ks.length - (i + 1), by omega, Back.at (J := [_]) (H2 := H ++ [.cells [.int .i64 k, .int .i64 n, .sl (VT.css ks) .none], .cells [.int .i64 0, .int .i64 0, .snil], .cells [.int .i64 k, .int .i64 n, .sl (VT.css ((substL args ks).take (i + 1))) (.own (H.length + 3))], .perm e_api_Type 3 (i + 1)]) (by rw [css_take_succ hlt']; simp; rfl) (by simp) (hJ _ _) ?_ ⟨_, rfl, i + 1, by omega, rfl, by simp, rfl⟩⟩
      simp [zq159_fr5, AV.sc, AV.scV, AV.scA, AV.scB]
     ·obtain rfl : i = ks.length := by omega
      have e : (substL args ks).take ks.length = substL args ks := List.take_of_length_le (by rw [substL_map]; simp)
      rw [e]
      simp [zq159_b5]
      exact Out.at rfl (Nat.le_refl _) hs (WkV.agg (ds := [.int .i64 k, .int .i64 n, .sl (VT.css (substL args ks)) .none]) ⟨.refl _, .refl _, .sl _ _, trivial⟩) rfl (by simp [AV.scV, AV.scA, AV.scB]) (by simpa [VT.cs] using hK')
   simp only [VT.cs, zq159]
   by_cases h4 : k = 4
   ·subst h4
    by_cases h0 : 0 ≤ n
    ·have h1 : ¬ n < args.length := fun h => hvar ⟨rfl, h0, h⟩
     simp [h0, h1, aBuild, fillA, Nat.add_assoc]
     exact go _ rfl
    ·simp [h0, aBuild, fillA, Nat.add_assoc]
     exact go _ rfl
   ·have h4' : (k == 4) = false := by simpa using h4
    simp [h4', aBuild, fillA, Nat.add_assoc]
    exact go _ rfl
def sizesB (args : List VT) : AB := .cells (args.map fun x => .int .i64 x.nodes)
theorem zq158_spec (args : List VT) (ha : ∀ x ∈ args, x.nodes ≤ 1000000) (hal : args.length ≤ 1000000) : ∀ (m : Nat) (v : VT), v.nodes ≤ m → v.nodes ≤ 1000000 → ∀ (H : Heap) (id : Nat), H[id]? = some (sizesB args) → ∀ (K : AV → Heap → Prop),
  (∀ r : Nat, (r ≤ 200 ↔ (subst args v).nodes ≤ 200) → (r ≤ 200 → r = (subst args v).nodes) → r ≤ 1000000 + 200 * v.nodes → K (.int .i64 r) H) → ACalls Tryz.prog n_zq158 [.agg v.cs, .ms id 0 args.length args.length] H K := by
 intro m
 induction m with
 | zero => intro v h; have := v.nodes_pos; omega
 | succ m ih =>
  intro v hv hb H id hid K hK
  obtain ⟨k, n, ks⟩ := v
  have hnl : VT.nodesL ks + 1 ≤ 1000000 := by simpa [VT.nodes] using hb
  have hll := VT.len_le ks
  have hidl := lt_get hid
  refine ACalls.out (zq158_ok fun hs => ?_)
  by_cases hvar : k = 4 ∧ 0 ≤ n ∧ n < args.length
  ·obtain ⟨rfl, h0, h1⟩ := hvar
   have hn : n.toNat < args.length := by omega
   have hsub : subst args (.mk 4 n ks) = args[n.toNat] := by rw [subst, if_pos ⟨rfl, h0, h1⟩, List.getElem?_eq_getElem hn]; rfl
   rw [hsub] at hK
   have hg : (H ++ [AB.cells [.int .i64 4, .int .i64 n, .sl (VT.css ks) .none]])[id]? = some (sizesB args) := app_get hid
   have hle := ha _ (List.getElem_mem hn)
   unfold sizesB at hg
   simp [VT.cs, zq158, h0, h1, hn, hg, aCells]
   exact Out.int rfl (Nat.le_refl _) hs (hK _ Iff.rfl (fun _ => rfl) (by omega))
  ·have hsub : subst args (.mk k n ks) = .mk k n (substL args ks) := by rw [subst, if_neg hvar]
   have hnodes : (subst args (.mk k n ks)).nodes = VT.nodesL (substL args ks) + 1 := by rw [hsub]; rfl
   rw [hnodes] at hK
   have hO : ∀ r : Nat, (r ≤ 200 ↔ VT.nodesL (substL args ks) + 1 ≤ 200) → (r ≤ 200 → r = VT.nodesL (substL args ks) + 1) → r ≤ 1000000 + 200 * (VT.mk k n ks).nodes → ∀ J, Out H.length K (.int .i64 r) (H ++ J) := fun r h1 h2 h3 J => Out.int rfl (Nat.le_refl _) hs (hK r h1 h2 h3)
   have hsl : (substL args ks).length = ks.length := by rw [substL_map]; simp
   have go : zq158_l5 (.ms id 0 args.length args.length) (.int .i64 1) (.sl (VT.css ks) .none) (.int .i64 ks.length) (.int .i64 0) (H ++ [.cells [.int .i64 k, .int .i64 n, .sl (VT.css ks) .none]]) (Out H.length K) := by
    refine zq158_loop5 (Inv := fun q t5 t31 H' => ∃ i : Nat, i ≤ ks.length ∧ q = ks.length - i ∧ t31 = .int .i64 i ∧ t5 = .int .i64 (1 + VT.nodesL ((substL args ks).take i) : Nat) ∧ 1 + VT.nodesL ((substL args ks).take i) ≤ 200 ∧ H' = H ++ [.cells [.int .i64 k, .int .i64 n, .sl (VT.css ks) .none]]) ks.length ?_ ?_
    ·intro _; exact ⟨0, by omega, by omega, rfl, by simp [VT.nodesL], by simp [VT.nodesL], rfl⟩
    ·rintro q t5 t31 H' ⟨i, hi, rfl, rfl, rfl, hb2, rfl⟩ hsc hlen hsF Kb hKb
     by_cases hlt : i < ks.length
     ·have hki := VT.kid_lt (k := k) (n := n) hlt
      have hlt' : i < (substL args ks).length := by omega
      have hsi : (substL args ks)[i] = subst args ks[i] := by simp [substL_map]
      have h1 := VT.nodesL_take hlt'
      have h2 := VT.nodesL_take_le (substL args ks) (i + 1)
      rw [hsi] at h1
      obtain ⟨x1, x2, x3, hvx, hx1, hx2, hx3⟩ := vt3' ks[i]
      simp [zq158_b5, hlt, hvx, hx1, hx2, hx3]
      rw [← hvx]
      refine ih ks[i] (by omega) (by omega) _ id (app_get hid) _ fun r hr1 hr2 hr3 => ?_
      simp
      rw [wrap_in (by omega) (by omega)]
      by_cases hbig : (200 : Int) < 1 + VT.nodesL ((substL args ks).take i) + r
      ·simp [hbig, zq158_j1, zq158_j2]
       have := hO (1 + VT.nodesL ((substL args ks).take i) + r) (by constructor <;> intro h <;> omega) (by omega) (by omega)
       have e : ((1 + VT.nodesL ((substL args ks).take i) + r : Nat) : Int) = 1 + (VT.nodesL ((substL args ks).take i) : Int) + r := by omega
       rw [e] at this
       exact this _
      ·have hr : r = (subst args ks[i]).nodes := hr2 (by omega)
       simp [hbig]
       rw [wrap_in (by omega) (by omega), two']
       refine hKb _ _ ⟨ks.length - (i + 1), by omega, Back.same (by simp) hsc ?_ ⟨_, _, rfl, i + 1, by omega, rfl, by simp, ?_, by omega, rfl⟩⟩
       ·simp [zq158_fr5, AV.sc, AV.scV, AV.scA, AV.scB]; omega
       ·congr 1; omega
     ·obtain rfl : i = ks.length := by omega
      rw [List.take_of_length_le (by omega)] at *
      simp [zq158_b5, zq158_j1, zq158_j2]
      have := hO (1 + VT.nodesL (substL args ks)) (by omega) (by omega) (by omega)
      have e : ((1 + VT.nodesL (substL args ks) : Nat) : Int) = 1 + (VT.nodesL (substL args ks) : Int) := by omega
      rw [e] at this
      exact this _
   simp only [VT.cs, zq158]
   by_cases h4 : k = 4
   ·subst h4
    by_cases h0 : 0 ≤ n
    ·have h1 : ¬ n < args.length := fun h => hvar ⟨rfl, h0, h⟩
     simp [h0, h1]
     exact go
    ·simp [h0]
     exact go
   ·have h4' : (k == 4) = false := by simpa using h4
    simp [h4']
    exact go
def sizesI (args : List VT) (i : Nat) : List AV := (args.take i).map (fun x => .int .i64 x.nodes) ++ List.replicate (args.length - i) (.int .i64 0)
theorem sizesI_len (args : List VT) {i : Nat} (h : i ≤ args.length) : (sizesI args i).length = args.length := by simp [sizesI]; omega
theorem sizesI_set (args : List VT) {i : Nat} (h : i < args.length) : (sizesI args i).take i ++ [.int .i64 (args[i]).nodes] ++ (sizesI args i).drop (i + 1) = sizesI args (i + 1) := by
 have e1 : ((args.take i).map fun x => AV.int .i64 x.nodes).length = i := by simp; omega
 unfold sizesI
 rw [List.take_append_of_le_length (by omega), List.take_of_length_le (by omega), List.drop_append, List.drop_of_length_le (by omega), List.nil_append, e1, List.take_succ_eq_append_getElem h, List.map_append]
 congr 1
 rw [show i + 1 - i = 1 by omega, List.drop_replicate]
 congr 1
theorem zq89_spec (data : List Dat) (hdl : data.length ≤ 1000000) (hda : ∀ d ∈ data, ∀ c ∈ d.cons, c.args.length ≤ 1000 ∧ ∀ x ∈ c.args, x.nodes ≤ 1000) (hdc : ∀ d ∈ data, d.cons.length ≤ 1000000) (t : VT) (ht : t.nodes ≤ 1000) (c : Int) (H : Heap) (K : AV → Heap → Prop) (hK : K (fieldsR (fields data t c)) H) :
  ACalls Tryz.prog n_zq89 [.sl (data.map Dat.cs) .none, .agg t.cs, .int .i64 c] H K := by
 refine ACalls.out (zq89_ok fun hs => ?_)
 obtain ⟨k, n, ks⟩ := t
 have hkn : VT.nodesL ks + 1 ≤ 1000 := by simpa [VT.nodes] using ht
 have hkl := VT.len_le ks
 have hF : fields data (.mk k n ks) c = none → ∀ J, Out H.length K (.tup [.snil, .bool false]) (H ++ J) := fun h J => by
  rw [h] at hK
  exact Out.tup hs hK ⟨snilV, keepV rfl rfl, trivial⟩
 simp only [VT.cs, zq89]
 by_cases h5 : k = 5
 case neg =>
  have : (k != 5) = true := by simpa using h5
  simp [this, AV.isV]
  exact hF (by rw [fields_mk, if_neg (fun h => h5 h.1)]) _
 subst h5
 by_cases h0 : n < 0
 ·simp [h0, AV.isV]
  exact hF (by rw [fields_mk, if_neg (fun h => by have := h.2.1; omega)]) _
 by_cases h1 : (data.length : Int) ≤ n
 ·simp [h0, h1, AV.isV]
  exact hF (by
   rw [fields_mk]
   split
   ·rw [List.getElem?_eq_none (by omega)]
   ·rfl) _
 have hn : n.toNat < data.length := by omega
 have h1' : n < data.length := by omega
 have h0' : 0 ≤ n := by omega
 generalize hdd : data[n.toNat] = d at *
 have hd : d ∈ data := by rw [← hdd]; exact List.getElem_mem hn
 have hget : data[n.toNat]? = some d := by rw [List.getElem?_eq_getElem hn, hdd]
 cases hv : ((ks.length : Int) == d.vars) with
 | false =>
  have hv' : ((ks.length : Int) != d.vars) = true := by simp [bne, hv]
  simp [h0, h1, h0', h1', hn, hdd, Dat.cs, hv', AV.isV, hget]
  exact hF (by
   rw [fields_mk]
   split
   ·rw [hget]
    simp only
    rw [if_neg (by simpa using hv)]
   ·rfl) _
 | true =>
 have hv' : ((ks.length : Int) != d.vars) = false := by simp [bne, hv]
 have hve : (ks.length : Int) = d.vars := by simpa using hv
 by_cases hc0 : c < 0
 ·simp [h0, h1, h0', h1', hn, hdd, Dat.cs, hv', AV.isV, hget, hc0]
  exact hF (by rw [fields_mk, if_neg (fun h => by have := h.2.2; omega)]) _
 have hfe : ∀ o, (match d.cons[c.toNat]? with | some k => if (k.args.map (subst ks)).all (fun x => decide (x.nodes ≤ 200)) = true then some (k.args.map (subst ks)) else none | none => none) = o → fields data (.mk 5 n ks) c = o := fun o h => by
  rw [fields_mk, if_pos ⟨rfl, h0', by omega⟩, hget]
  simp only
  rw [if_pos hve]
  exact h
 by_cases hc1 : (d.cons.length : Int) ≤ c
 ·simp [h0, h1, h0', h1', hn, hdd, Dat.cs, hv', AV.isV, hget, hc0, hc1]
  exact hF (hfe none (by rw [List.getElem?_eq_none (by omega)])) _
 have hcn : c.toNat < d.cons.length := by omega
 have hc1' : c < d.cons.length := by omega
 have hc0' : 0 ≤ c := by omega
 generalize hcc : d.cons[c.toNat] = co at *
 have hco : co ∈ d.cons := by rw [← hcc]; exact List.getElem_mem hcn
 have hgc : d.cons[c.toNat]? = some co := by rw [List.getElem?_eq_getElem hcn, hcc]
 obtain ⟨hal, han⟩ := hda d hd co hco
 have hfe' := fun o => hfe o
 rw [hgc] at hfe'
 simp only at hfe'
 have hkle : ∀ x ∈ ks, x.nodes ≤ 1000 := fun y hy => Nat.le_trans (kids_le (k := 5) (n := n) y hy) ht
 simp [h0, h1, h0', h1', hn, hdd, Dat.cs, hv', AV.isV, hget, hc0, hc1, hc0', hc1', hcn, hcc, aMake]
 refine ⟨by omega, ?_⟩
 have ez : List.replicate ks.length (AV.int .i64 0) = sizesI ks 0 := by simp [sizesI]
 rw [ez]
 have hsc3 : ∀ (l : List AV), (l.all fun a => a.scA (H.length + 3)) = true → HSc (H ++ [.cells [.int .i64 5, .int .i64 n, .sl (VT.css ks) .none], .cells [.str d.name, .int .i64 d.vars, .sl (d.cons.map Con.cs) .none], .cells l]) := fun l hl => hs.append (by simp [AB.sc]; simpa using hl)
 have hszsc : ∀ i, ((sizesI ks i).all fun a => a.scA (H.length + 3)) = true := fun i => by
  rw [List.all_eq_true]
  intro x hx
  unfold sizesI at hx
  rcases List.mem_append.1 hx with h | h
  ·obtain ⟨y, _, rfl⟩ := List.mem_map.1 h; rfl
  ·rw [List.eq_of_mem_replicate h]; rfl
 refine zq89_loop8 (Inv := fun q t61 H' => ∃ i : Nat, i ≤ ks.length ∧ q = ks.length - i ∧ t61 = .int .i64 i ∧ H' = H ++ [.cells [.int .i64 5, .int .i64 n, .sl (VT.css ks) .none], .cells [.str d.name, .int .i64 d.vars, .sl (d.cons.map Con.cs) .none], .cells (sizesI ks i)]) ks.length ?_ ?_
 ·intro _; exact ⟨0, by omega, by omega, rfl, rfl⟩
 ·rintro q t61 H' ⟨i, hi, rfl, rfl, rfl⟩ hsc8 hlen8 hsF8 Kb8 hKb8
  by_cases hlt : i < ks.length
  ·have hle := hkle _ (List.getElem_mem hlt)
   obtain ⟨x1, x2, x3, hvx, hx1, hx2, hx3⟩ := vt3' ks[i]
   simp [zq89_b8, hlt, hvx, hx1, hx2, hx3]
   rw [← hvx]
   refine zq157_spec _ _ (Nat.le_refl _) (by omega) _ _ ?_
   have hll := sizesI_len ks hi
   simp [hlt, hll]
   refine ⟨by omega, ?_⟩
   rw [wrap_in (by omega) (by omega)]
   have e := sizesI_set ks hlt
   rw [List.append_assoc, List.singleton_append] at e
   rw [e]
   refine hKb8 _ _ ⟨ks.length - (i + 1), by omega, Back.at (J := [_]) (H2 := H ++ [.cells [.int .i64 5, .int .i64 n, .sl (VT.css ks) .none], .cells [.str d.name, .int .i64 d.vars, .sl (d.cons.map Con.cs) .none], .cells (sizesI ks (i + 1))]) (by simp; rfl) (by simp) (hsc3 _ (hszsc _)) ?_ ⟨_, rfl, i + 1, by omega, rfl, by simp, rfl⟩⟩
   simp [zq89_fr8, AV.sc, AV.scV, AV.scA, AV.scB]
  ·obtain rfl : i = ks.length := by omega
   have efull : sizesI ks ks.length = ks.map fun x => .int .i64 x.nodes := by simp [sizesI]
   have hsc8' := hsc8
   rw [efull] at hsc8' ⊢
   simp [zq89_b8, hc0', hc1', hcn, hcc, Con.cs, hgc]
   refine zq89_loop13 (Inv := fun q t79 H' => ∃ i : Nat, i ≤ co.args.length ∧ q = co.args.length - i ∧ t79 = .int .i64 i ∧ (∀ x ∈ co.args.take i, (subst ks x).nodes ≤ 200) ∧ H' = H ++ [.cells [.int .i64 5, .int .i64 n, .sl (VT.css ks) .none], .cells [.str d.name, .int .i64 d.vars, .sl (d.cons.map Con.cs) .none], .cells (ks.map fun x => .int .i64 x.nodes)]) co.args.length ?_ ?_
   ·intro _; exact ⟨0, by omega, by omega, rfl, by simp, rfl⟩
   ·rintro q t79 H' ⟨i, hi, rfl, rfl, hall, rfl⟩ hsc13 hlen13 hsF13 Kb13 hKb13
    by_cases hlt : i < co.args.length
    ·have hmem := List.getElem_mem hlt
     obtain ⟨x1, x2, x3, hvx, hx1, hx2, hx3⟩ := vt3' co.args[i]
     simp [zq89_b13, hlt, hvx, hx1, hx2, hx3]
     rw [← hvx]
     refine zq158_spec ks (fun y hy => by have := hkle y hy; omega) (by omega) _ co.args[i] (Nat.le_refl _) (by have := han _ hmem; omega) _ (H.length + 2) (by simp [sizesB]) _ fun r hr1 hr2 hr3 => ?_
     by_cases hbig : r ≤ 200
     ·have hbig' : ¬ (200 : Int) < r := by omega
      simp [hbig']
      rw [wrap_in (by omega) (by omega)]
      refine hKb13 _ _ ⟨co.args.length - (i + 1), by omega, Back.at (J := [_]) (H2 := H ++ [.cells [.int .i64 5, .int .i64 n, .sl (VT.css ks) .none], .cells [.str d.name, .int .i64 d.vars, .sl (d.cons.map Con.cs) .none], .cells (ks.map fun x => .int .i64 x.nodes)]) (by simp; rfl) (by simp) hsc8' ?_ ⟨_, rfl, i + 1, by omega, rfl, by simp, mem_take_succ' hlt hall (hr1.1 hbig), rfl⟩⟩
      simp [zq89_fr13, AV.sc, AV.scV, AV.scA, AV.scB]
     ·have hbig' : (200 : Int) < r := by omega
      simp [hbig', AV.isV]
      refine hF (hfe' none ?_) _
      rw [if_neg]
      intro hal2
      have := List.all_eq_true.1 hal2 (subst ks co.args[i]) (List.mem_map.2 ⟨_, hmem, rfl⟩)
      exact hbig (hr1.2 (of_decide_eq_true this))
    ·obtain rfl : i = co.args.length := by omega
     rw [List.take_length] at hall
     have hfs := hfe' (some (co.args.map (subst ks))) (if_pos (List.all_eq_true.2 fun y hy => by
      obtain ⟨x, hx, rfl⟩ := List.mem_map.1 hy
      exact decide_eq_true (hall x hx)))
     rw [hfs] at hK
     simp [zq89_b13, hc0', hc1', hcn, hcc, Con.cs, hgc]
     unfold zq89_l20
     refine ALoop.own 14 e_api_Type 3 rfl ?_
     have hlen1 : (H ++ [AB.cells [.int .i64 5, .int .i64 n, .sl (VT.css ks) .none], .cells [.str d.name, .int .i64 d.vars, .sl (d.cons.map Con.cs) .none], .cells (ks.map fun x => .int .i64 x.nodes)]).length = H.length + 3 := by simp
     rw [hlen1]
     have hperm : ∀ m, HSc (H ++ [.cells [.int .i64 5, .int .i64 n, .sl (VT.css ks) .none], .cells [.str d.name, .int .i64 d.vars, .sl (d.cons.map Con.cs) .none], .cells (ks.map fun x => .int .i64 x.nodes), .perm e_api_Type 3 m]) := fun m => by have := hsc8'.append (J := [.perm e_api_Type 3 m]) rfl; simpa using this
     rw [List.append_assoc]
     show zq89_l20 (.ptr H.length 0) (.sl [] (.own (H.length + 3))) (.sl (VT.css co.args) .none) (.int .i64 co.args.length) (.int .i64 0) (H ++ [.cells [.int .i64 5, .int .i64 n, .sl (VT.css ks) .none], .cells [.str d.name, .int .i64 d.vars, .sl (d.cons.map Con.cs) .none], .cells (ks.map fun x => .int .i64 x.nodes), .perm e_api_Type 3 0]) (Out H.length K)
     refine zq89_loop20 (Inv := fun q t14 t95 H' => ∃ i : Nat, i ≤ co.args.length ∧ q = co.args.length - i ∧ t95 = .int .i64 i ∧ t14 = .sl (VT.css ((co.args.map (subst ks)).take i)) (.own (H.length + 3)) ∧ H' = H ++ [.cells [.int .i64 5, .int .i64 n, .sl (VT.css ks) .none], .cells [.str d.name, .int .i64 d.vars, .sl (d.cons.map Con.cs) .none], .cells (ks.map fun x => .int .i64 x.nodes), .perm e_api_Type 3 i]) co.args.length ?_ ?_
     ·intro _; exact ⟨0, by omega, by omega, rfl, by simp [VT.css], rfl⟩
     ·rintro q t14 t95 H' ⟨i, hi, rfl, rfl, rfl, rfl⟩ hsc20 hlen20 hsF20 Kb20 hKb20
      by_cases hlt : i < co.args.length
      ·have hmem := List.getElem_mem hlt
       obtain ⟨x1, x2, x3, hvx, hx1, hx2, hx3⟩ := vt3' co.args[i]
       simp [zq89_b20, hlt, hvx, hx1, hx2, hx3]
       rw [← hvx]
       refine zq159_spec _ ks (fun y hy => by have := hkle y hy; omega) (by omega) co.args[i] (Nat.le_refl _) (by have := han _ hmem; omega) _ _ ?_
       rw [buildS_vt]
       simp [aAppend, aSrc, aAppTo]
       refine ⟨by omega, ⟨by omega, by omega⟩, ?_⟩
       rw [wrap_in (by omega) (by omega), show min i co.args.length = i by omega]
       refine hKb20 _ _ ⟨co.args.length - (i + 1), by omega, Back.at (H2 := H ++ [.cells [.int .i64 5, .int .i64 n, .sl (VT.css ks) .none], .cells [.str d.name, .int .i64 d.vars, .sl (d.cons.map Con.cs) .none], .cells (ks.map fun x => .int .i64 x.nodes), .perm e_api_Type 3 (i + 1)]) (J := [_]) (by simp; rfl) (by simp) (hperm _) ?_ ⟨_, _, rfl, i + 1, by omega, rfl, by simp, ?_, rfl⟩⟩
       ·simp [zq89_fr20, AV.sc, AV.scV, AV.scA, AV.scB]
       ·rw [css_take_succ (by simpa using hlt)]; simp
      ·obtain rfl : i = co.args.length := by omega
       rw [List.take_of_length_le (by simp)]
       simp [zq89_b20, AV.isV]
       exact Out.tup hs hK ⟨slV, keepV rfl rfl, trivial⟩
def isVarAt (i : Nat) : VT → Bool
 | .mk k n ks => k == 4 && n == i && ks.length == 0
def isSelfL : List VT → Nat → Bool
 | [], _ => true
 | x :: l, i => isVarAt i x && isSelfL l (i + 1)
def isSelf (d vars : Int) : VT → Bool
 | .mk k n ks => k == 5 && n == d && (ks.length : Int) == vars && isSelfL ks 0
mutual
def mentions (d : Int) : VT → Bool
 | .mk k n ks => (k == 5 && n == d) || mentionsL d ks
def mentionsL (d : Int) : List VT → Bool
 | [] => false
 | t :: ts => mentions d t || mentionsL d ts
end
theorem IsSelf_spec (v : VT) (d vars : Int) (hb : v.nodes ≤ 1000000) (H : Heap) (K : AV → Heap → Prop) (hK : K (.bool (isSelf d vars v)) H) : ACalls Tryz.prog n_zq68 [.agg v.cs, .int .i64 d, .int .i64 vars] H K := by
 refine ACalls.out (zq68_ok fun hs => ?_)
 obtain ⟨k, n, ks⟩ := v
 have hnl : VT.nodesL ks + 1 ≤ 1000000 := by simpa [VT.nodes] using hb
 have hll := VT.len_le ks
 have hO : ∀ J, Out H.length K (.bool (k == 5 && n == d && (ks.length : Int) == vars && isSelfL ks 0)) (H ++ J) := fun J => Out.bool rfl (Nat.le_refl _) hs (by simpa [isSelf] using hK)
 simp only [VT.cs, zq68]
 cases h5 : (k == 5) with
 | false =>
  have : (k != 5) = true := by simp [bne, h5]
  rw [h5] at hO
  simp [this]
  exact hO _
 | true =>
 have h5' : (k != 5) = false := by simp [bne, h5]
 cases hn : (n == d) with
 | false =>
  have : (n != d) = true := by simp [bne, hn]
  rw [h5, hn] at hO
  simp [h5', this]
  exact hO _
 | true =>
 have hn' : (n != d) = false := by simp [bne, hn]
 cases hv : ((ks.length : Int) == vars) with
 | false =>
  have : ((ks.length : Int) != vars) = true := by simp [bne, hv]
  rw [h5, hn, hv] at hO
  simp [h5', hn', this]
  exact hO _
 | true =>
 have hv' : ((ks.length : Int) != vars) = false := by simp [bne, hv]
 rw [h5, hn, hv] at hO
 simp only [Bool.true_and] at hO
 simp [h5', hn', hv']
 refine zq68_loop4 (Inv := fun q t7 H' => ∃ i : Nat, i ≤ ks.length ∧ q = ks.length - i ∧ t7 = .int .i64 i ∧ isSelfL (ks.drop i) i = isSelfL ks 0 ∧ H' = H ++ [.cells [.int .i64 k, .int .i64 n, .sl (VT.css ks) .none]]) ks.length ?_ ?_
 ·intro _; exact ⟨0, by omega, by omega, rfl, by simp, rfl⟩
 ·rintro q t7 H' ⟨i, hi, rfl, rfl, ho, rfl⟩ hsc hlen hsF Kb hKb
  by_cases hlt : i < ks.length
  ·rw [List.drop_eq_getElem_cons hlt, isSelfL] at ho
   obtain ⟨k', n', ks', hx⟩ : ∃ k' n' ks', ks[i] = .mk k' n' ks' := by cases h : ks[i] with | mk a b c => exact ⟨a, b, c, rfl⟩
   rw [hx, isVarAt] at ho
   cases g1 : (k' == 4) with
   | false =>
    have : (k' != 4) = true := by simp [bne, g1]
    rw [g1] at ho
    simp only [Bool.false_and] at ho
    rw [← ho] at hO
    simp [zq68_b4, hlt, hx, VT.cs, this]
    exact hO _
   | true =>
   have g1' : (k' != 4) = false := by simp [bne, g1]
   cases g2 : (n' == (i : Int)) with
   | false =>
    have : (n' != (i : Int)) = true := by simp [bne, g2]
    rw [g1, g2] at ho
    simp only [Bool.false_and, Bool.and_false] at ho
    rw [← ho] at hO
    simp [zq68_b4, hlt, hx, VT.cs, g1', this]
    exact hO _
   | true =>
   have g2' : (n' != (i : Int)) = false := by simp [bne, g2]
   by_cases g3 : ks'.length = 0
   ·have g3' : ¬ (0 : Int) < ks'.length := by omega
    have g3'' : ¬ 0 < ks'.length := by omega
    rw [g1, g2, g3] at ho
    simp only [Bool.true_and, BEq.rfl] at ho
    simp [zq68_b4, hlt, hx, VT.cs, g1', g2', g3', g3'']
    rw [wrap_in (by omega) (by omega)]
    refine hKb _ _ ⟨ks.length - (i + 1), by omega, Back.here (by simp) hsc ?_ ⟨_, rfl, i + 1, by omega, rfl, by simp, ho, rfl⟩⟩
    simp [zq68_fr4, AV.sc, AV.scV, AV.scA, AV.scB]
   ·have g3' : (0 : Int) < ks'.length := by omega
    have g3'' : 0 < ks'.length := by omega
    have g4 : (ks'.length == 0) = false := by simpa using g3
    rw [g4] at ho
    simp only [Bool.and_false, Bool.false_and] at ho
    rw [← ho] at hO
    simp [zq68_b4, hlt, hx, VT.cs, g1', g2', g3', g3'']
    exact hO _
  ·obtain rfl : i = ks.length := by omega
   rw [List.drop_length, isSelfL] at ho
   rw [← ho] at hO
   simp [zq68_b4]
   exact hO _
theorem callMent1 : callable Tryz.prog n_zq247 = true := by kernel_rfl
theorem mentionsL_any (d : Int) : ∀ l : List VT, mentionsL d l = l.any (mentions d)
 | [] => rfl
 | t :: ts => by simp [mentionsL, mentionsL_any d ts]
theorem zq222_spec (d : Int) : ∀ (m : Nat) (v : VT), v.nodes ≤ m → v.nodes ≤ 1000000 → ∀ (H : Heap) (K : AV → Heap → Prop), K (.bool (mentions d v)) H → ACalls Tryz.prog n_zq222 [.agg v.cs, .int .i64 d] H K := by
 intro m
 induction m with
 | zero => intro v h; have := v.nodes_pos; omega
 | succ m ih =>
  intro v hv hb H K hK
  obtain ⟨k, n, ks⟩ := v
  have hnl : VT.nodesL ks + 1 ≤ 1000000 := by simpa [VT.nodes] using hb
  have hll := VT.len_le ks
  refine ACalls.out (zq222_ok fun hs => ?_)
  have hO : ∀ J, Out H.length K (.bool ((k == 5 && n == d) || ks.any (mentions d))) (H ++ J) := fun J => Out.bool rfl (Nat.le_refl _) hs (by simpa [mentions, mentionsL_any] using hK)
  have go : (k == 5 && n == d) = false → ∀ KK : AV → Heap → Prop, (∀ b, Out H.length K (.bool b) (H ++ [.cells [.int .i64 k, .int .i64 n, .sl (VT.css ks) .none], .cells [.int .i64 d]]) → KK (.bool b) (H ++ [.cells [.int .i64 k, .int .i64 n, .sl (VT.css ks) .none], .cells [.int .i64 d]])) →
    ACalls Tryz.prog n_zq144 [.sl (VT.css ks) .none, .fn n_zq247 [.ptr (H.length + 1) 0]] (H ++ [.cells [.int .i64 k, .int .i64 n, .sl (VT.css ks) .none], .cells [.int .i64 d]]) KK := by
   intro hno KK hKK
   rw [hno, Bool.false_or] at hO
   refine containsFunc_spec ks (by omega) _ _ _ (by simp [AV.sc, AV.scV, AV.scA, AV.scB]) (fun i H' => (ks.drop i).any (mentions d) = ks.any (mentions d) ∧ H' = H ++ [.cells [.int .i64 k, .int .i64 n, .sl (VT.css ks) .none], .cells [.int .i64 d]]) ⟨by simp, rfl⟩ ?_ ?_
   ·rintro i hi H' hle ⟨ho, rfl⟩
    have hki := VT.kid_lt (k := k) (n := n) hi
    rw [List.drop_eq_getElem_cons hi, List.any_cons] at ho
    simp only [aCallV, callMent1, List.singleton_append]
    refine ACalls.out (zq247_ok fun hs1 => ?_)
    obtain ⟨x1, x2, x3, hvx, hx1, hx2, hx3⟩ := vt3' ks[i]
    simp [zq247, hvx]
    rw [← hvx]
    refine ih ks[i] (by omega) (by omega) _ _ ?_
    refine Out.bool (J := [_]) (H2 := H ++ [.cells [.int .i64 k, .int .i64 n, .sl (VT.css ks) .none], .cells [.int .i64 d]]) (by simp; rfl) (by simp) hs1 ?_
    cases hb : mentions d ks[i] with
    | false =>
     rw [hb, Bool.false_or] at ho
     exact .inl ⟨rfl, ho, rfl⟩
    | true =>
     rw [hb, Bool.true_or] at ho
     rw [← ho] at hO
     exact .inr ⟨rfl, hKK _ (hO _)⟩
   ·rintro H' ⟨ho, rfl⟩
    rw [List.drop_length, List.any_nil] at ho
    rw [← ho] at hO
    exact hKK _ (hO _)
  simp only [VT.cs, zq222]
  cases h5 : (k == 5) with
  | false =>
   simp [h5, AV.isB]
   refine go (by rw [h5]; rfl) _ fun b hb => ?_
   simpa using hb
  | true =>
   cases hn : (n == d) with
   | false =>
    simp [h5, hn, AV.isB]
    refine go (by rw [hn]; simp) _ fun b hb => ?_
    simpa using hb
   | true =>
    rw [h5, hn] at hO
    simp [h5, hn]
    exact hO _
def bools (l : List Bool) : List AV := l.map AV.bool
@[simp] theorem bools_len (l : List Bool) : (bools l).length = l.length := by simp [bools]
theorem bools_rep (n : Nat) : (List.replicate n [AV.bool false]).flatten = bools (List.replicate n false) := by
 induction n with
 | zero => rfl
 | succ n ih => simp [List.replicate_succ, ih, bools]
theorem bools_set {l : List Bool} {i : Nat} (h : i < l.length) (b : Bool) : (bools l).take i ++ .bool b :: (bools l).drop (i + 1) = bools (l.set i b) := by
 simp [bools, List.set_eq_take_append_cons_drop, h]
theorem bools_sc (m : Nat) (l : List Bool) : (bools l).all (AV.scA m) = true := by simp [bools]
theorem plain_bools : ∀ l : List Bool, plain (bools l) = some (l.map fun b => [AV.bool b]).flatten
 | [] => rfl
 | b :: l => by
  have := plain_bools l
  simp [bools] at this ⊢
  simp [plain, this, AV.pd]
theorem zq65_spec (data : List Dat) (d : Nat) (c : Nat) (hd : d < data.length) (hc : c < (data[d]).cons.length) (hl : data.length ≤ 1000000) (hcl : (data[d]).cons.length ≤ 1000000) (hal : ((data[d]).cons[c]).args.length ≤ 1000000)
  (hb : ∀ x ∈ ((data[d]).cons[c]).args, x.nodes ≤ 1000000) (H : Heap) (K : AV → Heap → Prop)
  (hK : K (.sl (((data[d]).cons[c]).args.map fun t => [.bool (isSelf d (data[d]).vars t)]) .none) H) :
  ACalls Tryz.prog n_zq65 [.sl (data.map Dat.cs) .none, .int .i64 d, .int .i64 c] H K := by
 refine ACalls.out (zq65_ok fun hs => ?_)
 have e1 : (data.map Dat.cs)[d]? = some (data[d]).cs := by simp [hd]
 have e2 : ((data[d]).cons.map Con.cs)[c]? = some ((data[d]).cons[c]).cs := by simp [hc]
 generalize hD : data[d] = D at *
 generalize hA : D.cons[c] = C at *
 have h1 : ¬ (d : Int) < 0 := by omega
 have h2 : ¬ (data.length : Int) ≤ d := by omega
 have h3 : ¬ (c : Int) < 0 := by omega
 have h4 : ¬ (D.cons.length : Int) ≤ c := by omega
 simp [zq65, h1, h2, h3, h4, e1, e2, Dat.cs, Con.cs, hd, hD, hc, hA]
 simp only [aMake, Int.toNat_natCast, bools_rep]
 refine ⟨⟨by omega, by omega, by omega, by omega⟩, ?_⟩
 refine zq65_loop6 (Inv := fun q t49 H' => ∃ (i : Nat) (bs : List Bool), i ≤ C.args.length ∧ q = C.args.length - i ∧ t49 = .int .i64 i ∧ bs.length = C.args.length ∧ (∀ j (hj : j < i) (h' : j < C.args.length), bs[j]? = some (isSelf d D.vars C.args[j])) ∧ H' = H ++ [.cells (bools bs)]) C.args.length ?_ ?_
 ·intro _; exact ⟨0, _, by omega, by omega, rfl, by simp, by omega, rfl⟩
 ·rintro q t49 H' ⟨i, bs, hi, rfl, rfl, hbl, hbs, rfl⟩ hsc hlen hsF Kb hKb
  by_cases hlt : i < C.args.length
  ·obtain ⟨k, n, ks, hx⟩ : ∃ k n ks, C.args[i] = .mk k n ks := by cases h : C.args[i] with | mk a b c => exact ⟨a, b, c, rfl⟩
   have hnb := hb _ (List.getElem_mem hlt)
   rw [hx, VT.nodes] at hnb
   have hll := VT.len_le ks
   have inner : ∀ b0 : Bool, b0 = (k == 5 && n == (d : Int) && (ks.length : Int) == D.vars) →
     zq65_l10 (.sl (data.map Dat.cs) .none) (.int .i64 d) (.ms H.length 0 C.args.length C.args.length) (.int .i64 i) (.sl (VT.css C.args) .none) (.int .i64 C.args.length) (.int .i64 i) (.sl (VT.css ks) .none) (.int .i64 ks.length) (.int .i64 0)
      (H ++ [.cells (bools (bs.set i b0)), .cells [.int .i64 k, .int .i64 n, .sl (VT.css ks) .none]]) (Out H.length K) Kb := by
    intro b0 hb0
    refine zq65_loop10 (Inv := fun q t80 H' => ∃ (j : Nat) (b : Bool), j ≤ ks.length ∧ q = ks.length - j ∧ t80 = .int .i64 j ∧ (b && isSelfL (ks.drop j) j) = isSelf d D.vars C.args[i] ∧ H' = H ++ [.cells (bools (bs.set i b)), .cells [.int .i64 k, .int .i64 n, .sl (VT.css ks) .none]]) ks.length ?_ ?_
    ·intro _; exact ⟨0, b0, by omega, by omega, rfl, by simp [hx, isSelf, hb0], rfl⟩
    ·rintro q t80 H' ⟨j, b, hj, rfl, rfl, hob, rfl⟩ hsc1 hlen1 hsF1 Kb1 hKb1
     have hsc0 : ∀ b : Bool, HSc (H ++ [.cells (bools (bs.set i b))]) := fun b => hs.snoc (by simp [AB.sc, bools_sc])
     have hsc2 : ∀ b : Bool, HSc (H ++ [.cells (bools (bs.set i b)), .cells [.int .i64 k, .int .i64 n, .sl (VT.css ks) .none]]) := fun b => hs.append (by simp [AB.sc, bools_sc])
     by_cases hjl : j < ks.length
     ·obtain ⟨k', n', ks', hx'⟩ : ∃ k' n' ks', ks[j] = .mk k' n' ks' := by cases h : ks[j] with | mk a b c => exact ⟨a, b, c, rfl⟩
      have hib : i < bs.length := by omega
      rw [List.drop_eq_getElem_cons hjl, isSelfL, hx', isVarAt] at hob
      have hback : ∀ (b' : Bool) J, (b' && isSelfL (ks.drop (j + 1)) (j + 1)) = isSelf d D.vars C.args[i] → zq65_j2 (.sl (data.map Dat.cs) .none) (.int .i64 d) (.ms H.length 0 C.args.length C.args.length) (.int .i64 i) (.sl (VT.css C.args) .none) (.int .i64 C.args.length) (.int .i64 i) (.sl (VT.css ks) .none) (.int .i64 ks.length) (.int .i64 j)
        (H ++ .cells (bools (bs.set i b')) :: .cells [.int .i64 k, .int .i64 n, .sl (VT.css ks) .none] :: J) (Out H.length K) Kb Kb1 := by
       intro b' J hb'
       simp [zq65_j2]
       rw [wrap_in (by omega) (by omega)]
       refine hKb1 _ _ ⟨ks.length - (j + 1), by omega, Back.at (J := J) (H2 := H ++ [.cells (bools (bs.set i b')), .cells [.int .i64 k, .int .i64 n, .sl (VT.css ks) .none]]) (by simp) (by simp) (hsc2 _) ?_ ⟨_, rfl, j + 1, b', by omega, rfl, by simp, hb', rfl⟩⟩
       simp [zq65_fr10, AV.sc, AV.scV, AV.scA, AV.scB]
      have hstore : ∀ l, List.take i (bools (bs.set i b)) ++ .bool false :: List.drop (i + 1) (bools (bs.set i b)) = l → l = bools (bs.set i false) := by
       rintro _ rfl
       rw [bools_set (by simpa using hib)]; simp
      cases g1 : (k' == 4) with
      | false =>
       have : (k' != 4) = true := by simp [bne, g1]
       rw [g1] at hob
       simp [zq65_b10, zq65_j1, hjl, hx', VT.cs, this, hlt, hbl, hstore _ rfl]
       refine ⟨by omega, hback _ _ ?_⟩; simpa using hob.symm
      | true =>
      have g1' : (k' != 4) = false := by simp [bne, g1]
      cases g2 : (n' == (j : Int)) with
      | false =>
       have : (n' != (j : Int)) = true := by simp [bne, g2]
       rw [g1, g2] at hob
       simp [zq65_b10, zq65_j1, hjl, hx', VT.cs, g1', this, hlt, hbl, hstore _ rfl]
       refine ⟨by omega, hback _ _ ?_⟩; simpa using hob.symm
      | true =>
      have g2' : (n' != (j : Int)) = false := by simp [bne, g2]
      by_cases g3 : ks'.length = 0
      ·have g3' : ¬ (0 : Int) < ks'.length := by omega
       have g3'' : ¬ 0 < ks'.length := by omega
       simp [zq65_b10, zq65_j1, hjl, hx', VT.cs, g1', g2', g3', g3'']
       refine hback _ _ ?_; simpa [g1, g2, g3] using hob
      ·have g3' : (0 : Int) < ks'.length := by omega
       have g3'' : 0 < ks'.length := by omega
       have g4 : (ks'.length == 0) = false := by simpa using g3
       rw [g4] at hob
       simp [zq65_b10, zq65_j1, hjl, hx', VT.cs, g1', g2', g3', g3'', hlt, hbl, hstore _ rfl]
       refine ⟨by omega, hback _ _ ?_⟩; simpa using hob.symm
     ·obtain rfl : j = ks.length := by omega
      rw [List.drop_length, isSelfL, Bool.and_true] at hob
      simp [zq65_b10]
      rw [wrap_in (by omega) (by omega)]
      refine hKb _ _ ⟨C.args.length - (i + 1), by omega, Back.at (J := [.cells [.int .i64 k, .int .i64 n, .sl (VT.css ks) .none]]) (H2 := H ++ [.cells (bools (bs.set i b))]) (by simp) (by simp) (hsc0 _) ?_ ⟨_, rfl, i + 1, bs.set i b, by omega, rfl, by simp, by simpa using hbl, ?_, rfl⟩⟩
      ·simp [zq65_fr6, AV.sc, AV.scV, AV.scA, AV.scB]
      ·intro j hj h'
       by_cases hji : j = i
       ·subst hji; rw [← hob]; simp [hbl, hlt]
       ·rw [List.getElem?_set_ne (by omega)]; exact hbs j (by omega) h'
   have hstore : ∀ b l, List.take i (bools bs) ++ .bool b :: List.drop (i + 1) (bools bs) = l → l = bools (bs.set i b) := by
    rintro b _ rfl
    rw [bools_set (by omega)]
   cases h5 : (k == 5) with
   | false => simp [zq65_b6, hlt, hx, VT.cs, e1, hd, hD, Dat.cs, h5, hbl, hstore _ _ rfl]; refine ⟨by omega, inner _ ?_⟩; simp [h5]
   | true =>
   cases hn : (n == (d : Int)) with
   | false => simp [zq65_b6, hlt, hx, VT.cs, e1, hd, hD, Dat.cs, h5, hn, hbl, hstore _ _ rfl]; refine ⟨by omega, inner _ ?_⟩; simp [h5, hn]
   | true => simp [zq65_b6, hlt, hx, VT.cs, e1, hd, hD, Dat.cs, h5, hn, hbl, hstore _ _ rfl]; refine ⟨by omega, inner _ ?_⟩; simp [h5, hn]
  ·obtain rfl : i = C.args.length := by omega
   simp [zq65_b6]
   have hbe : bs = C.args.map (isSelf d D.vars) := by
    refine List.ext_getElem (by simpa using hbl) fun j h1 h2 => ?_
    have := hbs j (by omega) (by omega)
    rw [List.getElem?_eq_getElem h1] at this
    simpa using this
   subst hbe
   refine ⟨_, H, _, rfl, Nat.le_refl _, hs, .one (.frz H.length 0 _ _ 1 (bools (C.args.map (isSelf d D.vars))) (C.args.map fun t => [.bool (isSelf d D.vars t)]) (Nat.le_refl _) (by simp) (by simp) ?_ (by simp) (by simp) (Nat.le_refl _)), hK⟩
   rw [List.drop_zero, List.take_of_length_le (by simp), plain_bools, List.map_map]
   rfl
end Go.Proofs.YtfpmdpldabopjaaGreatDoor
