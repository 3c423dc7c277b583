import Derived.Test.YtkdmpbhbmmhijaaAbsQ1
import Derived.Test.YtkdmpbhbmmhijaaKGY
set_option linter.unusedSimpArgs false
set_option linter.unusedVariables false
namespace Go.Proofs.Ytkdmpbhbmmhijaa
open Go Go.Abs
set_option maxRecDepth 8000
theorem zvi : ∀ (m : Nat) (v : VT), v.nodes ≤ m → ∀ (left : Int), left ≤ 1000000 → -1 ≤ left → ∀ (H : zaa) (id : Nat), H[id]? = some (.cells [.int .i64 left]) → ∀ (K : AV → zaa → Prop),
  ((v.nodes : Int) ≤ left → K (.bool true) (H.set id (.cells [.int .i64 (left - v.nodes)]))) → (¬ (v.nodes : Int) ≤ left → ∀ l', K (.bool false) (H.set id (.cells [.int .i64 l']))) →
  ACalls tP zgA [.agg v.cs, .ptr id 0] H K := by
 intro m
 induction m with
 | zero => intro v h; have := v.nodes_pos; omega
 | succ m ih =>
  intro v hv left hl1 hl0 H id hid K hK hF
  obtain ⟨k, n, ks⟩ := v
  have hlt := zbQ hid
  have hnn : (VT.mk k n ks).nodes = VT.nodesL ks + 1 := by simp [VT.nodes]
  refine ACalls.out (zHt fun hs => ?_)
  have hget : (H ++ [AB.cells [.int .i64 k, .int .i64 n, .sl (VT.css ks) .none]])[id]? = some (.cells [.int .i64 left]) := zaM hid
  have bad : (¬ ((VT.mk k n ks).nodes : Int) ≤ left) → ∀ l' H', H' = H.set id (.cells [.int .i64 l']) ++ [.cells [.int .i64 k, .int .i64 n, .sl (VT.css ks) .none]] → Out H.length K (.bool false) H' := by
   intro h l' H' he
   exact Out.bool he (by simp) (hs.set rfl) (hF h l')
  simp [zvg, VT.cs, hget, AV.known]
  rw [zaq (by omega) (by omega), zdq _ hid, zaM (zcT _ hid)]
  by_cases h0 : left - 1 < 0
  ·simp [h0]
   exact bad (by omega) _ _ rfl
  ·simp [h0]
   refine zHr (Inv := fun q t5 H' => ∃ i : Nat, i ≤ ks.length ∧ q = ks.length - i ∧ t5 = .int .i64 i ∧ ((VT.nodesL (ks.take i) : Int) + 1 ≤ left) ∧ H' = H.set id (.cells [.int .i64 (left - 1 - VT.nodesL (ks.take i))]) ++ [.cells [.int .i64 k, .int .i64 n, .sl (VT.css ks) .none]]) ks.length ?_ ?_
   ·intro _; exact ⟨0, by omega, by omega, rfl, by simp [VT.nodesL]; omega, by simp [VT.nodesL]⟩
   ·rintro q t5 H' ⟨i, hi, rfl, rfl, hb, rfl⟩ hsc hlen hsF Kb hKb
    by_cases hil : i < ks.length
    ·have hki := VT.kid_lt (k := k) (n := n) hil
     have h1 := VT.nodesL_take hil
     have h2 := VT.nodesL_take_le ks (i + 1)
     have hll := VT.len_le (ks.take i)
     simp only [List.length_take] at hll
     have hge : (H.set id (.cells [.int .i64 (left - 1 - VT.nodesL (ks.take i))]) ++ [AB.cells [.int .i64 k, .int .i64 n, .sl (VT.css ks) .none]])[id]? = some (.cells [.int .i64 (left - 1 - VT.nodesL (ks.take i))]) := zaM (zcT _ hid)
     simp [zpf, hil]
     refine ih ks[i] (by omega) (left - 1 - VT.nodesL (ks.take i)) (by omega) (by omega) _ id hge _ ?_ ?_
     ·intro hle
      rw [zdq _ (zcT _ hid), List.set_set]
      simp
      rw [zaq (by omega) (by omega)]
      refine hKb _ _ ⟨ks.length - (i + 1), by omega, Back.here (by simp) ((hs.set rfl).snoc rfl) ?_ ⟨_, rfl, i + 1, by omega, rfl, by simp, by omega, ?_⟩⟩
      ·simp [zku, AV.sc, AV.scV, AV.scA, AV.scB]; omega
      ·rw [h1]; congr 5; omega
     ·intro hle l'
      rw [zdq _ (zcT _ hid), List.set_set]
      simp
      exact bad (by omega) _ _ rfl
    ·obtain rfl : i = ks.length := by omega
     rw [List.take_length] at hb ⊢
     simp [zpf]
     refine Out.bool rfl (by simp) (hs.set rfl) ?_
     have := hK (by omega)
     rw [hnn] at this
     rw [show left - 1 - (VT.nodesL ks : Int) = left - ((VT.nodesL ks + 1 : Nat) : Int) by omega]
     exact this
theorem zot (v : VT) (H : zaa) (K : AV → zaa → Prop) (hK : ∀ b, (b = true → v.nodes ≤ 250) → K (.bool b) H) : ACalls tP zgy [.agg v.cs] H K := by
 refine ACalls.out (zEv fun hs => ?_)
 simp [zt9, AV.known]
 refine zvi _ v (Nat.le_refl _) 250 (by omega) (by omega) _ (H.length + 1) (by simp) _ ?_ ?_
 ·intro h
  exact Out.bool (J := [_, _]) (by simp; exact ⟨rfl, rfl⟩) (Nat.le_refl _) hs (hK true fun _ => by omega)
 ·intro h l'
  exact Out.bool (J := [_, _]) (by simp; exact ⟨rfl, rfl⟩) (Nat.le_refl _) hs (hK false fun h => by cases h)
theorem zEs (vs : List VT) (n : Nat) (hn : n ≤ 1000000) (hlen : vs.length ≤ 9223372036854775807) (H : zaa) (K : AV → zaa → Prop) (hK : ∀ b, (b = true → vs.length ≤ n ∧ ∀ v ∈ vs, v.nodes ≤ 250) → K (.bool b) H) : ACalls tP zmi [.sl (VT.css vs) .none, .int .i64 n] H K := by
 refine ACalls.out (zEq fun hs => ?_)
 have hO : ∀ b, (b = true → vs.length ≤ n ∧ ∀ v ∈ vs, v.nodes ≤ 250) → Out H.length K (.bool b) H := fun b h => Out.bool (J := []) (by simp) (Nat.le_refl _) hs (hK b h)
 simp only [zt7]
 refine zEo (Inv := fun q t5 H' => ∃ i : Nat, i ≤ vs.length ∧ i ≤ n + 1 ∧ q = vs.length - i ∧ t5 = .int .i64 i ∧ (∀ v ∈ vs.take i, v.nodes ≤ 250) ∧ H = H') vs.length ?_ ?_
 ·intro _; exact ⟨0, by omega, by omega, by omega, rfl, by simp, rfl⟩
 ·rintro q t5 H' ⟨i, hi, hin, rfl, rfl, ha, rfl⟩ hsc hlen' hsF Kb hKb
  by_cases hc : i < vs.length ∧ i ≤ n
  ·obtain ⟨h1, h2⟩ := hc
   have h2' : (i : Int) ≤ n := by omega
   simp [zjB, h1, h2]
   refine zot _ _ _ fun b hb => ?_
   cases b with
   | false => simp; exact hO false (fun h => by cases h)
   | true =>
    simp
    rw [zaq (by omega) (by omega)]
    refine hKb _ _ ⟨vs.length - (i + 1), by omega, Back.here (Nat.le_refl _) hs ?_ ⟨_, rfl, i + 1, by omega, by omega, rfl, by simp, ?_, rfl⟩⟩
    ·simp [zjC, AV.sc, AV.scV, AV.scA, AV.scB]
    ·rw [List.take_succ_eq_append_getElem h1]
     intro v hv
     rcases List.mem_append.1 hv with h | h
     ·exact ha v h
     ·simp at h; subst h; exact hb rfl
  ·have hfin : Out H.length K (.bool (decide ((vs.length : Int) ≤ n))) H := hO _ (fun h => by
    have h : (vs.length : Int) ≤ n := of_decide_eq_true h
    refine ⟨by omega, ?_⟩
    have : i = vs.length := by omega
    rw [this, List.take_length] at ha
    exact ha)
   have hfin' : Out H.length K (.bool (decide (vs.length ≤ n))) H := by
    have e : decide ((vs.length : Int) ≤ n) = decide (vs.length ≤ n) := decide_eq_decide.2 (by omega)
    rwa [e] at hfin
   by_cases h1 : i < vs.length
   ·have h2 : ¬ i ≤ n := fun h => hc ⟨h1, h⟩
    simp [zjB, h1, h2]
    exact hfin'
   ·simp [zjB, h1]
    exact hfin'
theorem zvQ : ∀ (m : Nat) (v : VT), v.nodes ≤ m → v.nodes ≤ 1000000000 → ∀ (H : zaa) (K : AV → zaa → Prop), K (.int .i64 v.nodes) H → ACalls tP zgB [.agg v.cs] H K := by
 intro m
 induction m with
 | zero => intro v h; have := v.nodes_pos; omega
 | succ m ih =>
  intro v hv hb H K hK
  obtain ⟨k, n, ks⟩ := v
  have hnl : VT.nodesL ks + 1 ≤ 1000000000 := by simpa [VT.nodes] using hb
  have hll := VT.len_le ks
  refine ACalls.out (zIQ fun hs => ?_)
  simp [VT.cs, zvO]
  refine zIO (Inv := fun q t3 t4 H' => ∃ i : Nat, i ≤ ks.length ∧ q = ks.length - i ∧ t4 = .int .i64 i ∧ t3 = .int .i64 (1 + VT.nodesL (ks.take i) : Nat) ∧ H' = H ++ [.cells [.int .i64 k, .int .i64 n, .sl (VT.css ks) .none]]) ks.length ?_ ?_
  ·intro _; exact ⟨0, by omega, by omega, rfl, by simp [VT.nodesL], rfl⟩
  ·rintro q t3 t4 H' ⟨i, hi, rfl, rfl, rfl, rfl⟩ hsc hlen hsF Kb hKb
   by_cases hlt : i < ks.length
   ·have hki := VT.kid_lt (k := k) (n := n) hlt
    have h1 := VT.nodesL_take hlt
    have h2 := VT.nodesL_take_le ks (i + 1)
    simp [zpx, hlt]
    refine ih ks[i] (by omega) (by omega) _ _ ?_
    simp
    rw [zaq (by omega) (by omega), zaq (by omega) (by omega)]
    refine hKb _ _ ⟨ks.length - (i + 1), by omega, Back.here (by simp) hsc ?_ ⟨_, _, rfl, i + 1, by omega, rfl, by simp, ?_, rfl⟩⟩
    ·simp [zkN, AV.sc, AV.scV, AV.scA, AV.scB]
    ·rw [h1]; congr 1; omega
   ·obtain rfl : i = ks.length := by omega
    simp [zpx]
    refine Out.int rfl (Nat.le_refl _) hs ?_
    simpa [VT.nodes, Int.add_comm] using hK
theorem zuM : ∀ (m : Nat) (v u : VT), v.nodes ≤ m → v.nodes ≤ 1000000000 → ∀ (H : zaa) (K : AV → zaa → Prop), K (.bool (v.same u)) H → ACalls tP zcp [.agg v.cs, .agg u.cs] H K := by
 intro m
 induction m with
 | zero => intro v u h; have := v.nodes_pos; omega
 | succ m ih =>
  intro v u hv hb H K hK
  obtain ⟨k, n, ks⟩ := v
  obtain ⟨k', n', ks'⟩ := u
  have hnl : VT.nodesL ks + 1 ≤ 1000000000 := by simpa [VT.nodes] using hb
  have hll := VT.len_le ks
  refine ACalls.out (zFO fun hs => ?_)
  have hO : ∀ J, Out H.length K (.bool ((VT.mk k n ks).same (.mk k' n' ks'))) (H ++ J) := fun J => Out.bool rfl (Nat.le_refl _) hs hK
  simp only [VT.same] at hO
  cases hk : (k == k') with
  | false =>
   rw [hk] at hO
   have : (k != k') = true := by simp [bne, hk]
   simp [VT.cs, zgZ, this]
   exact hO _
  | true =>
  have hk' : (k != k') = false := by simp [bne, hk]
  cases hn : (n == n') with
  | false =>
   rw [hk, hn] at hO
   have : (n != n') = true := by simp [bne, hn]
   simp [VT.cs, zgZ, hk', this]
   exact hO _
  | true =>
  have hn' : (n != n') = false := by simp [bne, hn]
  rw [hk, hn, Bool.true_and, Bool.true_and] at hO
  by_cases hl : ks.length = ks'.length
  ·have hl' : ((ks.length : Int) != ks'.length) = false := by simp [hl]
   simp [VT.cs, zgZ, hk', hn', hl]
   refine zFM (Inv := fun q t5 H' => ∃ i : Nat, i ≤ ks.length ∧ q = ks.length - i ∧ t5 = .int .i64 i ∧ VT.sameL (ks.drop i) (ks'.drop i) = VT.sameL ks ks' ∧ H' = H ++ [.cells [.int .i64 k, .int .i64 n, .sl (VT.css ks) .none], .cells [.int .i64 k', .int .i64 n', .sl (VT.css ks') .none]]) ks.length ?_ ?_
   ·intro _; exact ⟨0, by omega, by omega, rfl, by simp, rfl⟩
   ·rintro q t5 H' ⟨i, hi, rfl, rfl, ho, rfl⟩ hsc hlen hsF Kb hKb
    by_cases hlt : i < ks.length
    ·have hlt' : i < ks'.length := by omega
     have hki := VT.kid_lt (k := k) (n := n) hlt
     rw [List.drop_eq_getElem_cons hlt, List.drop_eq_getElem_cons hlt', VT.sameL] at ho
     simp [zoQ, hlt, hlt']
     refine zax (.bool (VT.same ks[i] ks'[i])) (fun J => ih ks[i] ks'[i] (by omega) (by omega) _ _ ⟨rfl, rfl⟩) ?_
     cases hb : VT.same ks[i] ks'[i] with
     | false =>
      rw [hb, Bool.false_and] at ho
      rw [← ho] at hO
      simp
      exact hO _
     | true =>
      rw [hb, Bool.true_and] at ho
      simp
      rw [zaq (by omega) (by omega)]
      refine hKb _ _ ⟨ks.length - (i + 1), by omega, Back.here (by simp) hsc ?_ ⟨_, rfl, i + 1, by omega, rfl, by simp, ho, rfl⟩⟩
      simp [zjZ, AV.sc, AV.scV, AV.scA, AV.scB]
    ·obtain rfl : i = ks.length := by omega
     rw [List.drop_length, hl, List.drop_length, VT.sameL] at ho
     rw [← ho] at hO
     simp [zoQ]
     exact hO _
  ·have hl' : ((ks.length : Int) != ks'.length) = true := by simp; omega
   have hs' : VT.sameL ks ks' = false := by
    have : ∀ (x y : List VT), x.length ≠ y.length → VT.sameL x y = false := by
     intro x
     induction x with
     | nil => intro y h; cases y <;> simp [VT.sameL] at *
     | cons a x ih => intro y h; cases y <;> simp [VT.sameL] at *; intro _; exact ih _ h
    exact this _ _ hl
   rw [hs'] at hO
   simp [VT.cs, zgZ, hk', hn', hl']
   exact hO _
theorem zIY (data : List Dat) (hdl : data.length ≤ 1000000) (vars : Int) : ∀ (m : Nat) (v : VT), v.nodes ≤ m → v.nodes ≤ 1000000000 → ∀ (H : zaa) (K : AV → zaa → Prop), K (.bool (zbq data vars v)) H → ACalls tP zhW [.sl (data.map Dat.cs) .none, .agg v.cs, .int .i64 vars] H K := by
 intro m
 induction m with
 | zero => intro v h; have := v.nodes_pos; omega
 | succ m ih =>
  intro v hv hb H K hK
  obtain ⟨k, n, ks⟩ := v
  have hnl : VT.nodesL ks + 1 ≤ 1000000000 := by simpa [VT.nodes] using hb
  have hll := VT.len_le ks
  refine ACalls.out (zIW fun hs => ?_)
  have hO : ∀ J, Out H.length K (.bool (za4 data vars k n ks.length && zbr data vars ks)) (H ++ J) := fun J => Out.bool rfl (Nat.le_refl _) hs (by simpa [zbq] using hK)
  have hF : za4 data vars k n ks.length = false → ∀ J, Out H.length K (.bool false) (H ++ J) := fun h J => by have := hO J; rwa [h, Bool.false_and] at this
  have loop : za4 data vars k n ks.length = true → zpB (.sl (data.map Dat.cs) .none) (.int .i64 vars) (.ptr H.length 0) (.int .i64 ks.length) (.int .i64 0) (H ++ [.cells [.int .i64 k, .int .i64 n, .sl (VT.css ks) .none]]) (Out H.length K) := by
   intro hsh
   rw [hsh] at hO
   simp only [Bool.true_and] at hO
   refine zIU (Inv := fun q t8 H' => ∃ i : Nat, i ≤ ks.length ∧ q = ks.length - i ∧ t8 = .int .i64 i ∧ zbr data vars (ks.drop i) = zbr data vars ks ∧ H' = H ++ [.cells [.int .i64 k, .int .i64 n, .sl (VT.css ks) .none]]) ks.length ?_ ?_
   ·intro _; exact ⟨0, by omega, by omega, rfl, by simp, rfl⟩
   ·rintro q t8 H' ⟨i, hi, rfl, rfl, ho, rfl⟩ hsc hlen hsF Kb hKb
    by_cases hlt : i < ks.length
    ·have hki := VT.kid_lt (k := k) (n := n) hlt
     rw [List.drop_eq_getElem_cons hlt, zbr] at ho
     simp [zpz, hlt]
     refine ih ks[i] (by omega) (by omega) _ _ ?_
     cases hb : zbq data vars ks[i] with
     | false =>
      rw [hb, Bool.false_and] at ho
      rw [← ho] at hO
      simp
      exact hO _
     | true =>
      rw [hb, Bool.true_and] at ho
      simp
      rw [zaq (by omega) (by omega)]
      refine hKb _ _ ⟨ks.length - (i + 1), by omega, Back.here (by simp) hsc ?_ ⟨_, rfl, i + 1, by omega, rfl, by simp, ho, rfl⟩⟩
      simp [zkP, AV.sc, AV.scV, AV.scA, AV.scB]
    ·obtain rfl : i = ks.length := by omega
     rw [List.drop_length, zbr] at ho
     rw [← ho] at hO
     simp [zpz]
     exact hO _
  have prim : (k = 1 ∨ k = 2 ∨ k = 3) → Out H.length K (.bool (n == 0 && ks.length == 0)) (H ++ [.cells [.int .i64 k, .int .i64 n, .sl (VT.css ks) .none]]) := by
   intro h
   have hsh : za4 data vars k n ks.length = (n == 0 && ks.length == 0) := by rcases h with rfl | rfl | rfl <;> rfl
   have := hO [.cells [.int .i64 k, .int .i64 n, .sl (VT.css ks) .none]]
   rw [hsh] at this
   cases ks with
   | nil => simpa [zbr] using this
   | cons x l => simpa using this
  by_cases h123 : k = 1 ∨ k = 2 ∨ k = 3
  ·have := prim h123
   cases hn : (n == 0) with
   | false => rw [hn, Bool.false_and] at this; rcases h123 with rfl | rfl | rfl <;> simp [zcw, VT.cs, zbN, hn] <;> exact this
   | true =>
    rw [hn, Bool.true_and] at this
    have e : ((ks.length : Int) == 0) = (ks.length == 0) := by rw [Bool.eq_iff_iff]; simp
    rw [← e] at this
    rcases h123 with rfl | rfl | rfl <;> simp only [zcw, VT.cs] <;> simp [zbN, hn] <;> simpa using this
  by_cases h4 : k = 4
  ·subst h4
   have hsh : za4 data vars 4 n ks.length = (decide (0 ≤ n) && decide (n < vars) && ks.length == 0) := rfl
   have hO' : ∀ J, Out H.length K (.bool (decide (0 ≤ n) && decide (n < vars) && ks.length == 0)) (H ++ J) := fun J => by
    have := hO J
    rw [hsh] at this
    cases ks with
    | nil => simpa [zbr] using this
    | cons x l => simpa using this
   have e : ((ks.length : Int) == 0) = (ks.length == 0) := by rw [Bool.eq_iff_iff]; simp
   rw [← e] at hO'
   by_cases g1 : 0 ≤ n
   ·by_cases g2 : n < vars
    ·simp only [zcw, VT.cs]
     simp [zbN, g1, g2]
     simpa [g1, g2] using hO' _
    ·simp only [zcw, VT.cs]
     simp [zbN, g1, g2]
     simpa [g1, g2] using hO' _
   ·simp only [zcw, VT.cs]
    simp [zbN, g1]
    simpa [g1] using hO' _
  by_cases h5 : k = 5
  ·subst h5
   have hsh : za4 data vars 5 n ks.length = (decide (0 ≤ n) && (match data[n.toNat]? with | some d => (ks.length : Int) == d.vars | none => false)) := rfl
   by_cases g1 : 0 ≤ n
   ·have g1' : ¬ n < 0 := by omega
    by_cases g2 : n < data.length
    ·have hnl : n.toNat < data.length := by omega
     have g2' : ¬ (data.length : Int) ≤ n := by omega
     have hat : (data.map Dat.cs)[n.toNat]?.getD [] = [.str data[n.toNat].name, .int .i64 data[n.toNat].vars, .sl (data[n.toNat].cons.map Con.cs) .none] := by simp [hnl, Dat.cs]
     rw [List.getElem?_eq_getElem hnl] at hsh
     simp only [g1, decide_true, Bool.true_and] at hsh
     cases hv : ((ks.length : Int) == data[n.toNat].vars) with
     | false =>
      rw [hv] at hsh
      have hv' : ((ks.length : Int) != data[n.toNat].vars) = true := by simp [bne, hv]
      simp only [zcw, VT.cs]
      simp [zbN, g1', g2', g1, g2, hnl, Dat.cs, hv']
      exact hF hsh _
     | true =>
      rw [hv] at hsh
      have hv' : ((ks.length : Int) != data[n.toNat].vars) = false := by simp [bne, hv]
      simp only [zcw, VT.cs]
      simp [zbN, g1', g2', g1, g2, hnl, Dat.cs, hv', zey, zha]
      exact loop hsh
    ·have g2' : (data.length : Int) ≤ n := by omega
     rw [List.getElem?_eq_none (by omega)] at hsh
     simp only [zcw, VT.cs]
     simp [zbN, g1', g2']
     exact hF (by rw [hsh]; simp) _
   ·have g1' : n < 0 := by omega
    simp only [zcw, VT.cs]
    simp [zbN, g1']
    exact hF (by rw [hsh]; simp [g1]) _
  by_cases h6 : k = 6
  ·subst h6
   have hsh : za4 data vars 6 n ks.length = (n == 0 && decide (2 ≤ ks.length) && decide (ks.length ≤ 6)) := rfl
   simp only [zcw, VT.cs]
   cases hn : (n == 0) with
   | false =>
    have : (n != 0) = true := by simp [bne, hn]
    simp [zbN, this]
    exact hF (by rw [hsh, hn]; rfl) _
   | true =>
    have hn' : (n != 0) = false := by simp [bne, hn]
    by_cases g1 : ks.length < 2
    ·have : (ks.length : Int) < 2 := by omega
     simp [zbN, hn', this]
     exact hF (by rw [hsh]; simp; omega) _
    ·have g1' : ¬ (ks.length : Int) < 2 := by omega
     by_cases g2 : 6 < ks.length
     ·have : (6 : Int) < ks.length := by omega
      simp [zbN, hn', g1', this]
      exact hF (by rw [hsh]; simp; omega) _
     ·have : ¬ (6 : Int) < ks.length := by omega
      simp [zbN, hn', g1', this, zey, zha]
      exact loop (by rw [hsh, hn]; simp; omega)
  by_cases h78 : k = 7 ∨ k = 8
  ·have hsh : za4 data vars k n ks.length = (n == 0 && ks.length == 1) := by rcases h78 with rfl | rfl <;> rfl
   cases hn : (n == 0) with
   | false =>
    have : (n != 0) = true := by simp [bne, hn]
    have fin := hF (by rw [hsh, hn]; rfl)
    simp only [zcw, VT.cs]
    rcases h78 with rfl | rfl <;> simp [zbN, zdN, this] <;> exact fin _
   | true =>
    have hn' : (n != 0) = false := by simp [bne, hn]
    by_cases g1 : ks.length = 1
    ·have g1' : ((ks.length : Int) != 1) = false := by simp [g1]
     have fin := loop (by rw [hsh, hn, g1]; rfl)
     simp only [zcw, VT.cs]
     rcases h78 with rfl | rfl <;> simp [zbN, zdN, hn', g1', zey, zha] <;> exact fin
    ·have g1' : ((ks.length : Int) != 1) = true := by simp; omega
     have fin := hF (by rw [hsh]; simp [g1])
     simp only [zcw, VT.cs]
     rcases h78 with rfl | rfl <;> simp [zbN, zdN, hn', g1'] <;> exact fin _
  have b1 : (k == 1) = false := by simp; omega
  have b2 : (k == 2) = false := by simp; omega
  have b3 : (k == 3) = false := by simp; omega
  have b4 : (k == 4) = false := by simp; omega
  have b5 : (k == 5) = false := by simp; omega
  have b6 : (k == 6) = false := by simp; omega
  have b7 : (k == 7) = false := by simp; omega
  have b8 : (k == 8) = false := by simp; omega
  by_cases h9 : k = 9
  ·subst h9
   have hsh : za4 data vars 9 n ks.length = (n == 0 && decide (1 ≤ ks.length) && decide (ks.length ≤ 7)) := rfl
   simp only [zcw, VT.cs]
   cases hn : (n == 0) with
   | false =>
    have : (n != 0) = true := by simp [bne, hn]
    simp [zbN, zdN, this]
    exact hF (by rw [hsh, hn]; rfl) _
   | true =>
    have hn' : (n != 0) = false := by simp [bne, hn]
    by_cases g1 : ks.length < 1
    ·have : (ks.length : Int) < 1 := by omega
     simp [zbN, zdN, hn', this]
     exact hF (by rw [hsh]; simp; omega) _
    ·have g1' : ¬ (ks.length : Int) < 1 := by omega
     by_cases g2 : 7 < ks.length
     ·have : (7 : Int) < ks.length := by omega
      simp [zbN, zdN, hn', g1', this]
      exact hF (by rw [hsh]; simp; omega) _
     ·have : ¬ (7 : Int) < ks.length := by omega
      simp [zbN, zdN, hn', g1', this, zey, zha]
      exact loop (by rw [hsh, hn]; simp; omega)
  ·have b9 : (k == 9) = false := by simp; omega
   simp only [zcw, VT.cs]
   simp [zbN, zdN, b1, b2, b3, b4, b5, b6, b7, b8, b9]
   exact hF (by unfold za4; simp [b1, b2, b3, b4, b5, b6, b7, b8, b9]) _
theorem zfX (data : List Dat) (hdl : data.length ≤ 1000000) (vars : Int) (v : VT) (hb : v.nodes ≤ 1000000000) (H : zaa) (K : AV → zaa → Prop) (hK : K (.bool (zav data vars v)) H) : ACalls tP zfA [.sl (data.map Dat.cs) .none, .agg v.cs, .int .i64 vars] H K := by
 refine ACalls.out (zFD fun hs => ?_)
 have hO : ∀ J, Out H.length K (.bool (zav data vars v)) (H ++ J) := fun J => Out.bool rfl (Nat.le_refl _) hs hK
 unfold zav at hO
 simp [zuI]
 refine zvQ _ v (Nat.le_refl _) hb _ _ ?_
 by_cases h : v.nodes ≤ 200
 ·have h' : (v.nodes : Int) ≤ 200 := by omega
  simp [h']
  refine zIY data hdl vars _ v (Nat.le_refl _) hb _ _ ?_
  simpa [h] using hO _
 ·have h' : ¬ (v.nodes : Int) ≤ 200 := by omega
  simp [h']
  simpa [h] using hO _
theorem zzj {x y : List VT} (h : x.length ≠ y.length) : VT.sameL x y = false := by
 cases hs : VT.sameL x y with
 | false => rfl
 | true => exact (h (VT.sameL_len x y hs)).elim
theorem zI8 (x y : List VT) (hx : ∀ v ∈ x, v.nodes ≤ 1000000000) (hl : x.length ≤ 1000000000) (H : zaa) (K : AV → zaa → Prop) (hK : K (.bool (VT.sameL x y)) H) : ACalls tP zc7 [.sl (VT.css x) .none, .sl (VT.css y) .none] H K := by
 refine ACalls.out (zI6 fun hs => ?_)
 have hO : Out H.length K (.bool (VT.sameL x y)) H := Out.bool (J := []) (by simp) (Nat.le_refl _) hs hK
 by_cases hlen : x.length = y.length
 ·have hl' : ((x.length : Int) != y.length) = false := by simp [hlen]
  simp [zpC, hlen]
  refine zI4 (Inv := fun q t5 H' => ∃ i : Nat, i ≤ x.length ∧ q = x.length - i ∧ t5 = .int .i64 i ∧ VT.sameL (x.drop i) (y.drop i) = VT.sameL x y ∧ H = H') x.length ?_ ?_
  ·intro _; exact ⟨0, by omega, by omega, rfl, by simp, rfl⟩
  ·rintro q t5 H' ⟨i, hi, rfl, rfl, ho, rfl⟩ hsc hlen2 hsF Kb hKb
   by_cases hlt : i < x.length
   ·have hlt' : i < y.length := by omega
    rw [List.drop_eq_getElem_cons hlt, List.drop_eq_getElem_cons hlt', VT.sameL] at ho
    simp [zpD, hlt, hlt']
    refine zax (.bool (VT.same x[i] y[i])) (fun J => zuM _ x[i] y[i] (Nat.le_refl _) (hx _ (List.getElem_mem hlt)) _ _ ⟨rfl, rfl⟩) ?_
    cases hb : VT.same x[i] y[i] with
    | false =>
     rw [hb, Bool.false_and] at ho
     rw [← ho] at hO
     simp
     exact hO
    | true =>
     rw [hb, Bool.true_and] at ho
     simp
     rw [zaq (by omega) (by omega)]
     refine hKb _ _ ⟨x.length - (i + 1), by omega, Back.here (by simp) hsc ?_ ⟨_, rfl, i + 1, by omega, rfl, by simp, ho, rfl⟩⟩
     simp [zkR, AV.sc, AV.scV, AV.scA, AV.scB]
   ·obtain rfl : i = x.length := by omega
    rw [List.drop_length, hlen, List.drop_length, VT.sameL] at ho
    rw [← ho] at hO
    simp [zpD]
    exact hO
 ·have hl' : ((x.length : Int) != y.length) = true := by simp; omega
  rw [zzj hlen] at hO
  simp [zpC, hl']
  exact hO
def zbg (es : List (List AV)) (id : Nat) : AV := match es with | [] => .snil | _ => .sl es (.own id)
def zbk (e s : Nat) (n : Nat) : zaa := match n with | 0 => [] | n => [.perm e s n]
theorem zls (es : List (List AV)) (id : Nat) : WkA (zbg es id) (.sl es .none) := by
 cases es with
 | nil => exact .snil
 | cons e es => exact .sl _ _
theorem zlr (es : List (List AV)) {id n : Nat} (h : es = [] ∨ id < n) : (zbg es id).scA n = true := by
 cases es with
 | nil => rfl
 | cons e es =>
  rcases h with h | h
  ·cases h
  ·simpa [zbg, AV.scA, AV.scB] using h
theorem zwH (es : List (List AV)) (id : Nat) : (zbg es id).known = true := by cases es <;> rfl
theorem zwG (es : List (List AV)) (id : Nat) : (zbg es id).cs? = some [zbg es id] := by cases es <;> rfl
theorem zwI {e s bytes : Nat} {es : List (List AV)} {y : List AV} {t : Tok} {H : zaa} {K : AV → zaa → Prop} (hy : y.length = s) (hb : (es.length + 1) * bytes ≤ 140737488355328) (hl : es.length + 1 ≤ 9223372036854775807)
  (hk : K (zbg (es ++ [y]) H.length) (H ++ zbk e s (es.length + 1))) : zaH e s bytes (zbg es H.length) (.sl [y] t) (H ++ zbk e s es.length) K := by
 unfold zaH zbE
 refine ⟨by simpa using hy, ?_⟩
 cases es with
 | nil =>
  unfold zbb
  simp [zbg, zbk] at *
  exact ⟨by omega, hk⟩
 | cons x es =>
  unfold zbb
  simp [zbg, zbk] at *
  refine ⟨⟨by omega, by omega⟩, hk⟩
theorem zhj {e s bytes id n : Nat} {es : List (List AV)} {y : List AV} {t : Tok} {H0 Hh : zaa} {K : AV → zaa → Prop} (hn : n = es.length) (he : Hh = H0 ++ zbk e s n) (hid : id = H0.length) (hy : y.length = s) (hb : (es.length + 1) * bytes ≤ 140737488355328) (hl : es.length + 1 ≤ 9223372036854775807)
  (hk : K (zbg (es ++ [y]) id) (H0 ++ zbk e s (n + 1))) : zaH e s bytes (zbg es id) (.sl [y] t) Hh K := by
 subst he hid hn
 exact zwI hy hb hl hk
@[simp] theorem zNA (es : List (List AV)) (id : Nat) : (zbg es id).cs? = some [zbg es id] := zwG es id
@[simp] theorem zNB (es : List (List AV)) (id : Nat) : (zbg es id).known = true := zwH es id
theorem zbH {v : VT} {k : AV → Prop} : zay 3 [.int .i64 0, .int .i64 0, .snil] 1 [(0, .agg v.cs)] k = k (.sl [v.cs] .full) := by
 cases v
 exact propext Iff.rfl
theorem zgh {l : List VT} {i : Nat} (h : i < l.length) : VT.css (l.take (i + 1)) = VT.css (l.take i) ++ [(l[i]).cs] := by
 rw [VT.css_map, VT.css_map, List.take_succ_eq_append_getElem h, List.map_append]
 rfl
theorem zmM {H J : zaa} {K : AV → zaa → Prop} {k n : Int} {ks : List VT} {id : Nat} (hs : HSc H) (hK : K (.agg (VT.mk k n ks).cs) H) : Out H.length K (.agg [.int .i64 k, .int .i64 n, zbg (VT.css ks) id]) (H ++ J) :=
 Out.at rfl (Nat.le_refl _) hs (WkV.agg (ds := [.int .i64 k, .int .i64 n, .sl (VT.css ks) .none]) ⟨.refl _, .refl _, zls _ _, trivial⟩) rfl (by simp [AV.scV, AV.scA, AV.scB]) (by simpa [VT.cs] using hK)
theorem zxE : ∀ (m : Nat) (v : VT), v.nodes ≤ m → v.nodes ≤ 1000000 → ∀ (H : zaa) (K : AV → zaa → Prop), K (.agg v.cs) H → ACalls tP zhJ [.agg v.cs] H K := by
 intro m
 induction m with
 | zero => intro v h; have := v.nodes_pos; omega
 | succ m ih =>
  intro v hv hb H K hK
  obtain ⟨k, n, ks⟩ := v
  have hnl : VT.nodesL ks + 1 ≤ 1000000 := by simpa [VT.nodes] using hb
  have hll := VT.len_le ks
  refine ACalls.out (zBR fun hs => ?_)
  simp [VT.cs, ztj, zaI, zbu, Nat.add_assoc]
  refine zBP (Inv := fun q t4 H' => ∃ i : Nat, i ≤ ks.length ∧ q = ks.length - i ∧ t4 = .int .i64 i ∧ H' = H ++ [.cells [.int .i64 k, .int .i64 n, .sl (VT.css ks) .none], .cells [.int .i64 0, .int .i64 0, .snil], .cells [.int .i64 k, .int .i64 n, zbg (VT.css (ks.take i)) (H.length + 3)]] ++ zbk zaB 3 i) ks.length ?_ ?_
  ·intro _; exact ⟨0, by omega, by omega, rfl, by simp [zbk, zbg, VT.css]⟩
  ·rintro q t4 H' ⟨i, hi, rfl, rfl, rfl⟩ hsc hlen hsF Kb hKb
   by_cases hlt : i < ks.length
   ·have hki := VT.kid_lt (k := k) (n := n) hlt
    simp [znI, hlt]
    refine zax (.agg (ks[i]).cs) (fun J => ih ks[i] (by omega) (by omega) _ _ ⟨rfl, rfl⟩) ?_
    rw [zbH]
    refine zhj (H0 := H ++ [.cells [.int .i64 k, .int .i64 n, .sl (VT.css ks) .none], .cells [.int .i64 0, .int .i64 0, .snil], .cells [.int .i64 k, .int .i64 n, zbg (VT.css (ks.take i)) (H.length + 3)]]) (n := i) (by simp; omega) (by simp) (by simp) (by simp) (by simp; omega) (by simp; omega) ?_
    rw [← zgh hlt]
    simp
    rw [zaq (by omega) (by omega)]
    refine hKb _ _ ⟨ks.length - (i + 1), by omega, Back.here (by simp [zbk]) ?_ ?_ ⟨_, rfl, i + 1, by omega, rfl, by simp, by simp⟩⟩
    ·refine hs.append ?_
     simp [AB.sc, zbk, AV.scA, AV.scB]
     exact zlr _ (.inr (by omega))
    ·simp [ziO, AV.sc, AV.scV, AV.scA, AV.scB]
   ·obtain rfl : i = ks.length := by omega
    rw [List.take_length] at *
    simp [znI]
    exact zmM hs hK
theorem zd1 (args : List VT) : ∀ l : List VT, zaU args l = l.map (subst args)
 | [] => rfl
 | t :: ts => by rw [zaU, zd1 args ts]; rfl
theorem zK0 (args : List VT) (ha : ∀ x ∈ args, x.nodes ≤ 1000000) (hal : args.length ≤ 1000000) : ∀ (m : Nat) (v : VT), v.nodes ≤ m → v.nodes ≤ 1000000 → ∀ (H : zaa) (K : AV → zaa → Prop), K (.agg (subst args v).cs) H → ACalls tP zh1 [.agg v.cs, .sl (VT.css args) .none] H K := by
 intro m
 induction m with
 | zero => intro v h; have := v.nodes_pos; omega
 | succ m ih =>
  intro v hv hb H K hK
  obtain ⟨k, n, ks⟩ := v
  have hnl : VT.nodesL ks + 1 ≤ 1000000 := by simpa [VT.nodes] using hb
  have hll := VT.len_le ks
  refine ACalls.out (zKY fun hs => ?_)
  by_cases hvar : k = 4 ∧ 0 ≤ n ∧ n < args.length
  ·obtain ⟨rfl, h0, h1⟩ := hvar
   have hn : n.toNat < args.length := by omega
   have hK' : K (.agg (args[n.toNat]).cs) H := by
    rw [subst, if_pos ⟨rfl, h0, h1⟩, List.getElem?_eq_getElem hn] at hK
    exact hK
   simp [VT.cs, zqc, h0, h1, hn]
   refine zxE _ _ (Nat.le_refl _) (ha _ (List.getElem_mem hn)) _ _ ?_
   generalize args[n.toNat] = x at *
   obtain ⟨k', n', ks'⟩ := x
   simp [VT.cs]
   exact Out.at rfl (Nat.le_refl _) hs .rfl' rfl rfl hK'
  ·have hK' : K (.agg (VT.mk k n (zaU args ks)).cs) H := by
    rw [subst, if_neg hvar] at hK
    exact hK
   have go : ∀ H1, H1 = H ++ [.cells [.int .i64 k, .int .i64 n, .sl (VT.css ks) .none], .cells [.int .i64 0, .int .i64 0, .snil], .cells [.int .i64 k, .int .i64 n, .snil]] → zqf (.sl (VT.css args) .none) (.ptr H.length 0) (.ptr (H.length + 1) 0) (.ptr (H.length + 2) 0) (.int .i64 0) H1 (Out H.length K) := by
    rintro _ rfl
    refine zKW (Inv := fun q t6 H' => ∃ i : Nat, i ≤ ks.length ∧ q = ks.length - i ∧ t6 = .int .i64 i ∧ H' = H ++ [.cells [.int .i64 k, .int .i64 n, .sl (VT.css ks) .none], .cells [.int .i64 0, .int .i64 0, .snil], .cells [.int .i64 k, .int .i64 n, zbg (VT.css ((zaU args ks).take i)) (H.length + 3)]] ++ zbk zaB 3 i) ks.length ?_ ?_
    ·intro _; exact ⟨0, by omega, by omega, rfl, by simp [zbk, zbg, VT.css]⟩
    ·rintro q t6 H' ⟨i, hi, rfl, rfl, rfl⟩ hsc hlen hsF Kb hKb
     by_cases hlt : i < ks.length
     ·have hki := VT.kid_lt (k := k) (n := n) hlt
      have hlt' : i < (zaU args ks).length := by rw [zd1]; simpa using hlt
      have hsi : (zaU args ks)[i] = subst args ks[i] := by simp [zd1]
      simp [zqd, hlt]
      refine zax (.agg (subst args ks[i]).cs) (fun J => ih ks[i] (by omega) (by omega) _ _ ⟨rfl, rfl⟩) ?_
      rw [zbH, ← hsi]
      refine zhj (H0 := H ++ [.cells [.int .i64 k, .int .i64 n, .sl (VT.css ks) .none], .cells [.int .i64 0, .int .i64 0, .snil], .cells [.int .i64 k, .int .i64 n, zbg (VT.css ((zaU args ks).take i)) (H.length + 3)]]) (n := i) (by simp; omega) (by simp) (by simp) (by simp) (by simp; omega) (by simp; omega) ?_
      rw [← zgh hlt']
      simp
      rw [zaq (by omega) (by omega)]
      refine hKb _ _ ⟨ks.length - (i + 1), by omega, Back.here (by simp [zbk]) ?_ ?_ ⟨_, rfl, i + 1, by omega, rfl, by simp, by simp⟩⟩
      ·refine hs.append ?_
       simp [AB.sc, zbk, AV.scA, AV.scB]
       exact zlr _ (.inr (by omega))
      ·simp [zll, AV.sc, AV.scV, AV.scA, AV.scB]
     ·obtain rfl : i = ks.length := by omega
      have e : (zaU args ks).take ks.length = zaU args ks := List.take_of_length_le (by rw [zd1]; simp)
      rw [e]
      simp [zqd]
      exact zmM hs hK'
   simp only [VT.cs, zqc]
   by_cases h4 : k = 4
   ·subst h4
    by_cases h0 : 0 ≤ n
    ·have h1 : ¬ n < args.length := fun h => hvar ⟨rfl, h0, h⟩
     simp [h0, h1, zaI, zbu, Nat.add_assoc]
     exact go _ rfl
    ·simp [h0, zaI, zbu, Nat.add_assoc]
     exact go _ rfl
   ·have h4' : (k == 4) = false := by simpa using h4
    simp [h4', zaI, zbu, Nat.add_assoc]
    exact go _ rfl
mutual
theorem zsp {args : List VT} {M : Nat} (h1 : 1 ≤ M) (ha : ∀ x ∈ args, x.nodes ≤ M) : ∀ v : VT, (subst args v).nodes ≤ v.nodes * M
 | .mk k n ks => by
  unfold subst
  split
  ·rename_i h
   have hn : n.toNat < args.length := by omega
   rw [List.getElem?_eq_getElem hn]
   have := ha _ (List.getElem_mem hn)
   have h2 : M ≤ (VT.mk k n ks).nodes * M := by
    have := (VT.mk k n ks).nodes_pos
    exact Nat.le_mul_of_pos_left M this
   simp only [Option.getD_some]
   omega
  ·have := zsn h1 ha ks
   simp only [VT.nodes, Nat.succ_mul]
   omega
theorem zsn {args : List VT} {M : Nat} (h1 : 1 ≤ M) (ha : ∀ x ∈ args, x.nodes ≤ M) : ∀ l : List VT, VT.nodesL (zaU args l) ≤ VT.nodesL l * M
 | [] => by simp [zaU, VT.nodesL]
 | t :: ts => by
  have h2 := zsp h1 ha t
  have h3 := zsn h1 ha ts
  simp only [zaU, VT.nodesL, Nat.add_mul]
  omega
end
theorem zhz {k n : Int} {ks : List VT} : ∀ x ∈ ks, x.nodes ≤ (VT.mk k n ks).nodes := by
 intro x hx
 obtain ⟨i, hi, rfl⟩ := List.mem_iff_getElem.1 hx
 exact Nat.le_of_lt (VT.kid_lt hi)
theorem zx5 {k n : Int} {ks : List VT} : ∀ x ∈ ks, x.nodes < (VT.mk k n ks).nodes := by
 intro x hx
 obtain ⟨i, hi, rfl⟩ := List.mem_iff_getElem.1 hx
 exact VT.kid_lt hi
theorem zsA {H : zaa} {x y : AB} : H ++ [x, y] = (H ++ [x]) ++ [y] := by simp
theorem zc5 (data : List Dat) (k n : Int) (ks : List VT) (c : Int) : zbo data (.mk k n ks) c = (if k = 5 ∧ 0 ≤ n ∧ 0 ≤ c then
  match data[n.toNat]? with
  | some d => if (ks.length : Int) = d.vars then
    match d.cons[c.toNat]? with
    | some co => if (co.args.map (subst ks)).all (fun x => decide (x.nodes ≤ 200)) = true then some (co.args.map (subst ks)) else none
    | none => none
   else none
  | none => none
 else none) := rfl
def zcm (o : Option (List VT)) : AV := match o with
 | some l => .tup [.sl (VT.css l) .none, .bool true]
 | none => .tup [.sl [] .none, .bool false]
theorem zry {α : Type} {l : List α} {i : Nat} (h : i < l.length) {p : α → Prop} (h1 : ∀ x ∈ l.take i, p x) (h2 : p l[i]) : ∀ x ∈ l.take (i + 1), p x := by
 rw [List.take_succ_eq_append_getElem h]
 intro x hx
 rcases List.mem_append.1 hx with hx | hx
 ·exact h1 x hx
 ·simp at hx; subst hx; exact h2
theorem zcL (v : VT) : ∃ a b c, v.cs = [a, b, c] ∧ a.known = true ∧ b.known = true ∧ c.known = true := by
 obtain ⟨k, n, ks⟩ := v; exact ⟨_, _, _, rfl, rfl, rfl, rfl⟩
theorem zJf (data : List Dat) (hdl : data.length ≤ 1000000) (hda : ∀ d ∈ data, ∀ c ∈ d.cons, c.args.length ≤ 1000 ∧ ∀ x ∈ c.args, x.nodes ≤ 1000) (hdc : ∀ d ∈ data, d.cons.length ≤ 1000000) (t : VT) (ht : t.nodes ≤ 1000) (c : Int) (H : zaa) (K : AV → zaa → Prop) (hK : K (zcm (zbo data t c)) H) :
  ACalls tP zgC [.sl (data.map Dat.cs) .none, .agg t.cs, .int .i64 c] H K := by
 refine ACalls.out (zJd fun hs => ?_)
 obtain ⟨k, n, ks⟩ := t
 have hkn : VT.nodesL ks + 1 ≤ 1000 := by simpa [VT.nodes] using ht
 have hkl := VT.len_le ks
 have hF : zbo data (.mk k n ks) c = none → ∀ J, Out H.length K (.tup [.snil, .bool false]) (H ++ J) := fun h J => by
  rw [h] at hK
  exact Out.tup hs hK ⟨zgI, zb7 rfl rfl, trivial⟩
 have hFF : ∀ J, zbo data (.mk k n ks) c = none → Out H.length K (.tup [.snil, .bool false]) (H ++ J) := fun J h => hF h J
 simp only [VT.cs, zvT]
 by_cases h5 : k = 5
 case neg =>
  have : (k != 5) = true := by simpa using h5
  simp [this, AV.isV]
  exact hF (by rw [zc5, if_neg (fun h => h5 h.1)]) _
 subst h5
 by_cases h0 : n < 0
 ·simp [h0, AV.isV]
  exact hF (by rw [zc5, if_neg (fun h => by have := h.2.1; omega)]) _
 by_cases h1 : (data.length : Int) ≤ n
 ·simp [h0, h1, AV.isV]
  exact hF (by
   rw [zc5]
   split
   ·rw [List.getElem?_eq_none (by omega)]
   ·rfl) _
 have hn : n.toNat < data.length := by omega
 have h1' : n < data.length := by omega
 have h0' : 0 ≤ n := by omega
 generalize hdd : data[n.toNat] = d at *
 have hd : d ∈ data := by rw [← hdd]; exact List.getElem_mem hn
 have hget : data[n.toNat]? = some d := by rw [List.getElem?_eq_getElem hn, hdd]
 cases hv : ((ks.length : Int) == d.vars) with
 | false =>
  have hv' : ((ks.length : Int) != d.vars) = true := by simp [bne, hv]
  simp [h0, h1, h0', h1', hn, hdd, Dat.cs, hv', AV.isV, hget]
  exact hF (by
   rw [zc5]
   split
   ·rw [hget]
    simp only
    rw [if_neg (by simpa using hv)]
   ·rfl) _
 | true =>
 have hv' : ((ks.length : Int) != d.vars) = false := by simp [bne, hv]
 have hve : (ks.length : Int) = d.vars := by simpa using hv
 by_cases hc0 : c < 0
 ·simp [h0, h1, h0', h1', hn, hdd, Dat.cs, hv', AV.isV, hget, hc0]
  exact hF (by rw [zc5, if_neg (fun h => by have := h.2.2; omega)]) _
 have hfe : ∀ o, (match d.cons[c.toNat]? with | some k => if (k.args.map (subst ks)).all (fun x => decide (x.nodes ≤ 200)) = true then some (k.args.map (subst ks)) else none | none => none) = o → zbo data (.mk 5 n ks) c = o := fun o h => by
  rw [zc5, if_pos ⟨rfl, h0', by omega⟩, hget]
  simp only
  rw [if_pos hve]
  exact h
 by_cases hc1 : (d.cons.length : Int) ≤ c
 ·simp [h0, h1, h0', h1', hn, hdd, Dat.cs, hv', AV.isV, hget, hc0, hc1]
  exact hF (hfe none (by rw [List.getElem?_eq_none (by omega)])) _
 have hcn : c.toNat < d.cons.length := by omega
 have hc1' : c < d.cons.length := by omega
 have hc0' : 0 ≤ c := by omega
 generalize hcc : d.cons[c.toNat] = co at *
 have hco : co ∈ d.cons := by rw [← hcc]; exact List.getElem_mem hcn
 have hgc : d.cons[c.toNat]? = some co := by rw [List.getElem?_eq_getElem hcn, hcc]
 obtain ⟨hal, han⟩ := hda d hd co hco
 have hfe' := fun o => hfe o
 rw [hgc] at hfe'
 simp only at hfe'
 have hsub : ∀ x ∈ co.args, (subst ks x).nodes ≤ 1000000 := fun x hx => by
  have h2 := zsp (M := 1000) (by omega) (fun y hy => Nat.le_trans (zhz (k := 5) (n := n) y hy) ht) x
  have h3 := han x hx
  have : x.nodes * 1000 ≤ 1000 * 1000 := Nat.mul_le_mul_right _ h3
  omega
 simp [h0, h1, h0', h1', hn, hdd, Dat.cs, hv', AV.isV, hget, hc0, hc1, hc0', hc1', hcn, hcc, Con.cs, hgc]
 have hperm : ∀ m, HSc (H ++ [.cells [.int .i64 5, .int .i64 n, .sl (VT.css ks) .none], .perm zaB 3 m]) := fun m => hs.append rfl
 unfold zkU
 refine ALoop.own 8 zaB 3 rfl ?_
 have hlen1 : (H ++ [AB.cells [.int .i64 5, .int .i64 n, .sl (VT.css ks) .none]]).length = H.length + 1 := by simp
 rw [hlen1, List.append_assoc]
 show zkU (.ptr H.length 0) (.sl [] (.own (H.length + 1))) (.sl (VT.css co.args) .none) (.int .i64 co.args.length) (.int .i64 0) (H ++ [.cells [.int .i64 5, .int .i64 n, .sl (VT.css ks) .none], .perm zaB 3 0]) (Out H.length K)
 refine zJb (Inv := fun q t8 t65 H' => ∃ i : Nat, i ≤ co.args.length ∧ q = co.args.length - i ∧ t65 = .int .i64 i ∧ t8 = .sl (VT.css ((co.args.map (subst ks)).take i)) (.own (H.length + 1)) ∧ (∀ x ∈ co.args.take i, (subst ks x).nodes ≤ 200) ∧ H' = H ++ [.cells [.int .i64 5, .int .i64 n, .sl (VT.css ks) .none], .perm zaB 3 i]) co.args.length ?_ ?_
 ·intro _; exact ⟨0, by omega, by omega, rfl, by simp [VT.css], by simp, rfl⟩
 ·rintro q t8 t65 H' ⟨i, hi, rfl, rfl, rfl, hall, rfl⟩ hsc hlen hsF Kb hKb
  by_cases hlt : i < co.args.length
  ·have hmem := List.getElem_mem hlt
   have hx3 := hsub _ hmem
   obtain ⟨x, y, z, hvx, hx, hy, hz⟩ := zcL co.args[i]
   simp [zpF, hlt, hvx, hx, hy, hz]
   rw [← hvx]
   refine zK0 ks (fun y hy => by have := zhz (k := 5) (n := n) y hy; omega) (by omega) _ co.args[i] (Nat.le_refl _) (by have := han _ hmem; omega) _ _ ?_
   obtain ⟨x', y', z', hvx', hx', hy', hz'⟩ := zcL (subst ks co.args[i])
   simp [hvx', hx', hy', hz']
   rw [← hvx']
   refine zvQ _ _ (Nat.le_refl _) (by omega) _ _ ?_
   by_cases h200 : (subst ks co.args[i]).nodes ≤ 200
   ·have h200' : ¬ (200 : Int) < (subst ks co.args[i]).nodes := by omega
    simp [h200']
    rw [zbH]
    simp [zaH, zbE, zbb]
    refine ⟨by omega, by omega, ?_⟩
    rw [zaq (by omega) (by omega), show min i co.args.length = i by omega]
    refine hKb _ _ ⟨co.args.length - (i + 1), by omega, Back.at (H2 := H ++ [.cells [.int .i64 5, .int .i64 n, .sl (VT.css ks) .none], .perm zaB 3 (i + 1)]) (J := [_, _]) (by simp; exact ⟨rfl, rfl⟩) (by simp) (hperm _) ?_ ⟨_, _, rfl, i + 1, by omega, rfl, by simp, ?_, zry hlt hall h200, rfl⟩⟩
    ·simp [zkT, AV.sc, AV.scV, AV.scA, AV.scB]
    ·rw [zgh (by simpa using hlt)]; simp
   ·have h200' : (200 : Int) < (subst ks co.args[i]).nodes := by omega
    simp [h200', AV.isV]
    refine hF (hfe' none ?_) _
    rw [if_neg]
    intro hal2
    have := List.all_eq_true.1 hal2 (subst ks co.args[i]) (List.mem_map.2 ⟨_, hmem, rfl⟩)
    exact h200 (of_decide_eq_true this)
  ·obtain rfl : i = co.args.length := by omega
   rw [List.take_length] at hall
   rw [List.take_of_length_le (by simp)]
   simp [zpF, AV.isV]
   have hfs := hfe' (some (co.args.map (subst ks))) (if_pos (List.all_eq_true.2 fun y hy => by
    obtain ⟨x, hx, rfl⟩ := List.mem_map.1 hy
    exact decide_eq_true (hall x hx)))
   rw [hfs] at hK
   exact Out.tup hs hK ⟨slV, zb7 rfl rfl, trivial⟩
theorem zCx : ∀ (m : Nat) (v : VT), v.nodes ≤ m → v.nodes ≤ 1000000000 → ∀ (H : zaa) (K : AV → zaa → Prop), K (.int .i64 v.nodes) H → ACalls tP zhN [.agg v.cs] H K := by
 intro m
 induction m with
 | zero => intro v h; have := v.nodes_pos; omega
 | succ m ih =>
  intro v hv hb H K hK
  obtain ⟨k, n, ks⟩ := v
  have hnl : VT.nodesL ks + 1 ≤ 1000000000 := by simpa [VT.nodes] using hb
  have hll := VT.len_le ks
  refine ACalls.out (zCv fun hs => ?_)
  simp [VT.cs, ztv]
  refine zCt (Inv := fun q t3 t4 H' => ∃ i : Nat, i ≤ ks.length ∧ q = ks.length - i ∧ t4 = .int .i64 i ∧ t3 = .int .i64 (1 + VT.nodesL (ks.take i) : Nat) ∧ H' = H ++ [.cells [.int .i64 k, .int .i64 n, .sl (VT.css ks) .none]]) ks.length ?_ ?_
  ·intro _; exact ⟨0, by omega, by omega, rfl, by simp [VT.nodesL], rfl⟩
  ·rintro q t3 t4 H' ⟨i, hi, rfl, rfl, rfl, rfl⟩ hsc hlen hsF Kb hKb
   by_cases hlt : i < ks.length
   ·have hki := VT.kid_lt (k := k) (n := n) hlt
    have h1 := VT.nodesL_take hlt
    have h2 := VT.nodesL_take_le ks (i + 1)
    obtain ⟨x, y, z, hvx, hx, hy, hz⟩ := zcL ks[i]
    simp [znP, hlt, hvx, hx, hy, hz]
    rw [← hvx]
    refine ih ks[i] (by omega) (by omega) _ _ ?_
    simp
    rw [zaq (by omega) (by omega), zaq (by omega) (by omega), zsA]
    refine hKb _ _ ⟨ks.length - (i + 1), by omega, Back.same (by simp) hsc ?_ ⟨_, _, rfl, i + 1, by omega, rfl, by simp, ?_, rfl⟩⟩
    ·simp [ziV, AV.sc, AV.scV, AV.scA, AV.scB]
    ·rw [h1]; congr 1; omega
   ·obtain rfl : i = ks.length := by omega
    simp [znP]
    refine Out.int rfl (Nat.le_refl _) hs ?_
    simpa [VT.nodes, Int.add_comm] using hK
def zde (f : VT → VT → Bool) : List VT → List VT → Bool
 | [], [] => true
 | a :: x, b :: y => f a b && zde f x y
 | _, _ => false
theorem zq0 {f : VT → VT → Bool} : ∀ {x y : List VT}, x.length ≠ y.length → zde f x y = false
 | [], [], h => (h rfl).elim
 | a :: x, b :: y, h => by
  have : x.length ≠ y.length := fun e => h (by simp [e])
  simp [zde, zq0 this]
 | [], _ :: _, _ => rfl
 | _ :: _, [], _ => rfl
theorem zlM : ∀ x y : List VT, zde VT.same x y = VT.sameL x y
 | [], [] => rfl
 | a :: x, b :: y => by simp [zde, VT.sameL, zlM x y]
 | [], _ :: _ => rfl
 | _ :: _, [] => rfl
theorem zq1 (f : VT → VT → Bool) (fv : AV) (hsc : ∀ n, fv.sc n = true) (x y : List VT) (hf : ∀ a ∈ x, ∀ (b : VT) (H : zaa) (K : AV → zaa → Prop), K (.bool (f a b)) H → aCallV tP fv [.agg a.cs, .agg b.cs] H K)
  (hl : x.length ≤ 1000000000) (H : zaa) (K : AV → zaa → Prop) (hK : K (.bool (zde f x y)) H) : ACalls tP zhZ [.sl (VT.css x) .none, .sl (VT.css y) .none, fv] H K := by
 refine ACalls.out (zJU fun hs => ?_)
 have hO : ∀ J, Out H.length K (.bool (zde f x y)) (H ++ J) := fun J => Out.bool rfl (Nat.le_refl _) hs hK
 by_cases hlen : x.length = y.length
 ·simp [zpW, hlen]
  refine zJS (Inv := fun q t17 H' => ∃ i : Nat, i ≤ x.length ∧ q = x.length - i ∧ t17 = .int .i64 i ∧ zde f (x.drop i) (y.drop i) = zde f x y ∧ H = H') x.length ?_ ?_
  ·intro _; exact ⟨0, by omega, by omega, rfl, by simp, rfl⟩
  ·rintro q t17 H' ⟨i, hi, rfl, rfl, ho, rfl⟩ hsc4 hlen2 hsF Kb hKb
   by_cases hlt : i < x.length
   ·have hlt' : i < y.length := by omega
    have hltI : (i : Int) < y.length := by omega
    rw [List.drop_eq_getElem_cons hlt, List.drop_eq_getElem_cons hlt', zde] at ho
    obtain ⟨x1, x2, x3, hvx, hx1, hx2, hx3⟩ := zcL x[i]
    obtain ⟨y1, y2, y3, hvy, hy1, hy2, hy3⟩ := zcL y[i]
    simp [zpX, hlt, hlt', hvx, hx1, hx2, hx3, hvy, hy1, hy2, hy3]
    rw [← hvx, ← hvy]
    refine hf _ (List.getElem_mem hlt) _ _ _ ?_
    cases hb : f x[i] y[i] with
    | false =>
     rw [hb, Bool.false_and] at ho
     rw [← ho] at hO
     simp
     exact hO _
    | true =>
     rw [hb, Bool.true_and] at ho
     simp
     rw [zaq (by omega) (by omega)]
     refine hKb _ _ ⟨x.length - (i + 1), by omega, Back.same (by simp) hs ?_ ⟨_, rfl, i + 1, by omega, rfl, by simp, ho, rfl⟩⟩
     simp [zk6, AV.sc, AV.scV, AV.scA, AV.scB]
     exact hsc _
   ·have hlt' : ¬ i < y.length := by omega
    obtain rfl : i = x.length := by omega
    rw [List.drop_length, hlen, List.drop_length, zde] at ho
    rw [← ho] at hO
    simp [zpX, hlt']
    simpa using hO []
 ·have hl' : ((x.length : Int) != y.length) = true := by simp; omega
  rw [zq0 hlen] at hO
  simp [zpW, hl']
  simpa using hO []
theorem zqF : zcy tP zbF = true := by kernel_rfl
theorem zkx : ∀ (m : Nat) (v u : VT), v.nodes ≤ m → v.nodes ≤ 1000000000 → ∀ (H : zaa) (K : AV → zaa → Prop), K (.bool (v.same u)) H → ACalls tP zbF [.agg v.cs, .agg u.cs] H K := by
 intro m
 induction m with
 | zero => intro v u h; have := v.nodes_pos; omega
 | succ m ih =>
  intro v u hv hb H K hK
  obtain ⟨k, n, ks⟩ := v
  obtain ⟨k', n', ks'⟩ := u
  have hnl : VT.nodesL ks + 1 ≤ 1000000000 := by simpa [VT.nodes] using hb
  have hll := VT.len_le ks
  refine ACalls.out (zHQ fun hs => ?_)
  have hO : ∀ J, Out H.length K (.bool ((VT.mk k n ks).same (.mk k' n' ks'))) (H ++ J) := fun J => Out.bool rfl (Nat.le_refl _) hs hK
  simp only [VT.same] at hO
  simp only [VT.cs, zvq]
  cases hk : (k == k') with
  | false =>
   rw [hk] at hO
   simp [hk]
   exact hO _
  | true =>
  cases hn : (n == n') with
  | false =>
   rw [hk, hn] at hO
   simp [hk, hn]
   exact hO _
  | true =>
   rw [hk, hn, Bool.true_and, Bool.true_and, ← zlM] at hO
   simp [hk, hn]
   refine zq1 VT.same _ (fun _ => rfl) ks ks' (fun a ha b H K hK => ?_) (by omega) _ _ ?_
   ·simp only [aCallV, zqF, List.append_nil]
    have := zx5 (k := k) (n := n) a ha
    exact ih a b (by omega) (by omega) H K hK
   ·exact hO _
theorem zxW (x : List VT) (hl : x.length ≤ 1000000000) (fv : AV) (H : zaa) (K : AV → zaa → Prop) (hfv : fv.sc H.length = true) (Inv : Nat → zaa → Prop) (h0 : Inv 0 H)
  (step : ∀ (i : Nat) (h : i < x.length) (H' : zaa), H.length ≤ H'.length → Inv i H' → aCallV tP fv [.agg (x[i]).cs] H' fun r H'' => (r = .bool false ∧ Inv (i + 1) H'') ∨ (r = .bool true ∧ K (.int .i64 i) H''))
  (fin : ∀ H', Inv x.length H' → K (.int .i64 (-1)) H') : ACalls tP zmA [.sl (VT.css x) .none, fv] H K := by
 refine zJD fun hs => ?_
 simp [zv3]
 refine zJB (Inv := fun q t8 H' => ∃ i : Nat, i ≤ x.length ∧ q = x.length - i ∧ t8 = .int .i64 i ∧ H.length ≤ H'.length ∧ Inv i H') x.length ?_ ?_
 ·intro _; exact ⟨0, by omega, by omega, rfl, Nat.le_refl _, h0⟩
 ·rintro q t8 H' ⟨i, hi, rfl, rfl, hle, hI⟩ hsc hlen hsF Kb hKb
  by_cases hlt : i < x.length
  ·simp [zpQ, hlt]
   refine (step i hlt H' hle hI).mono' fun r H'' hsc' hle' hr => ?_
   rcases hr with ⟨rfl, hI'⟩ | ⟨rfl, hk⟩
   ·simp
    rw [zaq (by omega) (by omega)]
    refine hKb _ _ ⟨x.length - (i + 1), by omega, Back.here (by omega) hsc' ?_ ⟨_, rfl, i + 1, by omega, rfl, by simp, by omega, hI'⟩⟩
    simp [zk1, AV.sc, AV.scV, AV.scA, AV.scB]
    exact zcs (by omega) hfv
   ·simpa using hk
  ·obtain rfl : i = x.length := by omega
   simp [zpQ]
   exact fin H' hI
theorem zlH (x : List VT) (hl : x.length ≤ 1000000000) (fv : AV) (H : zaa) (K : AV → zaa → Prop) (hfv : fv.sc H.length = true) (Inv : Nat → zaa → Prop) (h0 : Inv 0 H)
  (step : ∀ (i : Nat) (h : i < x.length) (H' : zaa), H.length ≤ H'.length → Inv i H' → aCallV tP fv [.agg (x[i]).cs] H' fun r H'' => (r = .bool false ∧ Inv (i + 1) H'') ∨ (r = .bool true ∧ K (.bool true) H''))
  (fin : ∀ H', Inv x.length H' → K (.bool false) H') : ACalls tP zeS [.sl (VT.css x) .none, fv] H K := by
 refine zHH fun hs => ?_
 unfold zvn
 refine zxW x hl fv H _ hfv Inv h0 (fun i h H' hle hI => (step i h H' hle hI).mono' fun r H'' _ _ hr => ?_) (fun H' hI => ?_)
 ·rcases hr with hr | ⟨h1, h2⟩
  ·exact .inl hr
  ·refine .inr ⟨h1, ?_⟩
   have : decide ((0 : Int) ≤ i) = true := by simp
   simpa using h2
 ·simpa using fin H' hI
theorem zxl : zcy tP zhF = true := by kernel_rfl
section
variable (data : List Dat) (vars : Int)
theorem zAb : ∀ (l : List VT) (i : Nat) (h : i < l.length), zbr data vars l = true → zbq data vars l[i] = true := by
 intro l
 induction l with
 | nil => intro i h; simp at h
 | cons a l ih =>
  intro i h hl
  simp [zbr] at hl
  cases i with
  | zero => exact hl.1
  | succ i => exact ih i (by simpa using h) hl.2
def zbK (left : Int) : AB := .cells [.sl (data.map Dat.cs) .none, .int .i64 vars, .int .i64 left]
theorem zAx : ∀ (m : Nat) (v : VT), v.nodes ≤ m → v.nodes ≤ 1000000000 → ∀ (left : Int), left ≤ 1000000 → -1 ≤ left → ∀ (H : zaa) (id : Nat), H[id]? = some (zbK data vars left) → ∀ (K : AV → zaa → Prop),
  (zbq data vars v = true → (v.nodes : Int) ≤ left → K (.bool true) (H.set id (zbK data vars (left - v.nodes)))) → (¬ (zbq data vars v = true ∧ (v.nodes : Int) ≤ left) → ∀ l', K (.bool false) (H.set id (zbK data vars l'))) →
  ACalls tP zhY [.ptr id 0, .agg v.cs] H K := by
 intro m
 induction m with
 | zero => intro v h; have := v.nodes_pos; omega
 | succ m ih =>
  intro v hv hb left hl1 hl0 H id hid K hK hF
  obtain ⟨k, n, ks⟩ := v
  have hlt := zbQ hid
  have hnn : (VT.mk k n ks).nodes = VT.nodesL ks + 1 := by simp [VT.nodes]
  have hll := VT.len_le ks
  refine ACalls.out (zJP fun hs => ?_)
  -- the heap within: the receiver's copy and the type's
  generalize hJ : ([.cells [.ptr id 0], .cells [.int .i64 k, .int .i64 n, .sl (VT.css ks) .none]] : zaa) = J
  have hJ0 : J[0]? = some (.cells [.ptr id 0]) := by subst hJ; rfl
  have hJ1 : J[1]? = some (.cells [.int .i64 k, .int .i64 n, .sl (VT.css ks) .none]) := by subst hJ; rfl
  have hget : ∀ l', (H.set id (zbK data vars l') ++ J)[id]? = some (zbK data vars l') := fun l' => zaM (zcT _ hid)
  have bad : (¬ (zbq data vars (.mk k n ks) = true ∧ ((VT.mk k n ks).nodes : Int) ≤ left)) → ∀ l', Out H.length K (.bool false) (H.set id (zbK data vars l') ++ J) := fun h l' =>
   Out.bool rfl (by simp) (hs.set rfl) (hF h l')
  have badS : za4 data vars k n ks.length = false → ∀ l', Out H.length K (.bool false) (H.set id (zbK data vars l') ++ J) := fun h l' => bad (fun ⟨h1, _⟩ => by simp [zbq, h] at h1) l'
  -- the arguments
  have args : za4 data vars k n ks.length = true → 1 ≤ left → ∀ KK : AV → zaa → Prop, (∀ H', Out H.length K (.bool true) H' → KK (.bool false) H') → (∀ H', Out H.length K (.bool false) H' → KK (.bool true) H') →
    ACalls tP zeS [.sl (VT.css ks) .none, .fn zhF [.ptr H.length 0]] (H.set id (zbK data vars (left - 1)) ++ J) KK := by
   intro hsh h1 KK hKf hKt
   subst hJ
   refine zlH ks (by omega) _ _ _ (by simp [AV.sc, AV.scV, AV.scA, AV.scB]) (fun i H' => (VT.nodesL (ks.take i) : Int) + 1 ≤ left ∧ zbr data vars (ks.take i) = true ∧ H' = H.set id (zbK data vars (left - 1 - VT.nodesL (ks.take i))) ++ [.cells [.ptr id 0], .cells [.int .i64 k, .int .i64 n, .sl (VT.css ks) .none]]) ⟨by simp [VT.nodesL]; omega, by simp [zbr], by simp [VT.nodesL]⟩ ?_ ?_
   ·rintro i hi H' hle ⟨hb1, hb2, rfl⟩
    have hki := VT.kid_lt (k := k) (n := n) hi
    have h1 := VT.nodesL_take hi
    have h2 := VT.nodesL_take_le ks (i + 1)
    have hokL : zbr data vars (ks.take (i + 1)) = (zbr data vars (ks.take i) && zbq data vars ks[i]) := by
     rw [List.take_succ_eq_append_getElem hi]
     have : ∀ (l : List VT) (x : VT), zbr data vars (l ++ [x]) = (zbr data vars l && zbq data vars x) := by
      intro l x
      induction l with
      | nil => simp [zbr]
      | cons a l ih => simp [zbr, ih, Bool.and_assoc]
     exact this _ _
    simp only [aCallV, zxl, List.singleton_append]
    refine ACalls.out (zAK fun hs1 => ?_)
    have hH1 : ∀ l', HSc (H.set id (zbK data vars l') ++ [.cells [.ptr id 0], .cells [.int .i64 k, .int .i64 n, .sl (VT.css ks) .none]]) := fun l' => (hs.set rfl).append (by simp [AB.sc, AV.scA, AV.scB]; omega)
    obtain ⟨x1, x2, x3, hvx, hx1, hx2, hx3⟩ := zcL ks[i]
    have hll2 : (H.set id (zbK data vars (left - 1 - VT.nodesL (ks.take i)))).length = H.length := by simp
    have hg1 : (H.set id (zbK data vars (left - 1 - VT.nodesL (ks.take i))) ++ [AB.cells [.ptr id 0], .cells [.int .i64 k, .int .i64 n, .sl (VT.css ks) .none], .cells [x1, x2, x3]])[H.length]? = some (.cells [.ptr id 0]) := by
     rw [List.getElem?_append_right (by simp)]; simp
    have hg2 : (H.set id (zbK data vars (left - 1 - VT.nodesL (ks.take i))) ++ [AB.cells [.ptr id 0], .cells [.int .i64 k, .int .i64 n, .sl (VT.css ks) .none], .cells [x1, x2, x3]])[H.length + 2]? = some (.cells [x1, x2, x3]) := by
     rw [List.getElem?_append_right (by simp)]; simp
    simp [zsY, hvx, hg1, hg2, hll2]
    rw [← hvx]
    refine ih ks[i] (by omega) (by omega) (left - 1 - VT.nodesL (ks.take i)) (by omega) (by omega) _ id (zaM (zcT _ hid)) _ ?_ ?_
    ·intro ho hle2
     rw [zdq _ (zcT _ hid), List.set_set, show left - 1 - (VT.nodesL (ks.take i) : Int) - (ks[i]).nodes = left - 1 - VT.nodesL (ks.take (i + 1)) by omega]
     simp
     refine Out.bool (J := [_]) (H2 := H.set id (zbK data vars (left - 1 - VT.nodesL (ks.take (i + 1)))) ++ [.cells [.ptr id 0], .cells [.int .i64 k, .int .i64 n, .sl (VT.css ks) .none]]) (by simp; rfl) (by simp) (hH1 _) (.inl ⟨rfl, by omega, by rw [hokL, hb2, ho]; rfl, rfl⟩)
    ·intro ho l'
     rw [zdq _ (zcT _ hid), List.set_set]
     simp
     have hno : ¬ (zbq data vars (.mk k n ks) = true ∧ ((VT.mk k n ks).nodes : Int) ≤ left) := by
      rintro ⟨g1, g2⟩
      have hall : zbr data vars ks = true := by simp [zbq] at g1; exact g1.2
      exact ho ⟨zAb data vars ks i hi hall, by omega⟩
     have hb3 := bad hno l'
     exact Out.bool (J := [_]) (H2 := H.set id (zbK data vars l') ++ [.cells [.ptr id 0], .cells [.int .i64 k, .int .i64 n, .sl (VT.css ks) .none]]) (by simp; rfl) (by simp) (hH1 _) (.inr ⟨rfl, hKt _ hb3⟩)
   ·rintro H' ⟨hb1, hb2, rfl⟩
    rw [List.take_length] at *
    refine hKf _ ?_
    refine Out.bool rfl (by simp) (hs.set rfl) ?_
    have := hK (by simp [zbq, hsh, hb2]) (by omega)
    rw [hnn] at this
    rw [show left - 1 - (VT.nodesL ks : Int) = left - ((VT.nodesL ks + 1 : Nat) : Int) by omega]
    exact this
  -- behind the shape
  have fin : ∀ lo hi : Int, (k ≠ 4 → k ≠ 5 → n ≠ 0 → za4 data vars k n ks.length = false) → ((ks.length : Int) < lo ∨ hi < (ks.length : Int) → za4 data vars k n ks.length = false) → 1 ≤ left →
    ((k = 4 ∨ k = 5 ∨ n = 0) → lo ≤ (ks.length : Int) → (ks.length : Int) ≤ hi → za4 data vars k n ks.length = true) →
    zf6 (.ptr H.length 0) (.ptr (H.length + 1) 0) (.int .i64 lo) (.int .i64 hi) (H.set id (zbK data vars (left - 1)) ++ J) (Out H.length K) := by
   intro lo hi hz hr h1 hok
   have hg3 : (H.set id (zbK data vars (left - 1)) ++ J)[H.length + 1]? = some (.cells [.int .i64 k, .int .i64 n, .sl (VT.css ks) .none]) := by
    rw [List.getElem?_append_right (by simp)]; subst hJ; simp
   by_cases hcase : k = 4 ∨ k = 5 ∨ n = 0
   ·have h3 : (k != 4) = false ∨ ((k != 4) = true ∧ (k != 5) = false) ∨ ((k != 4) = true ∧ (k != 5) = true ∧ (n != 0) = false) := by
     by_cases g4 : k = 4
     ·left; simp [g4]
     ·by_cases g5 : k = 5
      ·right; left; simp [g5]
      ·right; right; simp [g4, g5]; omega
    rcases h3 with g | ⟨g, g'⟩ | ⟨g, g', g''⟩
    case' inl => simp [zf6, hg3, hJ1, g]
    case' inr.inl => simp [zf6, hg3, hJ1, g, g']
    case' inr.inr => simp [zf6, hg3, hJ1, g, g', g'']
    all_goals
     by_cases hlo : (ks.length : Int) < lo
     ·simp [hlo]
      exact badS (hr (.inl hlo)) _
     ·by_cases hhi : hi < (ks.length : Int)
      ·simp [hlo, hhi, hJ1]
       exact badS (hr (.inr hhi)) _
      ·simp [hlo, hhi, AV.isB, hJ1]
       refine args (hok hcase (by omega) (by omega)) h1 _ (fun H' ho => ?_) (fun H' ho => ?_) <;> simpa using ho
   ·have g : (k != 4) = true := by simp; omega
    have g' : (k != 5) = true := by simp; omega
    have g'' : (n != 0) = true := by simp; omega
    simp [zf6, hg3, hJ1, g, g', g'']
    exact badS (hz (by omega) (by omega) (by omega)) _
  have start : (H ++ J)[id]? = some (zbK data vars left) := zaM hid
  have hmain : zpS (.ptr H.length 0) (.ptr (H.length + 1) 0) (H.set id (zbK data vars (left - 1)) ++ J) (Out H.length K) := by
   refine zJH fun hs1 => ?_
   have hgv := hget (left - 1)
   unfold zbK at hgv
   by_cases h0 : left - 1 < 0
   ·simp [zpT, hJ0, zbK, hgv, h0]
    exact bad (fun h => by have := h.2; rw [hnn] at this; omega) _
   have h1 : 1 ≤ left := by omega
   simp [zpT, hJ0, hJ1, zbK, hgv, h0]
   refine zJK fun _ => ?_
   have hfin := fun lo hi a b c => fin lo hi a b h1 c
   unfold zbK at hfin badS
   -- the three without arguments
   by_cases h123 : k = 1 ∨ k = 2 ∨ k = 3
   ·have hsh : za4 data vars k n ks.length = (n == 0 && ks.length == 0) := by rcases h123 with rfl | rfl | rfl <;> rfl
    have := hfin 0 0 (fun _ _ hn => by rw [hsh]; simp [hn]) (fun h => by rw [hsh]; simp; intro _; rintro rfl; simp at h) (fun h h2 h3 => by
     have hn : n = 0 := by omega
     have hl : ks.length = 0 := by omega
     rw [hsh, hn, hl]; rfl)
    rcases h123 with rfl | rfl | rfl <;> simp [zpU] <;> refine zv7 fun _ => ?_ <;> simp [zdl, zc9] <;> exact this
   have b1 : (k == 1) = false := by simp; omega
   have b2 : (k == 2) = false := by simp; omega
   have b3 : (k == 3) = false := by simp; omega
   simp [zpU, b1, b2, b3]
   refine zv7 fun _ => ?_
   by_cases h4 : k = 4
   ·subst h4
    have hsh : za4 data vars 4 n ks.length = (decide (0 ≤ n) && decide (n < vars) && ks.length == 0) := rfl
    by_cases g1 : n < 0
    ·simp [zdl, hJ0, hJ1, hgv, g1]
     exact badS (by rw [hsh]; simp; omega) _
    by_cases g2 : vars ≤ n
    ·simp [zdl, hJ0, hJ1, hgv, g1, g2]
     exact badS (by rw [hsh]; simp; omega) _
    have := hfin 0 0 (fun h => (h rfl).elim) (fun h => by rw [hsh]; simp; intro _ _; rintro rfl; simp at h) (fun h h2 h3 => by
     have hl : ks.length = 0 := by omega
     rw [hsh, hl]; simp; omega)
    simp [zdl, hJ0, hJ1, hgv, g1, g2, zc9]
    exact this
   have b4 : (k == 4) = false := by simp; omega
   by_cases h5 : k = 5
   ·subst h5
    have hsh : za4 data vars 5 n ks.length = (decide (0 ≤ n) && (match data[n.toNat]? with | some d => (ks.length : Int) == d.vars | none => false)) := rfl
    by_cases g1 : n < 0
    ·simp [zdl, hJ0, hJ1, hgv, g1]
     exact badS (by rw [hsh]; simp; omega) _
    by_cases g2 : (data.length : Int) ≤ n
    ·simp [zdl, hJ0, hJ1, hgv, g1, g2]
     exact badS (by rw [hsh, List.getElem?_eq_none (by omega)]; simp) _
    have hnl : n.toNat < data.length := by omega
    have g2' : n < data.length := by omega
    have g1' : 0 ≤ n := by omega
    rw [List.getElem?_eq_getElem hnl] at hsh
    simp only [g1', decide_true, Bool.true_and] at hsh
    have := hfin (data[n.toNat]).vars (data[n.toNat]).vars (fun _ h => (h rfl).elim) (fun h => by rw [hsh]; simp; omega) (fun h h2 h3 => by rw [hsh]; simp; omega)
    simp [zdl, hJ0, hJ1, hgv, g1, g2, g1', g2', hnl, Dat.cs, zc9]
    exact this
   have b5 : (k == 5) = false := by simp; omega
   by_cases h6 : k = 6
   ·subst h6
    have hsh : za4 data vars 6 n ks.length = (n == 0 && decide (2 ≤ ks.length) && decide (ks.length ≤ 6)) := rfl
    have := hfin 2 6 (fun _ _ hn => by rw [hsh]; simp [hn]) (fun h => by rw [hsh]; simp; intros; omega) (fun h h2 h3 => by rw [hsh]; simp; omega)
    simp [zdl, zc9]
    exact this
   have b6 : (k == 6) = false := by simp; omega
   by_cases h78 : k = 7 ∨ k = 8
   ·have hsh : za4 data vars k n ks.length = (n == 0 && ks.length == 1) := by rcases h78 with rfl | rfl <;> rfl
    have := hfin 1 1 (fun _ _ hn => by rw [hsh]; simp [hn]) (fun h => by rw [hsh]; simp; intros; omega) (fun h h2 h3 => by rw [hsh]; simp; omega)
    rcases h78 with rfl | rfl <;> simp [zdl] <;> refine zv8 fun _ => ?_ <;> simp [zk3, zc9] <;> exact this
   have b7 : (k == 7) = false := by simp; omega
   have b8 : (k == 8) = false := by simp; omega
   simp [zdl, b4, b5, b6, b7, b8]
   refine zv8 fun _ => ?_
   by_cases h9 : k = 9
   ·subst h9
    have hsh : za4 data vars 9 n ks.length = (n == 0 && decide (1 ≤ ks.length) && decide (ks.length ≤ 7)) := rfl
    have := hfin 1 7 (fun _ _ hn => by rw [hsh]; simp [hn]) (fun h => by rw [hsh]; simp; intros; omega) (fun h h2 h3 => by rw [hsh]; simp; omega)
    simp [zk3, zc9]
    exact this
   ·have b9 : (k == 9) = false := by simp; omega
    simp [zk3, b9]
    exact badS (by unfold za4; simp [b1, b2, b3, b4, b5, b6, b7, b8, b9]) _
  subst hJ
  unfold zbK at start
  simp [zv5, VT.cs, start]
  rw [zaq (by omega) (by omega), zdq _ hid]
  exact hmain
theorem zkw (v : VT) (hb : v.nodes ≤ 1000000000) (H : zaa) (K : AV → zaa → Prop) (hK : K (.bool (zav data vars v)) H) : ACalls tP zfD [.sl (data.map Dat.cs) .none, .agg v.cs, .int .i64 vars] H K := by
 refine ACalls.out (zHN fun hs => ?_)
 have hO : ∀ J, Out H.length K (.bool (zav data vars v)) (H ++ J) := fun J => Out.bool rfl (Nat.le_refl _) hs hK
 obtain ⟨x1, x2, x3, hvx, hx1, hx2, hx3⟩ := zcL v
 simp [zvp, hvx, zaI, zbu]
 rw [← hvx]
 refine zAx data vars _ v (Nat.le_refl _) hb 200 (by omega) (by omega) _ (H.length + 1) (by simp [zbK]) _ ?_ ?_
 ·intro ho hn
  have : zav data vars v = true := by simp [zav, ho]; omega
  rw [this] at hO
  simp
  exact hO _
 ·intro hno l'
  have : zav data vars v = false := by
   cases h : zav data vars v with
   | false => rfl
   | true => simp [zav] at h; exact (hno ⟨h.2, by omega⟩).elim
  rw [this] at hO
  simp
  exact hO _
end
mutual
theorem zsq : ∀ v : VT, subst [] v = v
 | .mk k n ks => by
  rw [subst, if_neg (by rintro ⟨_, h1, h2⟩; simp at h2; omega), zso ks]
theorem zso : ∀ l : List VT, zaU [] l = l
 | [] => rfl
 | t :: ts => by rw [zaU, zsq t, zso ts]
end
theorem zCL : ∀ (m : Nat) (args : List VT), (∀ x ∈ args, x.nodes ≤ 1000000) → args.length ≤ 1000000 → ∀ (v : VT), (if args = [] then v.nodes else v.nodes + 1000001) ≤ m → v.nodes ≤ 1000000 → ∀ (H : zaa) (K : AV → zaa → Prop), K (.agg (subst args v).cs) H → ACalls tP zgx [.agg v.cs, .sl (VT.css args) .none] H K := by
 intro m
 induction m with
 | zero => intro args _ _ v h; have := v.nodes_pos; split at h <;> omega
 | succ m ih =>
  intro args ha hal v hv hb H K hK
  obtain ⟨k, n, ks⟩ := v
  have hnl : VT.nodesL ks + 1 ≤ 1000000 := by simpa [VT.nodes] using hb
  have hll := VT.len_le ks
  refine ACalls.out (zCJ fun hs => ?_)
  by_cases hvar : k = 4 ∧ 0 ≤ n ∧ n < args.length
  ·obtain ⟨rfl, h0, h1⟩ := hvar
   have hn : n.toNat < args.length := by omega
   have hne : args ≠ [] := by rintro rfl; simp at hn
   have hK' : K (.agg (args[n.toNat]).cs) H := by
    rw [subst, if_pos ⟨rfl, h0, h1⟩, List.getElem?_eq_getElem hn] at hK
    exact hK
   have hle := ha _ (List.getElem_mem hn)
   simp [VT.cs, znW, h0, h1, hn]
   rw [if_neg hne] at hv
   refine ACalls.wk (args' := [.agg (args[n.toNat]).cs, .sl (VT.css []) .none]) ?_ ⟨.rfl', .atom .snil, trivial⟩
   refine ih [] (by simp) (by simp) _ (by simp; omega) hle _ _ ?_
   rw [zsq]
   generalize args[n.toNat] = x at *
   obtain ⟨k', n', ks'⟩ := x
   simp [VT.cs]
   exact Out.at rfl (Nat.le_refl _) hs .rfl' rfl rfl hK'
  ·have hK' : K (.agg (VT.mk k n (zaU args ks)).cs) H := by
    rw [subst, if_neg hvar] at hK
    exact hK
   have go : ∀ H1, H1 = H ++ [.cells [.int .i64 k, .int .i64 n, .sl (VT.css ks) .none], .cells [.int .i64 0, .int .i64 0, .snil], .cells [.int .i64 k, .int .i64 n, .snil]] → zgN (.sl (VT.css args) .none) (.ptr (H.length + 1) 0) (.ptr (H.length + 2) 0) (.sl (VT.css ks) .none) (.int .i64 ks.length) (.int .i64 0) H1 (Out H.length K) := by
    rintro _ rfl
    unfold zgN
    refine ALoop.ownC (cs := [.int .i64 k, .int .i64 n, .snil]) (H.length + 2) 2 zaB 3 (by simp) rfl ?_
    have e0 : (H ++ [AB.cells [.int .i64 k, .int .i64 n, .sl (VT.css ks) .none], .cells [.int .i64 0, .int .i64 0, .snil], .cells [.int .i64 k, .int .i64 n, .snil]]).length = H.length + 3 := by simp
    rw [e0, zm2, List.append_assoc]
    have hJ : ∀ i X, HSc (H ++ [.cells [.int .i64 k, .int .i64 n, .sl (VT.css ks) .none], .cells [.int .i64 0, .int .i64 0, .snil], .cells [.int .i64 k, .int .i64 n, .sl X (.own (H.length + 3))], .perm zaB 3 i]) := fun i X => hs.append (by simp [AB.sc, AV.scA, AV.scB])
    show zgN (.sl (VT.css args) .none) (.ptr (H.length + 1) 0) (.ptr (H.length + 2) 0) (.sl (VT.css ks) .none) (.int .i64 ks.length) (.int .i64 0) (H ++ [.cells [.int .i64 k, .int .i64 n, .sl (VT.css ks) .none], .cells [.int .i64 0, .int .i64 0, .snil], .cells [.int .i64 k, .int .i64 n, .sl [] (.own (H.length + 3))], .perm zaB 3 0]) (Out H.length K)
    refine zCH (Inv := fun q t37 H' => ∃ i : Nat, i ≤ ks.length ∧ q = ks.length - i ∧ t37 = .int .i64 i ∧ H' = H ++ [.cells [.int .i64 k, .int .i64 n, .sl (VT.css ks) .none], .cells [.int .i64 0, .int .i64 0, .snil], .cells [.int .i64 k, .int .i64 n, .sl (VT.css ((zaU args ks).take i)) (.own (H.length + 3))], .perm zaB 3 i]) ks.length ?_ ?_
    ·intro _; exact ⟨0, by omega, by omega, rfl, by simp [VT.css]⟩
    ·rintro q t37 H' ⟨i, hi, rfl, rfl, rfl⟩ hsc hlen hsF Kb hKb
     by_cases hlt : i < ks.length
     ·have hki := VT.kid_lt (k := k) (n := n) hlt
      have hsl : (zaU args ks).length = ks.length := by rw [zd1]; simp
      have hlt' : i < (zaU args ks).length := by omega
      have hsi : (zaU args ks)[i] = subst args ks[i] := by simp [zd1]
      obtain ⟨x1, x2, x3, hvx, hx1, hx2, hx3⟩ := zcL ks[i]
      simp [znX, hlt, hvx, hx1, hx2, hx3]
      rw [← hvx]
      refine zax (.agg (subst args ks[i]).cs) (fun J => ih args ha hal ks[i] (by by_cases he : args = [] <;> simp only [he, if_true, if_false] at hv ⊢ <;> omega) (by omega) _ _ ⟨rfl, rfl⟩) ?_
      rw [zbH, ← hsi]
      simp [zaH, zbE, zbb, hsl]
      refine ⟨by omega, ⟨by omega, by omega⟩, ?_⟩
      rw [zaq (by omega) (by omega), show min i ks.length = i by omega]
      refine hKb _ _ ⟨ks.length - (i + 1), by omega, Back.at (J := [_]) (H2 := H ++ [.cells [.int .i64 k, .int .i64 n, .sl (VT.css ks) .none], .cells [.int .i64 0, .int .i64 0, .snil], .cells [.int .i64 k, .int .i64 n, .sl (VT.css ((zaU args ks).take (i + 1))) (.own (H.length + 3))], .perm zaB 3 (i + 1)]) (by rw [zgh hlt']; simp; rfl) (by simp) (hJ _ _) ?_ ⟨_, rfl, i + 1, by omega, rfl, by simp, rfl⟩⟩
      simp [zi0, AV.sc, AV.scV, AV.scA, AV.scB]
     ·obtain rfl : i = ks.length := by omega
      have e : (zaU args ks).take ks.length = zaU args ks := List.take_of_length_le (by rw [zd1]; simp)
      rw [e]
      simp [znX]
      exact Out.at rfl (Nat.le_refl _) hs (WkV.agg (ds := [.int .i64 k, .int .i64 n, .sl (VT.css (zaU args ks)) .none]) ⟨.refl _, .refl _, .sl _ _, trivial⟩) rfl (by simp [AV.scV, AV.scA, AV.scB]) (by simpa [VT.cs] using hK')
   simp only [VT.cs, znW]
   by_cases h4 : k = 4
   ·subst h4
    by_cases h0 : 0 ≤ n
    ·have h1 : ¬ n < args.length := fun h => hvar ⟨rfl, h0, h⟩
     simp [h0, h1, zaI, zbu, Nat.add_assoc]
     exact go _ rfl
    ·simp [h0, zaI, zbu, Nat.add_assoc]
     exact go _ rfl
   ·have h4' : (k == 4) = false := by simpa using h4
    simp [h4', zaI, zbu, Nat.add_assoc]
    exact go _ rfl
def zig (args : List VT) : AB := .cells (args.map fun x => .int .i64 x.nodes)
theorem zCE (args : List VT) (ha : ∀ x ∈ args, x.nodes ≤ 1000000) (hal : args.length ≤ 1000000) : ∀ (m : Nat) (v : VT), v.nodes ≤ m → v.nodes ≤ 1000000 → ∀ (H : zaa) (id : Nat), H[id]? = some (zig args) → ∀ (K : AV → zaa → Prop),
  (∀ r : Nat, (r ≤ 200 ↔ (subst args v).nodes ≤ 200) → (r ≤ 200 → r = (subst args v).nodes) → r ≤ 1000000 + 200 * v.nodes → K (.int .i64 r) H) → ACalls tP zhO [.agg v.cs, .ms id 0 args.length args.length] H K := by
 intro m
 induction m with
 | zero => intro v h; have := v.nodes_pos; omega
 | succ m ih =>
  intro v hv hb H id hid K hK
  obtain ⟨k, n, ks⟩ := v
  have hnl : VT.nodesL ks + 1 ≤ 1000000 := by simpa [VT.nodes] using hb
  have hll := VT.len_le ks
  have hidl := zbQ hid
  refine ACalls.out (zCC fun hs => ?_)
  by_cases hvar : k = 4 ∧ 0 ≤ n ∧ n < args.length
  ·obtain ⟨rfl, h0, h1⟩ := hvar
   have hn : n.toNat < args.length := by omega
   have hsub : subst args (.mk 4 n ks) = args[n.toNat] := by rw [subst, if_pos ⟨rfl, h0, h1⟩, List.getElem?_eq_getElem hn]; rfl
   rw [hsub] at hK
   have hg : (H ++ [AB.cells [.int .i64 4, .int .i64 n, .sl (VT.css ks) .none]])[id]? = some (zig args) := zaM hid
   have hle := ha _ (List.getElem_mem hn)
   unfold zig at hg
   simp [VT.cs, znR, h0, h1, hn, hg, zaK]
   exact Out.int rfl (Nat.le_refl _) hs (hK _ Iff.rfl (fun _ => rfl) (by omega))
  ·have hsub : subst args (.mk k n ks) = .mk k n (zaU args ks) := by rw [subst, if_neg hvar]
   have hnodes : (subst args (.mk k n ks)).nodes = VT.nodesL (zaU args ks) + 1 := by rw [hsub]; rfl
   rw [hnodes] at hK
   have hO : ∀ r : Nat, (r ≤ 200 ↔ VT.nodesL (zaU args ks) + 1 ≤ 200) → (r ≤ 200 → r = VT.nodesL (zaU args ks) + 1) → r ≤ 1000000 + 200 * (VT.mk k n ks).nodes → ∀ J, Out H.length K (.int .i64 r) (H ++ J) := fun r h1 h2 h3 J => Out.int rfl (Nat.le_refl _) hs (hK r h1 h2 h3)
   have hsl : (zaU args ks).length = ks.length := by rw [zd1]; simp
   have go : znV (.ms id 0 args.length args.length) (.int .i64 1) (.sl (VT.css ks) .none) (.int .i64 ks.length) (.int .i64 0) (H ++ [.cells [.int .i64 k, .int .i64 n, .sl (VT.css ks) .none]]) (Out H.length K) := by
    refine zCA (Inv := fun q t5 t31 H' => ∃ i : Nat, i ≤ ks.length ∧ q = ks.length - i ∧ t31 = .int .i64 i ∧ t5 = .int .i64 (1 + VT.nodesL ((zaU args ks).take i) : Nat) ∧ 1 + VT.nodesL ((zaU args ks).take i) ≤ 200 ∧ H' = H ++ [.cells [.int .i64 k, .int .i64 n, .sl (VT.css ks) .none]]) ks.length ?_ ?_
    ·intro _; exact ⟨0, by omega, by omega, rfl, by simp [VT.nodesL], by simp [VT.nodesL], rfl⟩
    ·rintro q t5 t31 H' ⟨i, hi, rfl, rfl, rfl, hb2, rfl⟩ hsc hlen hsF Kb hKb
     by_cases hlt : i < ks.length
     ·have hki := VT.kid_lt (k := k) (n := n) hlt
      have hlt' : i < (zaU args ks).length := by omega
      have hsi : (zaU args ks)[i] = subst args ks[i] := by simp [zd1]
      have h1 := VT.nodesL_take hlt'
      have h2 := VT.nodesL_take_le (zaU args ks) (i + 1)
      rw [hsi] at h1
      obtain ⟨x1, x2, x3, hvx, hx1, hx2, hx3⟩ := zcL ks[i]
      simp [znS, hlt, hvx, hx1, hx2, hx3]
      rw [← hvx]
      refine ih ks[i] (by omega) (by omega) _ id (zaM hid) _ fun r hr1 hr2 hr3 => ?_
      simp
      rw [zaq (by omega) (by omega)]
      by_cases hbig : (200 : Int) < 1 + VT.nodesL ((zaU args ks).take i) + r
      ·simp [hbig, ziY, znU]
       have := hO (1 + VT.nodesL ((zaU args ks).take i) + r) (by constructor <;> intro h <;> omega) (by omega) (by omega)
       have e : ((1 + VT.nodesL ((zaU args ks).take i) + r : Nat) : Int) = 1 + (VT.nodesL ((zaU args ks).take i) : Int) + r := by omega
       rw [e] at this
       exact this _
      ·have hr : r = (subst args ks[i]).nodes := hr2 (by omega)
       simp [hbig]
       rw [zaq (by omega) (by omega), zsA]
       refine hKb _ _ ⟨ks.length - (i + 1), by omega, Back.same (by simp) hsc ?_ ⟨_, _, rfl, i + 1, by omega, rfl, by simp, ?_, by omega, rfl⟩⟩
       ·simp [ziX, AV.sc, AV.scV, AV.scA, AV.scB]; omega
       ·congr 1; omega
     ·obtain rfl : i = ks.length := by omega
      rw [List.take_of_length_le (by omega)] at *
      simp [znS, ziY, znU]
      have := hO (1 + VT.nodesL (zaU args ks)) (by omega) (by omega) (by omega)
      have e : ((1 + VT.nodesL (zaU args ks) : Nat) : Int) = 1 + (VT.nodesL (zaU args ks) : Int) := by omega
      rw [e] at this
      exact this _
   simp only [VT.cs, znR]
   by_cases h4 : k = 4
   ·subst h4
    by_cases h0 : 0 ≤ n
    ·have h1 : ¬ n < args.length := fun h => hvar ⟨rfl, h0, h⟩
     simp [h0, h1]
     exact go
    ·simp [h0]
     exact go
   ·have h4' : (k == 4) = false := by simpa using h4
    simp [h4']
    exact go
end Go.Proofs.Ytkdmpbhbmmhijaa
