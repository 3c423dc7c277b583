import Derived.Test.YtacebbdfgbfgiaaGreatKGH
import Derived.Test.YtacebbdfgbfgiaaGreatIT
import Derived.Test.YtacebbdfgbfgiaaGreatKGY3
import Derived.Test.YtacebbdfgbfgiaaGreatVO
set_option linter.unusedSimpArgs false
set_option linter.unusedVariables false
namespace Go.Proofs.YtacebbdfgbfgiaaGreat
open Go Go.Abs
set_option maxRecDepth 8000
theorem zcE (v : IT) : ∃ a b, v.cs = [a, b] ∧ a.known = true ∧ b.known = true := by
 obtain ⟨n, ks⟩ := v; exact ⟨_, _, rfl, rfl, rfl⟩
theorem zgh {v : IT} {k : AV → Prop} : zaA 2 [.int .i64 0, .snil] 1 [(0, .agg v.cs)] k = k (.sl [v.cs] .full) := by
 cases v
 exact propext Iff.rfl
theorem zpo {l : List IT} {i : Nat} (h : i < l.length) : IT.css (l.take (i + 1)) = IT.css (l.take i) ++ [(l[i]).cs] := by
 rw [IT.css_map, IT.css_map, List.take_succ_eq_append_getElem h, List.map_append]
 rfl
theorem zBb : ∀ (m : Nat) (v : IT), v.nodes ≤ m → v.nodes ≤ 1000000 → ∀ (H : zaa) (K : Kt), K (.agg v.cs) H → ACalls tP zgD [.agg v.cs] H K := by
 intro m
 induction m with
 | zero => intro v h; have := v.nodes_pos; omega
 | succ m ih =>
  intro v hm hb H K hK
  obtain ⟨n, ks⟩ := v
  have hll := IT.len_le ks
  have hnn : (IT.mk n ks).nodes = IT.nodesL ks + 1 := by simp [IT.nodes]
  refine ACalls.out (zA9 fun hs => ?_)
  simp [zsg, IT.cs, zav, zaU, AV.known, Nat.add_assoc]
  unfold zim
  refine ALoop.ownC (H.length + 2) 1 zaO 2 (cs := [.int .i64 n, .snil]) (by simp) rfl ?_
  have hset : (H ++ [AB.cells [.int .i64 n, .sl (IT.css ks) .none], .cells [.int .i64 0, .snil], .cells [.int .i64 n, .snil]]).set (H.length + 2) (.cells ([AV.int .i64 n, .snil].set 1 (.sl [] (.own (H ++ [AB.cells [.int .i64 n, .sl (IT.css ks) .none], .cells [.int .i64 0, .snil], .cells [.int .i64 n, .snil]]).length)))) ++ [.perm zaO 2 0] =
    H ++ [.cells [.int .i64 n, .sl (IT.css ks) .none], .cells [.int .i64 0, .snil], .cells [.int .i64 n, .sl [] (.own (H.length + 3))], .perm zaO 2 0] := by simp [List.set_append_right]
  rw [hset]
  show zim (.ptr (H.length + 1) 0) (.ptr (H.length + 2) 0) (.sl (IT.css ks) .none) (.int .i64 ks.length) (.int .i64 0) _ (Out H.length K)
  have hsc : ∀ i, HSc (H ++ [.cells [.int .i64 n, .sl (IT.css ks) .none], .cells [.int .i64 0, .snil], .cells [.int .i64 n, .sl (IT.css (ks.take i)) (.own (H.length + 3))], .perm zaO 2 i]) := fun i => hs.append (by simp [AB.sc, AV.scA, AV.scB])
  refine zA7 (Inv := fun q t12 H' => ∃ i : Nat, i ≤ ks.length ∧ q = ks.length - i ∧ t12 = .int .i64 i ∧
   H' = H ++ [.cells [.int .i64 n, .sl (IT.css ks) .none], .cells [.int .i64 0, .snil], .cells [.int .i64 n, .sl (IT.css (ks.take i)) (.own (H.length + 3))], .perm zaO 2 i]) ks.length ?_ ?_
  ·intro _; exact ⟨0, by omega, by omega, rfl, by simp [IT.css]⟩
  ·rintro q t12 H' ⟨i, hi, rfl, rfl, rfl⟩ hsc' hlen hsF Kb hKb
   by_cases hlt : i < ks.length
   ·obtain ⟨x, y, hvx, hx, hy⟩ := zcE ks[i]
    have hkn := IT.kid_lt (n := n) hlt
    simp [zmt, hlt, hvx, hx, hy]
    rw [← hvx]
    refine zbE (.agg (ks[i]).cs) (fun J => ih ks[i] (by omega) (by omega) _ _ ⟨rfl, rfl⟩) ?_
    rw [zgh]
    simp [zar, zaW, zaI, Nat.min_eq_left hi, AV.known, List.set_append_right]
    refine ⟨⟨by omega, by omega⟩, ?_⟩
    rw [zal (by omega) (by omega)]
    rw [← zpo hlt]
    refine hKb _ _ ⟨ks.length - (i + 1), by omega, Back.at (J := [.cells (ks[i]).cs]) (H2 := H ++ [.cells [.int .i64 n, .sl (IT.css ks) .none], .cells [.int .i64 0, .snil], .cells [.int .i64 n, .sl (IT.css (ks.take (i + 1))) (.own (H.length + 3))], .perm zaO 2 (i + 1)]) (by simp) (by simp) (hsc _) ?_ ⟨_, rfl, i + 1, by omega, rfl, by simp, rfl⟩⟩
    simp [zil, AV.sc, AV.scV, AV.scA, AV.scB]
   ·obtain rfl : i = ks.length := by omega
    rw [List.take_length] at *
    simp [zmt, AV.known, List.set_append_right]
    exact Out.at rfl (Nat.le_refl _) hs (WkV.agg (ds := [.int .i64 n, .sl (IT.css ks) .none]) ⟨.refl _, .sl _ _, trivial⟩) rfl (by simp [AV.scV, AV.scA, AV.scB]) (by simpa [IT.cs] using hK)
theorem zsz : ∀ (m : Nat) (v : IT), v.nodes ≤ m → v.nodes ≤ 1000000 → ∀ (H : zaa) (K : Kt), K (.agg v.cs) H → ACalls tP zfs [.agg v.cs] H K := by
 intro m
 induction m with
 | zero => intro v h; have := v.nodes_pos; omega
 | succ m ih =>
  intro v hm hb H K hK
  obtain ⟨n, ks⟩ := v
  have hll := IT.len_le ks
  have hnn : (IT.mk n ks).nodes = IT.nodesL ks + 1 := by simp [IT.nodes]
  refine ACalls.out (zB5 fun hs => ?_)
  simp [zsy, IT.cs, zav, zaU, AV.known, Nat.add_assoc]
  unfold ziC
  refine ALoop.ownC (H.length + 2) 1 zaO 2 (cs := [.int .i64 n, .snil]) (by simp) rfl ?_
  have hset : (H ++ [AB.cells [.int .i64 n, .sl (IT.css ks) .none], .cells [.int .i64 0, .snil], .cells [.int .i64 n, .snil]]).set (H.length + 2) (.cells ([AV.int .i64 n, .snil].set 1 (.sl [] (.own (H ++ [AB.cells [.int .i64 n, .sl (IT.css ks) .none], .cells [.int .i64 0, .snil], .cells [.int .i64 n, .snil]]).length)))) ++ [.perm zaO 2 0] =
    H ++ [.cells [.int .i64 n, .sl (IT.css ks) .none], .cells [.int .i64 0, .snil], .cells [.int .i64 n, .sl [] (.own (H.length + 3))], .perm zaO 2 0] := by simp [List.set_append_right]
  rw [hset]
  show ziC (.ptr (H.length + 1) 0) (.ptr (H.length + 2) 0) (.sl (IT.css ks) .none) (.int .i64 ks.length) (.int .i64 0) _ (Out H.length K)
  have hsc : ∀ i, HSc (H ++ [.cells [.int .i64 n, .sl (IT.css ks) .none], .cells [.int .i64 0, .snil], .cells [.int .i64 n, .sl (IT.css (ks.take i)) (.own (H.length + 3))], .perm zaO 2 i]) := fun i => hs.append (by simp [AB.sc, AV.scA, AV.scB])
  refine zB3 (Inv := fun q t12 H' => ∃ i : Nat, i ≤ ks.length ∧ q = ks.length - i ∧ t12 = .int .i64 i ∧
   H' = H ++ [.cells [.int .i64 n, .sl (IT.css ks) .none], .cells [.int .i64 0, .snil], .cells [.int .i64 n, .sl (IT.css (ks.take i)) (.own (H.length + 3))], .perm zaO 2 i]) ks.length ?_ ?_
  ·intro _; exact ⟨0, by omega, by omega, rfl, by simp [IT.css]⟩
  ·rintro q t12 H' ⟨i, hi, rfl, rfl, rfl⟩ hsc' hlen hsF Kb hKb
   by_cases hlt : i < ks.length
   ·obtain ⟨x, y, hvx, hx, hy⟩ := zcE ks[i]
    have hkn := IT.kid_lt (n := n) hlt
    simp [zmP, hlt, hvx, hx, hy]
    rw [← hvx]
    refine zbE (.agg (ks[i]).cs) (fun J => ih ks[i] (by omega) (by omega) _ _ ⟨rfl, rfl⟩) ?_
    rw [zgh]
    simp [zar, zaW, zaI, Nat.min_eq_left hi, AV.known, List.set_append_right]
    refine ⟨⟨by omega, by omega⟩, ?_⟩
    rw [zal (by omega) (by omega)]
    rw [← zpo hlt]
    refine hKb _ _ ⟨ks.length - (i + 1), by omega, Back.at (J := [.cells (ks[i]).cs]) (H2 := H ++ [.cells [.int .i64 n, .sl (IT.css ks) .none], .cells [.int .i64 0, .snil], .cells [.int .i64 n, .sl (IT.css (ks.take (i + 1))) (.own (H.length + 3))], .perm zaO 2 (i + 1)]) (by simp) (by simp) (hsc _) ?_ ⟨_, rfl, i + 1, by omega, rfl, by simp, rfl⟩⟩
    simp [ziB, AV.sc, AV.scV, AV.scA, AV.scB]
   ·obtain rfl : i = ks.length := by omega
    rw [List.take_length] at *
    simp [zmP, AV.known, List.set_append_right]
    exact Out.at rfl (Nat.le_refl _) hs (WkV.agg (ds := [.int .i64 n, .sl (IT.css ks) .none]) ⟨.refl _, .sl _ _, trivial⟩) rfl (by simp [AV.scV, AV.scA, AV.scB]) (by simpa [IT.cs] using hK)
mutual
def zaG : VT → IT
 | .mk k _ ks => .mk 0 (if k = 6 then za2 ks else [])
def za2 : List VT → List IT
 | [] => []
 | t :: ts => zaG t :: za2 ts
end
theorem zdF : ∀ ts : List VT, za2 ts = ts.map zaG
 | [] => by simp [za2]
 | t :: ts => by simp [za2, zdF ts]
theorem zCS : ∀ (m : Nat) (v : VT), v.nodes ≤ m → v.nodes ≤ 1000000 → ∀ (H : zaa) (K : Kt), K (.agg (zaG v).cs) H → ACalls tP zgL [.agg v.cs] H K := by
 intro m
 induction m with
 | zero => intro v h; have := v.nodes_pos; omega
 | succ m ih =>
  intro v hm hb H K hK
  obtain ⟨k, n, ks⟩ := v
  have hll := VT.len_le ks
  have hnn : (VT.mk k n ks).nodes = VT.nodesL ks + 1 := by simp [VT.nodes]
  refine ACalls.out (zCQ fun hs => ?_)
  simp [zsL, VT.cs, zav, zaU, AV.known, Nat.add_assoc]
  by_cases hk6 : k = 6
  ·have hK : K (.agg [.int .i64 0, .sl (IT.css (za2 ks)) .none]) H := by simpa [zaG, hk6, IT.cs] using hK
   simp [hk6]
   subst hk6
   unfold ziR
   refine ALoop.ownC (H.length + 2) 1 zaO 2 (cs := [.int .i64 0, .snil]) (by simp) rfl ?_
   have hset : (H ++ [AB.cells [.int .i64 6, .int .i64 n, .sl (VT.css ks) .none], .cells [.int .i64 0, .snil], .cells [.int .i64 0, .snil]]).set (H.length + 2) (.cells ([AV.int .i64 0, .snil].set 1 (.sl [] (.own (H ++ [AB.cells [.int .i64 6, .int .i64 n, .sl (VT.css ks) .none], .cells [.int .i64 0, .snil], .cells [.int .i64 0, .snil]]).length)))) ++ [.perm zaO 2 0] =
     H ++ [.cells [.int .i64 6, .int .i64 n, .sl (VT.css ks) .none], .cells [.int .i64 0, .snil], .cells [.int .i64 0, .sl [] (.own (H.length + 3))], .perm zaO 2 0] := by simp [List.set_append_right]
   rw [hset]
   show ziR (.ptr (H.length + 1) 0) (.ptr (H.length + 2) 0) (.sl (VT.css ks) .none) (.int .i64 ks.length) (.int .i64 0) _ (Out H.length K)
   have hsc : ∀ i, HSc (H ++ [.cells [.int .i64 6, .int .i64 n, .sl (VT.css ks) .none], .cells [.int .i64 0, .snil], .cells [.int .i64 0, .sl (IT.css (za2 (ks.take i))) (.own (H.length + 3))], .perm zaO 2 i]) := fun i => hs.append (by simp [AB.sc, AV.scA, AV.scB])
   refine zCO (Inv := fun q t12 H' => ∃ i : Nat, i ≤ ks.length ∧ q = ks.length - i ∧ t12 = .int .i64 i ∧
    H' = H ++ [.cells [.int .i64 6, .int .i64 n, .sl (VT.css ks) .none], .cells [.int .i64 0, .snil], .cells [.int .i64 0, .sl (IT.css (za2 (ks.take i))) (.own (H.length + 3))], .perm zaO 2 i]) ks.length ?_ ?_
   ·intro _; exact ⟨0, by omega, by omega, rfl, by simp [za2, IT.css]⟩
   ·rintro q t12 H' ⟨i, hi, rfl, rfl, rfl⟩ hsc' hlen hsF Kb hKb
    by_cases hlt : i < ks.length
    ·obtain ⟨x, y, z, hvx, hx, hy, hz⟩ := zbj ks[i]
     have hkn := VT.kid_lt (k := 6) (n := n) hlt
     have hzl : (za2 (ks.take i)).length = i := by simp [zdF, Nat.min_eq_left hi]
     simp [zm9, hlt, hvx, hx, hy, hz]
     rw [← hvx]
     refine zbE (.agg (zaG ks[i]).cs) (fun J => ih ks[i] (by omega) (by omega) _ _ ⟨rfl, rfl⟩) ?_
     rw [zgh]
     simp [zar, zaW, zaI, hzl, AV.known, List.set_append_right]
     refine ⟨⟨by omega, by omega⟩, ?_⟩
     rw [zal (by omega) (by omega)]
     have hst : IT.css (za2 (ks.take i)) ++ [(zaG ks[i]).cs] = IT.css (za2 (ks.take (i + 1))) := by
      rw [zdF, zdF, List.take_succ_eq_append_getElem hlt, IT.css_map, IT.css_map, List.map_append, List.map_append]
      rfl
     rw [hst]
     refine hKb _ _ ⟨ks.length - (i + 1), by omega, Back.at (J := [.cells (ks[i]).cs]) (H2 := H ++ [.cells [.int .i64 6, .int .i64 n, .sl (VT.css ks) .none], .cells [.int .i64 0, .snil], .cells [.int .i64 0, .sl (IT.css (za2 (ks.take (i + 1)))) (.own (H.length + 3))], .perm zaO 2 (i + 1)]) (by simp) (by simp) (hsc _) ?_ ⟨_, rfl, i + 1, by omega, rfl, by simp, rfl⟩⟩
     simp [ziP, AV.sc, AV.scV, AV.scA, AV.scB]
    ·obtain rfl : i = ks.length := by omega
     rw [List.take_length] at *
     simp [zm9, ziQ, AV.known, List.set_append_right]
     exact Out.at rfl (Nat.le_refl _) hs (WkV.agg (ds := [.int .i64 0, .sl (IT.css (za2 ks)) .none]) ⟨.refl _, .sl _ _, trivial⟩) rfl (by simp [AV.scV, AV.scA, AV.scB]) hK
  ·have hK : K (.agg [.int .i64 0, .sl [] .none]) H := by simpa [zaG, hk6, IT.cs, IT.css] using hK
   have hb : (k == 6) = false := by simpa using hk6
   simp [hb, ziQ, AV.known, List.set_append_right]
   exact Out.at rfl (Nat.le_refl _) hs (WkV.agg (ds := [.int .i64 0, .sl [] .none]) ⟨.refl _, .snil, trivial⟩) rfl (by simp [AV.scV, AV.scA, AV.scB]) hK
theorem zDl : ∀ (m : Nat) (v : VT), v.nodes ≤ m → v.nodes ≤ 1000000 → ∀ (H : zaa) (K : Kt), K (.agg (zaG v).cs) H → ACalls tP zgP [.agg v.cs] H K := by
 intro m
 induction m with
 | zero => intro v h; have := v.nodes_pos; omega
 | succ m ih =>
  intro v hm hb H K hK
  obtain ⟨k, n, ks⟩ := v
  have hll := VT.len_le ks
  have hnn : (VT.mk k n ks).nodes = VT.nodesL ks + 1 := by simp [VT.nodes]
  refine ACalls.out (zDj fun hs => ?_)
  simp [zsU, VT.cs, zav, zaU, AV.known, Nat.add_assoc]
  by_cases hk6 : k = 6
  ·have hK : K (.agg [.int .i64 0, .sl (IT.css (za2 ks)) .none]) H := by simpa [zaG, hk6, IT.cs] using hK
   simp [hk6]
   subst hk6
   unfold zi3
   refine ALoop.ownC (H.length + 2) 1 zaO 2 (cs := [.int .i64 0, .snil]) (by simp) rfl ?_
   have hset : (H ++ [AB.cells [.int .i64 6, .int .i64 n, .sl (VT.css ks) .none], .cells [.int .i64 0, .snil], .cells [.int .i64 0, .snil]]).set (H.length + 2) (.cells ([AV.int .i64 0, .snil].set 1 (.sl [] (.own (H ++ [AB.cells [.int .i64 6, .int .i64 n, .sl (VT.css ks) .none], .cells [.int .i64 0, .snil], .cells [.int .i64 0, .snil]]).length)))) ++ [.perm zaO 2 0] =
     H ++ [.cells [.int .i64 6, .int .i64 n, .sl (VT.css ks) .none], .cells [.int .i64 0, .snil], .cells [.int .i64 0, .sl [] (.own (H.length + 3))], .perm zaO 2 0] := by simp [List.set_append_right]
   rw [hset]
   show zi3 (.ptr (H.length + 1) 0) (.ptr (H.length + 2) 0) (.sl (VT.css ks) .none) (.int .i64 ks.length) (.int .i64 0) _ (Out H.length K)
   have hsc : ∀ i, HSc (H ++ [.cells [.int .i64 6, .int .i64 n, .sl (VT.css ks) .none], .cells [.int .i64 0, .snil], .cells [.int .i64 0, .sl (IT.css (za2 (ks.take i))) (.own (H.length + 3))], .perm zaO 2 i]) := fun i => hs.append (by simp [AB.sc, AV.scA, AV.scB])
   refine zDh (Inv := fun q t13 H' => ∃ i : Nat, i ≤ ks.length ∧ q = ks.length - i ∧ t13 = .int .i64 i ∧
    H' = H ++ [.cells [.int .i64 6, .int .i64 n, .sl (VT.css ks) .none], .cells [.int .i64 0, .snil], .cells [.int .i64 0, .sl (IT.css (za2 (ks.take i))) (.own (H.length + 3))], .perm zaO 2 i]) ks.length ?_ ?_
   ·intro _; exact ⟨0, by omega, by omega, rfl, by simp [za2, IT.css]⟩
   ·rintro q t13 H' ⟨i, hi, rfl, rfl, rfl⟩ hsc' hlen hsF Kb hKb
    by_cases hlt : i < ks.length
    ·obtain ⟨x, y, z, hvx, hx, hy, hz⟩ := zbj ks[i]
     have hkn := VT.kid_lt (k := 6) (n := n) hlt
     have hzl : (za2 (ks.take i)).length = i := by simp [zdF, Nat.min_eq_left hi]
     simp [znh, hlt, hvx, hx, hy, hz]
     rw [← hvx]
     refine zbE (.agg (zaG ks[i]).cs) (fun J => ih ks[i] (by omega) (by omega) _ _ ⟨rfl, rfl⟩) ?_
     rw [zgh]
     simp [zar, zaW, zaI, hzl, AV.known, List.set_append_right]
     refine ⟨⟨by omega, by omega⟩, ?_⟩
     rw [zal (by omega) (by omega)]
     have hst : IT.css (za2 (ks.take i)) ++ [(zaG ks[i]).cs] = IT.css (za2 (ks.take (i + 1))) := by
      rw [zdF, zdF, List.take_succ_eq_append_getElem hlt, IT.css_map, IT.css_map, List.map_append, List.map_append]
      rfl
     rw [hst]
     refine hKb _ _ ⟨ks.length - (i + 1), by omega, Back.at (J := [.cells (ks[i]).cs]) (H2 := H ++ [.cells [.int .i64 6, .int .i64 n, .sl (VT.css ks) .none], .cells [.int .i64 0, .snil], .cells [.int .i64 0, .sl (IT.css (za2 (ks.take (i + 1)))) (.own (H.length + 3))], .perm zaO 2 (i + 1)]) (by simp) (by simp) (hsc _) ?_ ⟨_, rfl, i + 1, by omega, rfl, by simp, rfl⟩⟩
     simp [zi1, AV.sc, AV.scV, AV.scA, AV.scB]
    ·obtain rfl : i = ks.length := by omega
     rw [List.take_length] at *
     simp [znh, zi2, AV.known, List.set_append_right]
     exact Out.at rfl (Nat.le_refl _) hs (WkV.agg (ds := [.int .i64 0, .sl (IT.css (za2 ks)) .none]) ⟨.refl _, .sl _ _, trivial⟩) rfl (by simp [AV.scV, AV.scA, AV.scB]) hK
  ·have hK : K (.agg [.int .i64 0, .sl [] .none]) H := by simpa [zaG, hk6, IT.cs, IT.css] using hK
   have hb : (k == 6) = false := by simpa using hk6
   simp [hb, zi2, AV.known, List.set_append_right]
   exact Out.at rfl (Nat.le_refl _) hs (WkV.agg (ds := [.int .i64 0, .sl [] .none]) ⟨.refl _, .snil, trivial⟩) rfl (by simp [AV.scV, AV.scA, AV.scB]) hK
theorem zCn : ∀ (m : Nat) (v : VT), v.nodes ≤ m → v.nodes ≤ 1000000000 → ∀ (H : zaa) (K : AV → zaa → Prop), K (.int .i64 v.nodes) H → ACalls tP zgJ [.agg v.cs] H K := by
 intro m
 induction m with
 | zero => intro v h; have := v.nodes_pos; omega
 | succ m ih =>
  intro v hv hb H K hK
  obtain ⟨k, n, ks⟩ := v
  have hnl : VT.nodesL ks + 1 ≤ 1000000000 := by simpa [VT.nodes] using hb
  have hll := VT.len_le ks
  refine ACalls.out (zCl fun hs => ?_)
  simp [VT.cs, zsE]
  refine zCj (Inv := fun q t3 t4 H' => ∃ i : Nat, i ≤ ks.length ∧ q = ks.length - i ∧ t4 = .int .i64 i ∧ t3 = .int .i64 (1 + VT.nodesL (ks.take i) : Nat) ∧ H' = H ++ [.cells [.int .i64 k, .int .i64 n, .sl (VT.css ks) .none]]) ks.length ?_ ?_
  ·intro _; exact ⟨0, by omega, by omega, rfl, by simp [VT.nodesL], rfl⟩
  ·rintro q t3 t4 H' ⟨i, hi, rfl, rfl, rfl, rfl⟩ hsc hlen hsF Kb hKb
   by_cases hlt : i < ks.length
   ·have hki := VT.kid_lt (k := k) (n := n) hlt
    have h1 := VT.nodesL_take hlt
    have h2 := VT.nodesL_take_le ks (i + 1)
    obtain ⟨x, y, z, hvx, hx, hy, hz⟩ := zbj ks[i]
    simp [zmT, hlt, hvx, hx, hy, hz]
    rw [← hvx]
    refine ih ks[i] (by omega) (by omega) _ _ ?_
    simp
    rw [zal (by omega) (by omega), zal (by omega) (by omega), zqM]
    refine hKb _ _ ⟨ks.length - (i + 1), by omega, Back.same (by simp) hsc ?_ ⟨_, _, rfl, i + 1, by omega, rfl, by simp, ?_, rfl⟩⟩
    ·simp [ziG, AV.sc, AV.scV, AV.scA, AV.scB]
    ·rw [h1]; congr 1; omega
   ·obtain rfl : i = ks.length := by omega
    simp [zmT]
    refine Out.int rfl (Nat.le_refl _) hs ?_
    simpa [VT.nodes, Int.add_comm] using hK
theorem zvl (x : List VT) (hl : x.length ≤ 1000000000) (fv : AV) (H : zaa) (K : AV → zaa → Prop) (hfv : fv.sc H.length = true) (Inv : Nat → zaa → Prop) (h0 : Inv 0 H)
  (step : ∀ (i : Nat) (h : i < x.length) (H' : zaa), H.length ≤ H'.length → Inv i H' → aCallV tP fv [.agg (x[i]).cs] H' fun r H'' => (r = .bool false ∧ Inv (i + 1) H'') ∨ (r = .bool true ∧ K (.int .i64 i) H''))
  (fin : ∀ H', Inv x.length H' → K (.int .i64 (-1)) H') : ACalls tP zkt [.sl (VT.css x) .none, fv] H K := by
 refine zyU fun hs => ?_
 simp [zrz]
 refine zyS (Inv := fun q t8 H' => ∃ i : Nat, i ≤ x.length ∧ q = x.length - i ∧ t8 = .int .i64 i ∧ H.length ≤ H'.length ∧ Inv i H') x.length ?_ ?_
 ·intro _; exact ⟨0, by omega, by omega, rfl, Nat.le_refl _, h0⟩
 ·rintro q t8 H' ⟨i, hi, rfl, rfl, hle, hI⟩ hsc hlen hsF Kb hKb
  by_cases hlt : i < x.length
  ·simp [zlR, hlt]
   refine (step i hlt H' hle hI).mono' fun r H'' hsc' hle' hr => ?_
   rcases hr with ⟨rfl, hI'⟩ | ⟨rfl, hk⟩
   ·simp
    rw [zal (by omega) (by omega)]
    refine hKb _ _ ⟨x.length - (i + 1), by omega, Back.here (by omega) hsc' ?_ ⟨_, rfl, i + 1, by omega, rfl, by simp, by omega, hI'⟩⟩
    simp [zhM, AV.sc, AV.scV, AV.scA, AV.scB]
    exact zbX (by omega) hfv
   ·simpa using hk
  ·obtain rfl : i = x.length := by omega
   simp [zlR]
   exact fin H' hI
theorem zj0 (x : List VT) (hl : x.length ≤ 1000000000) (fv : AV) (H : zaa) (K : AV → zaa → Prop) (hfv : fv.sc H.length = true) (Inv : Nat → zaa → Prop) (h0 : Inv 0 H)
  (step : ∀ (i : Nat) (h : i < x.length) (H' : zaa), H.length ≤ H'.length → Inv i H' → aCallV tP fv [.agg (x[i]).cs] H' fun r H'' => (r = .bool false ∧ Inv (i + 1) H'') ∨ (r = .bool true ∧ K (.bool true) H''))
  (fin : ∀ H', Inv x.length H' → K (.bool false) H') : ACalls tP zdX [.sl (VT.css x) .none, fv] H K := by
 refine zx1 fun hs => ?_
 unfold zrj
 refine zvl x hl fv H _ hfv Inv h0 (fun i h H' hle hI => (step i h H' hle hI).mono' fun r H'' _ _ hr => ?_) (fun H' hI => ?_)
 ·rcases hr with hr | ⟨h1, h2⟩
  ·exact .inl hr
  ·refine .inr ⟨h1, ?_⟩
   have : decide ((0 : Int) ≤ i) = true := by simp
   simpa using h2
 ·simpa using fin H' hI
theorem zuO : zdq tP zgt = true := by kernel_rfl
section
variable (data : List Dat) (vars : Int)
theorem zxl : ∀ (l : List VT) (i : Nat) (h : i < l.length), zaQ data vars l = true → zaK data vars l[i] = true := by
 intro l
 induction l with
 | nil => intro i h; simp at h
 | cons a l ih =>
  intro i h hl
  simp [zaQ] at hl
  cases i with
  | zero => exact hl.1
  | succ i => exact ih i (by simpa using h) hl.2
def zbi (left : Int) : AB := .cells [.sl (data.map Dat.cs) .none, .int .i64 vars, .int .i64 left]
theorem zxs : ∀ (m : Nat) (v : VT), v.nodes ≤ m → v.nodes ≤ 1000000000 → ∀ (left : Int), left ≤ 1000000 → -1 ≤ left → ∀ (H : zaa) (id : Nat), H[id]? = some (zbi data vars left) → ∀ (K : AV → zaa → Prop),
  (zaK data vars v = true → (v.nodes : Int) ≤ left → K (.bool true) (H.set id (zbi data vars (left - v.nodes)))) → (¬ (zaK data vars v = true ∧ (v.nodes : Int) ≤ left) → ∀ l', K (.bool false) (H.set id (zbi data vars l'))) →
  ACalls tP zg0 [.ptr id 0, .agg v.cs] H K := by
 intro m
 induction m with
 | zero => intro v h; have := v.nodes_pos; omega
 | succ m ih =>
  intro v hv hb left hl1 hl0 H id hid K hK hF
  obtain ⟨k, n, ks⟩ := v
  have hlt := zeu hid
  have hnn : (VT.mk k n ks).nodes = VT.nodesL ks + 1 := by simp [VT.nodes]
  have hll := VT.len_le ks
  refine ACalls.out (zGg fun hs => ?_)
  -- the heap within: the receiver's copy and the type's
  generalize hJ : ([.cells [.ptr id 0], .cells [.int .i64 k, .int .i64 n, .sl (VT.css ks) .none]] : zaa) = J
  have hJ0 : J[0]? = some (.cells [.ptr id 0]) := by subst hJ; rfl
  have hJ1 : J[1]? = some (.cells [.int .i64 k, .int .i64 n, .sl (VT.css ks) .none]) := by subst hJ; rfl
  have hget : ∀ l', (H.set id (zbi data vars l') ++ J)[id]? = some (zbi data vars l') := fun l' => zcD (zcy _ hid)
  have bad : (¬ (zaK data vars (.mk k n ks) = true ∧ ((VT.mk k n ks).nodes : Int) ≤ left)) → ∀ l', Out H.length K (.bool false) (H.set id (zbi data vars l') ++ J) := fun h l' =>
   Out.bool rfl (by simp) (hs.set rfl) (hF h l')
  have badS : zaS data vars k n ks.length = false → ∀ l', Out H.length K (.bool false) (H.set id (zbi data vars l') ++ J) := fun h l' => bad (fun ⟨h1, _⟩ => by simp [zaK, h] at h1) l'
  -- the arguments
  have args : zaS data vars k n ks.length = true → 1 ≤ left → ∀ KK : AV → zaa → Prop, (∀ H', Out H.length K (.bool true) H' → KK (.bool false) H') → (∀ H', Out H.length K (.bool false) H' → KK (.bool true) H') →
    ACalls tP zdX [.sl (VT.css ks) .none, .fn zgt [.ptr H.length 0]] (H.set id (zbi data vars (left - 1)) ++ J) KK := by
   intro hsh h1 KK hKf hKt
   subst hJ
   refine zj0 ks (by omega) _ _ _ (by simp [AV.sc, AV.scV, AV.scA, AV.scB]) (fun i H' => (VT.nodesL (ks.take i) : Int) + 1 ≤ left ∧ zaQ data vars (ks.take i) = true ∧ H' = H.set id (zbi data vars (left - 1 - VT.nodesL (ks.take i))) ++ [.cells [.ptr id 0], .cells [.int .i64 k, .int .i64 n, .sl (VT.css ks) .none]]) ⟨by simp [VT.nodesL]; omega, by simp [zaQ], by simp [VT.nodesL]⟩ ?_ ?_
   ·rintro i hi H' hle ⟨hb1, hb2, rfl⟩
    have hki := VT.kid_lt (k := k) (n := n) hi
    have h1 := VT.nodesL_take hi
    have h2 := VT.nodesL_take_le ks (i + 1)
    have hokL : zaQ data vars (ks.take (i + 1)) = (zaQ data vars (ks.take i) && zaK data vars ks[i]) := by
     rw [List.take_succ_eq_append_getElem hi]
     have : ∀ (l : List VT) (x : VT), zaQ data vars (l ++ [x]) = (zaQ data vars l && zaK data vars x) := by
      intro l x
      induction l with
      | nil => simp [zaQ]
      | cons a l ih => simp [zaQ, ih, Bool.and_assoc]
     exact this _ _
    simp only [aCallV, zuO, List.singleton_append]
    refine ACalls.out (zya fun hs1 => ?_)
    have hH1 : ∀ l', HSc (H.set id (zbi data vars l') ++ [.cells [.ptr id 0], .cells [.int .i64 k, .int .i64 n, .sl (VT.css ks) .none]]) := fun l' => (hs.set rfl).append (by simp [AB.sc, AV.scA, AV.scB]; omega)
    obtain ⟨x1, x2, x3, hvx, hx1, hx2, hx3⟩ := zbj ks[i]
    have hll2 : (H.set id (zbi data vars (left - 1 - VT.nodesL (ks.take i)))).length = H.length := by simp
    have hg1 : (H.set id (zbi data vars (left - 1 - VT.nodesL (ks.take i))) ++ [AB.cells [.ptr id 0], .cells [.int .i64 k, .int .i64 n, .sl (VT.css ks) .none], .cells [x1, x2, x3]])[H.length]? = some (.cells [.ptr id 0]) := by
     rw [List.getElem?_append_right (by simp)]; simp
    have hg2 : (H.set id (zbi data vars (left - 1 - VT.nodesL (ks.take i))) ++ [AB.cells [.ptr id 0], .cells [.int .i64 k, .int .i64 n, .sl (VT.css ks) .none], .cells [x1, x2, x3]])[H.length + 2]? = some (.cells [x1, x2, x3]) := by
     rw [List.getElem?_append_right (by simp)]; simp
    simp [zrm, hvx, hg1, hg2, hll2]
    rw [← hvx]
    refine ih ks[i] (by omega) (by omega) (left - 1 - VT.nodesL (ks.take i)) (by omega) (by omega) _ id (zcD (zcy _ hid)) _ ?_ ?_
    ·intro ho hle2
     rw [zc2 _ (zcy _ hid), List.set_set, show left - 1 - (VT.nodesL (ks.take i) : Int) - (ks[i]).nodes = left - 1 - VT.nodesL (ks.take (i + 1)) by omega]
     simp
     refine Out.bool (J := [_]) (H2 := H.set id (zbi data vars (left - 1 - VT.nodesL (ks.take (i + 1)))) ++ [.cells [.ptr id 0], .cells [.int .i64 k, .int .i64 n, .sl (VT.css ks) .none]]) (by simp; rfl) (by simp) (hH1 _) (.inl ⟨rfl, by omega, by rw [hokL, hb2, ho]; rfl, rfl⟩)
    ·intro ho l'
     rw [zc2 _ (zcy _ hid), List.set_set]
     simp
     have hno : ¬ (zaK data vars (.mk k n ks) = true ∧ ((VT.mk k n ks).nodes : Int) ≤ left) := by
      rintro ⟨g1, g2⟩
      have hall : zaQ data vars ks = true := by simp [zaK] at g1; exact g1.2
      exact ho ⟨zxl data vars ks i hi hall, by omega⟩
     have hb3 := bad hno l'
     exact Out.bool (J := [_]) (H2 := H.set id (zbi data vars l') ++ [.cells [.ptr id 0], .cells [.int .i64 k, .int .i64 n, .sl (VT.css ks) .none]]) (by simp; rfl) (by simp) (hH1 _) (.inr ⟨rfl, hKt _ hb3⟩)
   ·rintro H' ⟨hb1, hb2, rfl⟩
    rw [List.take_length] at *
    refine hKf _ ?_
    refine Out.bool rfl (by simp) (hs.set rfl) ?_
    have := hK (by simp [zaK, hsh, hb2]) (by omega)
    rw [hnn] at this
    rw [show left - 1 - (VT.nodesL ks : Int) = left - ((VT.nodesL ks + 1 : Nat) : Int) by omega]
    exact this
  -- behind the shape
  have fin : ∀ lo hi : Int, (k ≠ 4 → k ≠ 5 → n ≠ 0 → zaS data vars k n ks.length = false) → ((ks.length : Int) < lo ∨ hi < (ks.length : Int) → zaS data vars k n ks.length = false) → 1 ≤ left →
    ((k = 4 ∨ k = 5 ∨ n = 0) → lo ≤ (ks.length : Int) → (ks.length : Int) ≤ hi → zaS data vars k n ks.length = true) →
    zeT (.ptr H.length 0) (.ptr (H.length + 1) 0) (.int .i64 lo) (.int .i64 hi) (H.set id (zbi data vars (left - 1)) ++ J) (Out H.length K) := by
   intro lo hi hz hr h1 hok
   have hg3 : (H.set id (zbi data vars (left - 1)) ++ J)[H.length + 1]? = some (.cells [.int .i64 k, .int .i64 n, .sl (VT.css ks) .none]) := by
    rw [List.getElem?_append_right (by simp)]; subst hJ; simp
   by_cases hcase : k = 4 ∨ k = 5 ∨ n = 0
   ·have h3 : (k != 4) = false ∨ ((k != 4) = true ∧ (k != 5) = false) ∨ ((k != 4) = true ∧ (k != 5) = true ∧ (n != 0) = false) := by
     by_cases g4 : k = 4
     ·left; simp [g4]
     ·by_cases g5 : k = 5
      ·right; left; simp [g5]
      ·right; right; simp [g4, g5]; omega
    rcases h3 with g | ⟨g, g'⟩ | ⟨g, g', g''⟩
    case' inl => simp [zeT, hg3, hJ1, g]
    case' inr.inl => simp [zeT, hg3, hJ1, g, g']
    case' inr.inr => simp [zeT, hg3, hJ1, g, g', g'']
    all_goals
     by_cases hlo : (ks.length : Int) < lo
     ·simp [hlo]
      exact badS (hr (.inl hlo)) _
     ·by_cases hhi : hi < (ks.length : Int)
      ·simp [hlo, hhi, hJ1]
       exact badS (hr (.inr hhi)) _
      ·simp [hlo, hhi, AV.isB, hJ1]
       refine args (hok hcase (by omega) (by omega)) h1 _ (fun H' ho => ?_) (fun H' ho => ?_) <;> simpa using ho
   ·have g : (k != 4) = true := by simp; omega
    have g' : (k != 5) = true := by simp; omega
    have g'' : (n != 0) = true := by simp; omega
    simp [zeT, hg3, hJ1, g, g', g'']
    exact badS (hz (by omega) (by omega) (by omega)) _
  have start : (H ++ J)[id]? = some (zbi data vars left) := zcD hid
  have hmain : zn9 (.ptr H.length 0) (.ptr (H.length + 1) 0) (H.set id (zbi data vars (left - 1)) ++ J) (Out H.length K) := by
   refine zF8 fun hs1 => ?_
   have hgv := hget (left - 1)
   unfold zbi at hgv
   by_cases h0 : left - 1 < 0
   ·simp [zoa, hJ0, zbi, hgv, h0]
    exact bad (fun h => by have := h.2; rw [hnn] at this; omega) _
   have h1 : 1 ≤ left := by omega
   simp [zoa, hJ0, hJ1, zbi, hgv, h0]
   refine zGb fun _ => ?_
   have hfin := fun lo hi a b c => fin lo hi a b h1 c
   unfold zbi at hfin badS
   -- the three without arguments
   by_cases h123 : k = 1 ∨ k = 2 ∨ k = 3
   ·have hsh : zaS data vars k n ks.length = (n == 0 && ks.length == 0) := by rcases h123 with rfl | rfl | rfl <;> rfl
    have := hfin 0 0 (fun _ _ hn => by rw [hsh]; simp [hn]) (fun h => by rw [hsh]; simp; intro _; rintro rfl; simp at h) (fun h h2 h3 => by
     have hn : n = 0 := by omega
     have hl : ks.length = 0 := by omega
     rw [hsh, hn, hl]; rfl)
    rcases h123 with rfl | rfl | rfl <;> simp [zob] <;> refine zue fun _ => ?_ <;> simp [zcK, zcB] <;> exact this
   have b1 : (k == 1) = false := by simp; omega
   have b2 : (k == 2) = false := by simp; omega
   have b3 : (k == 3) = false := by simp; omega
   simp [zob, b1, b2, b3]
   refine zue fun _ => ?_
   by_cases h4 : k = 4
   ·subst h4
    have hsh : zaS data vars 4 n ks.length = (decide (0 ≤ n) && decide (n < vars) && ks.length == 0) := rfl
    by_cases g1 : n < 0
    ·simp [zcK, hJ0, hJ1, hgv, g1]
     exact badS (by rw [hsh]; simp; omega) _
    by_cases g2 : vars ≤ n
    ·simp [zcK, hJ0, hJ1, hgv, g1, g2]
     exact badS (by rw [hsh]; simp; omega) _
    have := hfin 0 0 (fun h => (h rfl).elim) (fun h => by rw [hsh]; simp; intro _ _; rintro rfl; simp at h) (fun h h2 h3 => by
     have hl : ks.length = 0 := by omega
     rw [hsh, hl]; simp; omega)
    simp [zcK, hJ0, hJ1, hgv, g1, g2, zcB]
    exact this
   have b4 : (k == 4) = false := by simp; omega
   by_cases h5 : k = 5
   ·subst h5
    have hsh : zaS data vars 5 n ks.length = (decide (0 ≤ n) && (match data[n.toNat]? with | some d => (ks.length : Int) == d.vars | none => false)) := rfl
    by_cases g1 : n < 0
    ·simp [zcK, hJ0, hJ1, hgv, g1]
     exact badS (by rw [hsh]; simp; omega) _
    by_cases g2 : (data.length : Int) ≤ n
    ·simp [zcK, hJ0, hJ1, hgv, g1, g2]
     exact badS (by rw [hsh, List.getElem?_eq_none (by omega)]; simp) _
    have hnl : n.toNat < data.length := by omega
    have g2' : n < data.length := by omega
    have g1' : 0 ≤ n := by omega
    rw [List.getElem?_eq_getElem hnl] at hsh
    simp only [g1', decide_true, Bool.true_and] at hsh
    have := hfin (data[n.toNat]).vars (data[n.toNat]).vars (fun _ h => (h rfl).elim) (fun h => by rw [hsh]; simp; omega) (fun h h2 h3 => by rw [hsh]; simp; omega)
    simp [zcK, hJ0, hJ1, hgv, g1, g2, g1', g2', hnl, Dat.cs, zcB]
    exact this
   have b5 : (k == 5) = false := by simp; omega
   by_cases h6 : k = 6
   ·subst h6
    have hsh : zaS data vars 6 n ks.length = (n == 0 && decide (2 ≤ ks.length) && decide (ks.length ≤ 6)) := rfl
    have := hfin 2 6 (fun _ _ hn => by rw [hsh]; simp [hn]) (fun h => by rw [hsh]; simp; intros; omega) (fun h h2 h3 => by rw [hsh]; simp; omega)
    simp [zcK, zcB]
    exact this
   have b6 : (k == 6) = false := by simp; omega
   by_cases h78 : k = 7 ∨ k = 8
   ·have hsh : zaS data vars k n ks.length = (n == 0 && ks.length == 1) := by rcases h78 with rfl | rfl <;> rfl
    have := hfin 1 1 (fun _ _ hn => by rw [hsh]; simp [hn]) (fun h => by rw [hsh]; simp; intros; omega) (fun h h2 h3 => by rw [hsh]; simp; omega)
    rcases h78 with rfl | rfl <;> simp [zcK] <;> refine zuf fun _ => ?_ <;> simp [zjL, zcB] <;> exact this
   have b7 : (k == 7) = false := by simp; omega
   have b8 : (k == 8) = false := by simp; omega
   simp [zcK, b4, b5, b6, b7, b8]
   refine zuf fun _ => ?_
   by_cases h9 : k = 9
   ·subst h9
    have hsh : zaS data vars 9 n ks.length = (n == 0 && decide (1 ≤ ks.length) && decide (ks.length ≤ 7)) := rfl
    have := hfin 1 7 (fun _ _ hn => by rw [hsh]; simp [hn]) (fun h => by rw [hsh]; simp; intros; omega) (fun h h2 h3 => by rw [hsh]; simp; omega)
    simp [zjL, zcB]
    exact this
   ·have b9 : (k == 9) = false := by simp; omega
    simp [zjL, b9]
    exact badS (by unfold zaS; simp [b1, b2, b3, b4, b5, b6, b7, b8, b9]) _
  subst hJ
  unfold zbi at start
  simp [zuc, VT.cs, start]
  rw [zal (by omega) (by omega), zc2 _ hid]
  exact hmain
theorem ztf (v : VT) (hb : v.nodes ≤ 1000000000) (H : zaa) (K : AV → zaa → Prop) (hK : K (.bool (zbe data vars v)) H) : ACalls tP zfw [.sl (data.map Dat.cs) .none, .agg v.cs, .int .i64 vars] H K := by
 refine ACalls.out (zEa fun hs => ?_)
 have hO : ∀ J, Out H.length K (.bool (zbe data vars v)) (H ++ J) := fun J => Out.bool rfl (Nat.le_refl _) hs hK
 obtain ⟨x1, x2, x3, hvx, hx1, hx2, hx3⟩ := zbj v
 simp [zte, hvx, zav, zaU]
 rw [← hvx]
 refine zxs data vars _ v (Nat.le_refl _) hb 200 (by omega) (by omega) _ (H.length + 1) (by simp [zbi]) _ ?_ ?_
 ·intro ho hn
  have : zbe data vars v = true := by simp [zbe, ho]; omega
  rw [this] at hO
  simp
  exact hO _
 ·intro hno l'
  have : zbe data vars v = false := by
   cases h : zbe data vars v with
   | false => rfl
   | true => simp [zbe] at h; exact (hno ⟨h.2, by omega⟩).elim
  rw [this] at hO
  simp
  exact hO _
end
mutual
theorem zqE : ∀ v : VT, subst [] v = v
 | .mk k n ks => by
  rw [subst, if_neg (by rintro ⟨_, h1, h2⟩; simp at h2; omega), zqC ks]
theorem zqC : ∀ l : List VT, zaC [] l = l
 | [] => rfl
 | t :: ts => by rw [zaC, zqE t, zqC ts]
end
theorem zCB : ∀ (m : Nat) (args : List VT), (∀ x ∈ args, x.nodes ≤ 1000000) → args.length ≤ 1000000 → ∀ (v : VT), (if args = [] then v.nodes else v.nodes + 1000001) ≤ m → v.nodes ≤ 1000000 → ∀ (H : zaa) (K : AV → zaa → Prop), K (.agg (subst args v).cs) H → ACalls tP zfu [.agg v.cs, .sl (VT.css args) .none] H K := by
 intro m
 induction m with
 | zero => intro args _ _ v h; have := v.nodes_pos; split at h <;> omega
 | succ m ih =>
  intro args ha hal v hv hb H K hK
  obtain ⟨k, n, ks⟩ := v
  have hnl : VT.nodesL ks + 1 ≤ 1000000 := by simpa [VT.nodes] using hb
  have hll := VT.len_le ks
  refine ACalls.out (zCz fun hs => ?_)
  by_cases hvar : k = 4 ∧ 0 ≤ n ∧ n < args.length
  ·obtain ⟨rfl, h0, h1⟩ := hvar
   have hn : n.toNat < args.length := by omega
   have hne : args ≠ [] := by rintro rfl; simp at hn
   have hK' : K (.agg (args[n.toNat]).cs) H := by
    rw [subst, if_pos ⟨rfl, h0, h1⟩, List.getElem?_eq_getElem hn] at hK
    exact hK
   have hle := ha _ (List.getElem_mem hn)
   simp [VT.cs, zm0, h0, h1, hn]
   rw [if_neg hne] at hv
   refine ACalls.wk (args' := [.agg (args[n.toNat]).cs, .sl (VT.css []) .none]) ?_ ⟨.rfl', .atom .snil, trivial⟩
   refine ih [] (by simp) (by simp) _ (by simp; omega) hle _ _ ?_
   rw [zqE]
   generalize args[n.toNat] = x at *
   obtain ⟨k', n', ks'⟩ := x
   simp [VT.cs]
   exact Out.at rfl (Nat.le_refl _) hs .rfl' rfl rfl hK'
  ·have hK' : K (.agg (VT.mk k n (zaC args ks)).cs) H := by
    rw [subst, if_neg hvar] at hK
    exact hK
   have go : ∀ H1, H1 = H ++ [.cells [.int .i64 k, .int .i64 n, .sl (VT.css ks) .none], .cells [.int .i64 0, .int .i64 0, .snil], .cells [.int .i64 k, .int .i64 n, .snil]] → zfW (.sl (VT.css args) .none) (.ptr (H.length + 1) 0) (.ptr (H.length + 2) 0) (.sl (VT.css ks) .none) (.int .i64 ks.length) (.int .i64 0) H1 (Out H.length K) := by
    rintro _ rfl
    unfold zfW
    refine ALoop.ownC (cs := [.int .i64 k, .int .i64 n, .snil]) (H.length + 2) 2 zaP 3 (by simp) rfl ?_
    have e0 : (H ++ [AB.cells [.int .i64 k, .int .i64 n, .sl (VT.css ks) .none], .cells [.int .i64 0, .int .i64 0, .snil], .cells [.int .i64 k, .int .i64 n, .snil]]).length = H.length + 3 := by simp
    rw [e0, zqp, List.append_assoc]
    have hJ : ∀ i X, HSc (H ++ [.cells [.int .i64 k, .int .i64 n, .sl (VT.css ks) .none], .cells [.int .i64 0, .int .i64 0, .snil], .cells [.int .i64 k, .int .i64 n, .sl X (.own (H.length + 3))], .perm zaP 3 i]) := fun i X => hs.append (by simp [AB.sc, AV.scA, AV.scB])
    show zfW (.sl (VT.css args) .none) (.ptr (H.length + 1) 0) (.ptr (H.length + 2) 0) (.sl (VT.css ks) .none) (.int .i64 ks.length) (.int .i64 0) (H ++ [.cells [.int .i64 k, .int .i64 n, .sl (VT.css ks) .none], .cells [.int .i64 0, .int .i64 0, .snil], .cells [.int .i64 k, .int .i64 n, .sl [] (.own (H.length + 3))], .perm zaP 3 0]) (Out H.length K)
    refine zCx (Inv := fun q t37 H' => ∃ i : Nat, i ≤ ks.length ∧ q = ks.length - i ∧ t37 = .int .i64 i ∧ H' = H ++ [.cells [.int .i64 k, .int .i64 n, .sl (VT.css ks) .none], .cells [.int .i64 0, .int .i64 0, .snil], .cells [.int .i64 k, .int .i64 n, .sl (VT.css ((zaC args ks).take i)) (.own (H.length + 3))], .perm zaP 3 i]) ks.length ?_ ?_
    ·intro _; exact ⟨0, by omega, by omega, rfl, by simp [VT.css]⟩
    ·rintro q t37 H' ⟨i, hi, rfl, rfl, rfl⟩ hsc hlen hsF Kb hKb
     by_cases hlt : i < ks.length
     ·have hki := VT.kid_lt (k := k) (n := n) hlt
      have hsl : (zaC args ks).length = ks.length := by rw [zde]; simp
      have hlt' : i < (zaC args ks).length := by omega
      have hsi : (zaC args ks)[i] = subst args ks[i] := by simp [zde]
      obtain ⟨x1, x2, x3, hvx, hx1, hx2, hx3⟩ := zbj ks[i]
      simp [zm1, hlt, hvx, hx1, hx2, hx3]
      rw [← hvx]
      refine zbE (.agg (subst args ks[i]).cs) (fun J => ih args ha hal ks[i] (by by_cases he : args = [] <;> simp only [he, if_true, if_false] at hv ⊢ <;> omega) (by omega) _ _ ⟨rfl, rfl⟩) ?_
      rw [zdQ, ← hsi]
      simp [zar, zaW, zaI, hsl]
      refine ⟨by omega, ⟨by omega, by omega⟩, ?_⟩
      rw [zal (by omega) (by omega), show min i ks.length = i by omega]
      refine hKb _ _ ⟨ks.length - (i + 1), by omega, Back.at (J := [_]) (H2 := H ++ [.cells [.int .i64 k, .int .i64 n, .sl (VT.css ks) .none], .cells [.int .i64 0, .int .i64 0, .snil], .cells [.int .i64 k, .int .i64 n, .sl (VT.css ((zaC args ks).take (i + 1))) (.own (H.length + 3))], .perm zaP 3 (i + 1)]) (by rw [ze6 hlt']; simp; rfl) (by simp) (hJ _ _) ?_ ⟨_, rfl, i + 1, by omega, rfl, by simp, rfl⟩⟩
      simp [ziL, AV.sc, AV.scV, AV.scA, AV.scB]
     ·obtain rfl : i = ks.length := by omega
      have e : (zaC args ks).take ks.length = zaC args ks := List.take_of_length_le (by rw [zde]; simp)
      rw [e]
      simp [zm1]
      exact Out.at rfl (Nat.le_refl _) hs (WkV.agg (ds := [.int .i64 k, .int .i64 n, .sl (VT.css (zaC args ks)) .none]) ⟨.refl _, .refl _, .sl _ _, trivial⟩) rfl (by simp [AV.scV, AV.scA, AV.scB]) (by simpa [VT.cs] using hK')
   simp only [VT.cs, zm0]
   by_cases h4 : k = 4
   ·subst h4
    by_cases h0 : 0 ≤ n
    ·have h1 : ¬ n < args.length := fun h => hvar ⟨rfl, h0, h⟩
     simp [h0, h1, zav, zaU, Nat.add_assoc]
     exact go _ rfl
    ·simp [h0, zav, zaU, Nat.add_assoc]
     exact go _ rfl
   ·have h4' : (k == 4) = false := by simpa using h4
    simp [h4', zav, zaU, Nat.add_assoc]
    exact go _ rfl
def zhf (args : List VT) : AB := .cells (args.map fun x => .int .i64 x.nodes)
theorem zCu (args : List VT) (ha : ∀ x ∈ args, x.nodes ≤ 1000000) (hal : args.length ≤ 1000000) : ∀ (m : Nat) (v : VT), v.nodes ≤ m → v.nodes ≤ 1000000 → ∀ (H : zaa) (id : Nat), H[id]? = some (zhf args) → ∀ (K : AV → zaa → Prop),
  (∀ r : Nat, (r ≤ 200 ↔ (subst args v).nodes ≤ 200) → (r ≤ 200 → r = (subst args v).nodes) → r ≤ 1000000 + 200 * v.nodes → K (.int .i64 r) H) → ACalls tP zgK [.agg v.cs, .ms id 0 args.length args.length] H K := by
 intro m
 induction m with
 | zero => intro v h; have := v.nodes_pos; omega
 | succ m ih =>
  intro v hv hb H id hid K hK
  obtain ⟨k, n, ks⟩ := v
  have hnl : VT.nodesL ks + 1 ≤ 1000000 := by simpa [VT.nodes] using hb
  have hll := VT.len_le ks
  have hidl := zeu hid
  refine ACalls.out (zCs fun hs => ?_)
  by_cases hvar : k = 4 ∧ 0 ≤ n ∧ n < args.length
  ·obtain ⟨rfl, h0, h1⟩ := hvar
   have hn : n.toNat < args.length := by omega
   have hsub : subst args (.mk 4 n ks) = args[n.toNat] := by rw [subst, if_pos ⟨rfl, h0, h1⟩, List.getElem?_eq_getElem hn]; rfl
   rw [hsub] at hK
   have hg : (H ++ [AB.cells [.int .i64 4, .int .i64 n, .sl (VT.css ks) .none]])[id]? = some (zhf args) := zcD hid
   have hle := ha _ (List.getElem_mem hn)
   unfold zhf at hg
   simp [VT.cs, zmV, h0, h1, hn, hg, zaX]
   exact Out.int rfl (Nat.le_refl _) hs (hK _ Iff.rfl (fun _ => rfl) (by omega))
  ·have hsub : subst args (.mk k n ks) = .mk k n (zaC args ks) := by rw [subst, if_neg hvar]
   have hnodes : (subst args (.mk k n ks)).nodes = VT.nodesL (zaC args ks) + 1 := by rw [hsub]; rfl
   rw [hnodes] at hK
   have hO : ∀ r : Nat, (r ≤ 200 ↔ VT.nodesL (zaC args ks) + 1 ≤ 200) → (r ≤ 200 → r = VT.nodesL (zaC args ks) + 1) → r ≤ 1000000 + 200 * (VT.mk k n ks).nodes → ∀ J, Out H.length K (.int .i64 r) (H ++ J) := fun r h1 h2 h3 J => Out.int rfl (Nat.le_refl _) hs (hK r h1 h2 h3)
   have hsl : (zaC args ks).length = ks.length := by rw [zde]; simp
   have go : zmZ (.ms id 0 args.length args.length) (.int .i64 1) (.sl (VT.css ks) .none) (.int .i64 ks.length) (.int .i64 0) (H ++ [.cells [.int .i64 k, .int .i64 n, .sl (VT.css ks) .none]]) (Out H.length K) := by
    refine zCq (Inv := fun q t5 t31 H' => ∃ i : Nat, i ≤ ks.length ∧ q = ks.length - i ∧ t31 = .int .i64 i ∧ t5 = .int .i64 (1 + VT.nodesL ((zaC args ks).take i) : Nat) ∧ 1 + VT.nodesL ((zaC args ks).take i) ≤ 200 ∧ H' = H ++ [.cells [.int .i64 k, .int .i64 n, .sl (VT.css ks) .none]]) ks.length ?_ ?_
    ·intro _; exact ⟨0, by omega, by omega, rfl, by simp [VT.nodesL], by simp [VT.nodesL], rfl⟩
    ·rintro q t5 t31 H' ⟨i, hi, rfl, rfl, rfl, hb2, rfl⟩ hsc hlen hsF Kb hKb
     by_cases hlt : i < ks.length
     ·have hki := VT.kid_lt (k := k) (n := n) hlt
      have hlt' : i < (zaC args ks).length := by omega
      have hsi : (zaC args ks)[i] = subst args ks[i] := by simp [zde]
      have h1 := VT.nodesL_take hlt'
      have h2 := VT.nodesL_take_le (zaC args ks) (i + 1)
      rw [hsi] at h1
      obtain ⟨x1, x2, x3, hvx, hx1, hx2, hx3⟩ := zbj ks[i]
      simp [zmW, hlt, hvx, hx1, hx2, hx3]
      rw [← hvx]
      refine ih ks[i] (by omega) (by omega) _ id (zcD hid) _ fun r hr1 hr2 hr3 => ?_
      simp
      rw [zal (by omega) (by omega)]
      by_cases hbig : (200 : Int) < 1 + VT.nodesL ((zaC args ks).take i) + r
      ·simp [hbig, ziJ, zmY]
       have := hO (1 + VT.nodesL ((zaC args ks).take i) + r) (by constructor <;> intro h <;> omega) (by omega) (by omega)
       have e : ((1 + VT.nodesL ((zaC args ks).take i) + r : Nat) : Int) = 1 + (VT.nodesL ((zaC args ks).take i) : Int) + r := by omega
       rw [e] at this
       exact this _
      ·have hr : r = (subst args ks[i]).nodes := hr2 (by omega)
       simp [hbig]
       rw [zal (by omega) (by omega), zqM]
       refine hKb _ _ ⟨ks.length - (i + 1), by omega, Back.same (by simp) hsc ?_ ⟨_, _, rfl, i + 1, by omega, rfl, by simp, ?_, by omega, rfl⟩⟩
       ·simp [ziI, AV.sc, AV.scV, AV.scA, AV.scB]; omega
       ·congr 1; omega
     ·obtain rfl : i = ks.length := by omega
      rw [List.take_of_length_le (by omega)] at *
      simp [zmW, ziJ, zmY]
      have := hO (1 + VT.nodesL (zaC args ks)) (by omega) (by omega) (by omega)
      have e : ((1 + VT.nodesL (zaC args ks) : Nat) : Int) = 1 + (VT.nodesL (zaC args ks) : Int) := by omega
      rw [e] at this
      exact this _
   simp only [VT.cs, zmV]
   by_cases h4 : k = 4
   ·subst h4
    by_cases h0 : 0 ≤ n
    ·have h1 : ¬ n < args.length := fun h => hvar ⟨rfl, h0, h⟩
     simp [h0, h1]
     exact go
    ·simp [h0]
     exact go
   ·have h4' : (k == 4) = false := by simpa using h4
    simp [h4']
    exact go
def zcf (args : List VT) (i : Nat) : List AV := (args.take i).map (fun x => .int .i64 x.nodes) ++ List.replicate (args.length - i) (.int .i64 0)
theorem zwA (args : List VT) {i : Nat} (h : i ≤ args.length) : (zcf args i).length = args.length := by simp [zcf]; omega
theorem zwB (args : List VT) {i : Nat} (h : i < args.length) : (zcf args i).take i ++ [.int .i64 (args[i]).nodes] ++ (zcf args i).drop (i + 1) = zcf args (i + 1) := by
 have e1 : ((args.take i).map fun x => AV.int .i64 x.nodes).length = i := by simp; omega
 unfold zcf
 rw [List.take_append_of_le_length (by omega), List.take_of_length_le (by omega), List.drop_append, List.drop_of_length_le (by omega), List.nil_append, e1, List.take_succ_eq_append_getElem h, List.map_append]
 congr 1
 rw [show i + 1 - i = 1 by omega, List.drop_replicate]
 congr 1
theorem zmk (data : List Dat) (hdl : data.length ≤ 1000000) (hda : ∀ d ∈ data, ∀ c ∈ d.cons, c.args.length ≤ 1000 ∧ ∀ x ∈ c.args, x.nodes ≤ 1000) (hdc : ∀ d ∈ data, d.cons.length ≤ 1000000) (t : VT) (ht : t.nodes ≤ 1000) (c : Int) (H : zaa) (K : AV → zaa → Prop) (hK : K (zbK (zaL data t c)) H) :
  ACalls tP zfq [.sl (data.map Dat.cs) .none, .agg t.cs, .int .i64 c] H K := by
 refine ACalls.out (zAB fun hs => ?_)
 obtain ⟨k, n, ks⟩ := t
 have hkn : VT.nodesL ks + 1 ≤ 1000 := by simpa [VT.nodes] using ht
 have hkl := VT.len_le ks
 have hF : zaL data (.mk k n ks) c = none → ∀ J, Out H.length K (.tup [.snil, .bool false]) (H ++ J) := fun h J => by
  rw [h] at hK
  exact Out.tup hs hK ⟨zd5, za4 rfl rfl, trivial⟩
 simp only [VT.cs, zr1]
 by_cases h5 : k = 5
 case neg =>
  have : (k != 5) = true := by simpa using h5
  simp [this, AV.isV]
  exact hF (by rw [zcj, if_neg (fun h => h5 h.1)]) _
 subst h5
 by_cases h0 : n < 0
 ·simp [h0, AV.isV]
  exact hF (by rw [zcj, if_neg (fun h => by have := h.2.1; omega)]) _
 by_cases h1 : (data.length : Int) ≤ n
 ·simp [h0, h1, AV.isV]
  exact hF (by
   rw [zcj]
   split
   ·rw [List.getElem?_eq_none (by omega)]
   ·rfl) _
 have hn : n.toNat < data.length := by omega
 have h1' : n < data.length := by omega
 have h0' : 0 ≤ n := by omega
 generalize hdd : data[n.toNat] = d at *
 have hd : d ∈ data := by rw [← hdd]; exact List.getElem_mem hn
 have hget : data[n.toNat]? = some d := by rw [List.getElem?_eq_getElem hn, hdd]
 cases hv : ((ks.length : Int) == d.vars) with
 | false =>
  have hv' : ((ks.length : Int) != d.vars) = true := by simp [bne, hv]
  simp [h0, h1, h0', h1', hn, hdd, Dat.cs, hv', AV.isV, hget]
  exact hF (by
   rw [zcj]
   split
   ·rw [hget]
    simp only
    rw [if_neg (by simpa using hv)]
   ·rfl) _
 | true =>
 have hv' : ((ks.length : Int) != d.vars) = false := by simp [bne, hv]
 have hve : (ks.length : Int) = d.vars := by simpa using hv
 by_cases hc0 : c < 0
 ·simp [h0, h1, h0', h1', hn, hdd, Dat.cs, hv', AV.isV, hget, hc0]
  exact hF (by rw [zcj, if_neg (fun h => by have := h.2.2; omega)]) _
 have hfe : ∀ o, (match d.cons[c.toNat]? with | some k => if (k.args.map (subst ks)).all (fun x => decide (x.nodes ≤ 200)) = true then some (k.args.map (subst ks)) else none | none => none) = o → zaL data (.mk 5 n ks) c = o := fun o h => by
  rw [zcj, if_pos ⟨rfl, h0', by omega⟩, hget]
  simp only
  rw [if_pos hve]
  exact h
 by_cases hc1 : (d.cons.length : Int) ≤ c
 ·simp [h0, h1, h0', h1', hn, hdd, Dat.cs, hv', AV.isV, hget, hc0, hc1]
  exact hF (hfe none (by rw [List.getElem?_eq_none (by omega)])) _
 have hcn : c.toNat < d.cons.length := by omega
 have hc1' : c < d.cons.length := by omega
 have hc0' : 0 ≤ c := by omega
 generalize hcc : d.cons[c.toNat] = co at *
 have hco : co ∈ d.cons := by rw [← hcc]; exact List.getElem_mem hcn
 have hgc : d.cons[c.toNat]? = some co := by rw [List.getElem?_eq_getElem hcn, hcc]
 obtain ⟨hal, han⟩ := hda d hd co hco
 have hfe' := fun o => hfe o
 rw [hgc] at hfe'
 simp only at hfe'
 have hkle : ∀ x ∈ ks, x.nodes ≤ 1000 := fun y hy => Nat.le_trans (zkk (k := 5) (n := n) y hy) ht
 simp [h0, h1, h0', h1', hn, hdd, Dat.cs, hv', AV.isV, hget, hc0, hc1, hc0', hc1', hcn, hcc, zbo]
 refine ⟨by omega, ?_⟩
 have ez : List.replicate ks.length (AV.int .i64 0) = zcf ks 0 := by simp [zcf]
 rw [ez]
 have hsc3 : ∀ (l : List AV), (l.all fun a => a.scA (H.length + 3)) = true → HSc (H ++ [.cells [.int .i64 5, .int .i64 n, .sl (VT.css ks) .none], .cells [.str d.name, .int .i64 d.vars, .sl (d.cons.map Con.cs) .none], .cells l]) := fun l hl => hs.append (by simp [AB.sc]; simpa using hl)
 have hszsc : ∀ i, ((zcf ks i).all fun a => a.scA (H.length + 3)) = true := fun i => by
  rw [List.all_eq_true]
  intro x hx
  unfold zcf at hx
  rcases List.mem_append.1 hx with h | h
  ·obtain ⟨y, _, rfl⟩ := List.mem_map.1 h; rfl
  ·rw [List.eq_of_mem_replicate h]; rfl
 refine zAx (Inv := fun q t61 H' => ∃ i : Nat, i ≤ ks.length ∧ q = ks.length - i ∧ t61 = .int .i64 i ∧ H' = H ++ [.cells [.int .i64 5, .int .i64 n, .sl (VT.css ks) .none], .cells [.str d.name, .int .i64 d.vars, .sl (d.cons.map Con.cs) .none], .cells (zcf ks i)]) ks.length ?_ ?_
 ·intro _; exact ⟨0, by omega, by omega, rfl, rfl⟩
 ·rintro q t61 H' ⟨i, hi, rfl, rfl, rfl⟩ hsc8 hlen8 hsF8 Kb8 hKb8
  by_cases hlt : i < ks.length
  ·have hle := hkle _ (List.getElem_mem hlt)
   obtain ⟨x1, x2, x3, hvx, hx1, hx2, hx3⟩ := zbj ks[i]
   simp [zmi, hlt, hvx, hx1, hx2, hx3]
   rw [← hvx]
   refine zCn _ _ (Nat.le_refl _) (by omega) _ _ ?_
   have hll := zwA ks hi
   simp [hlt, hll]
   refine ⟨by omega, ?_⟩
   rw [zal (by omega) (by omega)]
   have e := zwB ks hlt
   rw [List.append_assoc, List.singleton_append] at e
   rw [e]
   refine hKb8 _ _ ⟨ks.length - (i + 1), by omega, Back.at (J := [_]) (H2 := H ++ [.cells [.int .i64 5, .int .i64 n, .sl (VT.css ks) .none], .cells [.str d.name, .int .i64 d.vars, .sl (d.cons.map Con.cs) .none], .cells (zcf ks (i + 1))]) (by simp; rfl) (by simp) (hsc3 _ (hszsc _)) ?_ ⟨_, rfl, i + 1, by omega, rfl, by simp, rfl⟩⟩
   simp [zh7, AV.sc, AV.scV, AV.scA, AV.scB]
  ·obtain rfl : i = ks.length := by omega
   have efull : zcf ks ks.length = ks.map fun x => .int .i64 x.nodes := by simp [zcf]
   have hsc8' := hsc8
   rw [efull] at hsc8' ⊢
   simp [zmi, hc0', hc1', hcn, hcc, Con.cs, hgc]
   refine zAv (Inv := fun q t79 H' => ∃ i : Nat, i ≤ co.args.length ∧ q = co.args.length - i ∧ t79 = .int .i64 i ∧ (∀ x ∈ co.args.take i, (subst ks x).nodes ≤ 200) ∧ H' = H ++ [.cells [.int .i64 5, .int .i64 n, .sl (VT.css ks) .none], .cells [.str d.name, .int .i64 d.vars, .sl (d.cons.map Con.cs) .none], .cells (ks.map fun x => .int .i64 x.nodes)]) co.args.length ?_ ?_
   ·intro _; exact ⟨0, by omega, by omega, rfl, by simp, rfl⟩
   ·rintro q t79 H' ⟨i, hi, rfl, rfl, hall, rfl⟩ hsc13 hlen13 hsF13 Kb13 hKb13
    by_cases hlt : i < co.args.length
    ·have hmem := List.getElem_mem hlt
     obtain ⟨x1, x2, x3, hvx, hx1, hx2, hx3⟩ := zbj co.args[i]
     simp [zmg, hlt, hvx, hx1, hx2, hx3]
     rw [← hvx]
     refine zCu ks (fun y hy => by have := hkle y hy; omega) (by omega) _ co.args[i] (Nat.le_refl _) (by have := han _ hmem; omega) _ (H.length + 2) (by simp [zhf]) _ fun r hr1 hr2 hr3 => ?_
     by_cases hbig : r ≤ 200
     ·have hbig' : ¬ (200 : Int) < r := by omega
      simp [hbig']
      rw [zal (by omega) (by omega)]
      refine hKb13 _ _ ⟨co.args.length - (i + 1), by omega, Back.at (J := [_]) (H2 := H ++ [.cells [.int .i64 5, .int .i64 n, .sl (VT.css ks) .none], .cells [.str d.name, .int .i64 d.vars, .sl (d.cons.map Con.cs) .none], .cells (ks.map fun x => .int .i64 x.nodes)]) (by simp; rfl) (by simp) hsc8' ?_ ⟨_, rfl, i + 1, by omega, rfl, by simp, zpz hlt hall (hr1.1 hbig), rfl⟩⟩
      simp [zh5, AV.sc, AV.scV, AV.scA, AV.scB]
     ·have hbig' : (200 : Int) < r := by omega
      simp [hbig', AV.isV]
      refine hF (hfe' none ?_) _
      rw [if_neg]
      intro hal2
      have := List.all_eq_true.1 hal2 (subst ks co.args[i]) (List.mem_map.2 ⟨_, hmem, rfl⟩)
      exact hbig (hr1.2 (of_decide_eq_true this))
    ·obtain rfl : i = co.args.length := by omega
     rw [List.take_length] at hall
     have hfs := hfe' (some (co.args.map (subst ks))) (if_pos (List.all_eq_true.2 fun y hy => by
      obtain ⟨x, hx, rfl⟩ := List.mem_map.1 hy
      exact decide_eq_true (hall x hx)))
     rw [hfs] at hK
     simp [zmg, hc0', hc1', hcn, hcc, Con.cs, hgc]
     unfold zh8
     refine ALoop.own 14 zaP 3 rfl ?_
     have hlen1 : (H ++ [AB.cells [.int .i64 5, .int .i64 n, .sl (VT.css ks) .none], .cells [.str d.name, .int .i64 d.vars, .sl (d.cons.map Con.cs) .none], .cells (ks.map fun x => .int .i64 x.nodes)]).length = H.length + 3 := by simp
     rw [hlen1]
     have hperm : ∀ m, HSc (H ++ [.cells [.int .i64 5, .int .i64 n, .sl (VT.css ks) .none], .cells [.str d.name, .int .i64 d.vars, .sl (d.cons.map Con.cs) .none], .cells (ks.map fun x => .int .i64 x.nodes), .perm zaP 3 m]) := fun m => by have := hsc8'.append (J := [.perm zaP 3 m]) rfl; simpa using this
     rw [List.append_assoc]
     show zh8 (.ptr H.length 0) (.sl [] (.own (H.length + 3))) (.sl (VT.css co.args) .none) (.int .i64 co.args.length) (.int .i64 0) (H ++ [.cells [.int .i64 5, .int .i64 n, .sl (VT.css ks) .none], .cells [.str d.name, .int .i64 d.vars, .sl (d.cons.map Con.cs) .none], .cells (ks.map fun x => .int .i64 x.nodes), .perm zaP 3 0]) (Out H.length K)
     refine zAw (Inv := fun q t14 t95 H' => ∃ i : Nat, i ≤ co.args.length ∧ q = co.args.length - i ∧ t95 = .int .i64 i ∧ t14 = .sl (VT.css ((co.args.map (subst ks)).take i)) (.own (H.length + 3)) ∧ H' = H ++ [.cells [.int .i64 5, .int .i64 n, .sl (VT.css ks) .none], .cells [.str d.name, .int .i64 d.vars, .sl (d.cons.map Con.cs) .none], .cells (ks.map fun x => .int .i64 x.nodes), .perm zaP 3 i]) co.args.length ?_ ?_
     ·intro _; exact ⟨0, by omega, by omega, rfl, by simp [VT.css], rfl⟩
     ·rintro q t14 t95 H' ⟨i, hi, rfl, rfl, rfl, rfl⟩ hsc20 hlen20 hsF20 Kb20 hKb20
      by_cases hlt : i < co.args.length
      ·have hmem := List.getElem_mem hlt
       obtain ⟨x1, x2, x3, hvx, hx1, hx2, hx3⟩ := zbj co.args[i]
       simp [zmh, hlt, hvx, hx1, hx2, hx3]
       rw [← hvx]
       refine zCB _ ks (fun y hy => by have := hkle y hy; omega) (by omega) co.args[i] (Nat.le_refl _) (by have := han _ hmem; omega) _ _ ?_
       rw [zdQ]
       simp [zar, zaW, zaI]
       refine ⟨by omega, ⟨by omega, by omega⟩, ?_⟩
       rw [zal (by omega) (by omega), show min i co.args.length = i by omega]
       refine hKb20 _ _ ⟨co.args.length - (i + 1), by omega, Back.at (H2 := H ++ [.cells [.int .i64 5, .int .i64 n, .sl (VT.css ks) .none], .cells [.str d.name, .int .i64 d.vars, .sl (d.cons.map Con.cs) .none], .cells (ks.map fun x => .int .i64 x.nodes), .perm zaP 3 (i + 1)]) (J := [_]) (by simp; rfl) (by simp) (hperm _) ?_ ⟨_, _, rfl, i + 1, by omega, rfl, by simp, ?_, rfl⟩⟩
       ·simp [zh6, AV.sc, AV.scV, AV.scA, AV.scB]
       ·rw [ze6 (by simpa using hlt)]; simp
      ·obtain rfl : i = co.args.length := by omega
       rw [List.take_of_length_le (by simp)]
       simp [zmh, AV.isV]
       exact Out.tup hs hK ⟨slV, za4 rfl rfl, trivial⟩
def zfh (i : Nat) : VT → Bool
 | .mk k n ks => k == 4 && n == i && ks.length == 0
def zb2 : List VT → Nat → Bool
 | [], _ => true
 | x :: l, i => zfh i x && zb2 l (i + 1)
def zbu (d vars : Int) : VT → Bool
 | .mk k n ks => k == 5 && n == d && (ks.length : Int) == vars && zb2 ks 0
mutual
def zbP (d : Int) : VT → Bool
 | .mk k n ks => (k == 5 && n == d) || zdx d ks
def zdx (d : Int) : List VT → Bool
 | [] => false
 | t :: ts => zbP d t || zdx d ts
end
theorem zod (v : VT) (d vars : Int) (hb : v.nodes ≤ 1000000) (H : zaa) (K : AV → zaa → Prop) (hK : K (.bool (zbu d vars v)) H) : ACalls tP zgX [.agg v.cs, .int .i64 d, .int .i64 vars] H K := by
 refine ACalls.out (zEs fun hs => ?_)
 obtain ⟨k, n, ks⟩ := v
 have hnl : VT.nodesL ks + 1 ≤ 1000000 := by simpa [VT.nodes] using hb
 have hll := VT.len_le ks
 have hO : ∀ J, Out H.length K (.bool (k == 5 && n == d && (ks.length : Int) == vars && zb2 ks 0)) (H ++ J) := fun J => Out.bool rfl (Nat.le_refl _) hs (by simpa [zbu] using hK)
 simp only [VT.cs, ztj]
 cases h5 : (k == 5) with
 | false =>
  have : (k != 5) = true := by simp [bne, h5]
  rw [h5] at hO
  simp [this]
  exact hO _
 | true =>
 have h5' : (k != 5) = false := by simp [bne, h5]
 cases hn : (n == d) with
 | false =>
  have : (n != d) = true := by simp [bne, hn]
  rw [h5, hn] at hO
  simp [h5', this]
  exact hO _
 | true =>
 have hn' : (n != d) = false := by simp [bne, hn]
 cases hv : ((ks.length : Int) == vars) with
 | false =>
  have : ((ks.length : Int) != vars) = true := by simp [bne, hv]
  rw [h5, hn, hv] at hO
  simp [h5', hn', this]
  exact hO _
 | true =>
 have hv' : ((ks.length : Int) != vars) = false := by simp [bne, hv]
 rw [h5, hn, hv] at hO
 simp only [Bool.true_and] at hO
 simp [h5', hn', hv']
 refine zEq (Inv := fun q t7 H' => ∃ i : Nat, i ≤ ks.length ∧ q = ks.length - i ∧ t7 = .int .i64 i ∧ zb2 (ks.drop i) i = zb2 ks 0 ∧ H' = H ++ [.cells [.int .i64 k, .int .i64 n, .sl (VT.css ks) .none]]) ks.length ?_ ?_
 ·intro _; exact ⟨0, by omega, by omega, rfl, by simp, rfl⟩
 ·rintro q t7 H' ⟨i, hi, rfl, rfl, ho, rfl⟩ hsc hlen hsF Kb hKb
  by_cases hlt : i < ks.length
  ·rw [List.drop_eq_getElem_cons hlt, zb2] at ho
   obtain ⟨k', n', ks', hx⟩ : ∃ k' n' ks', ks[i] = .mk k' n' ks' := by cases h : ks[i] with | mk a b c => exact ⟨a, b, c, rfl⟩
   rw [hx, zfh] at ho
   cases g1 : (k' == 4) with
   | false =>
    have : (k' != 4) = true := by simp [bne, g1]
    rw [g1] at ho
    simp only [Bool.false_and] at ho
    rw [← ho] at hO
    simp [zeS, hlt, hx, VT.cs, this]
    exact hO _
   | true =>
   have g1' : (k' != 4) = false := by simp [bne, g1]
   cases g2 : (n' == (i : Int)) with
   | false =>
    have : (n' != (i : Int)) = true := by simp [bne, g2]
    rw [g1, g2] at ho
    simp only [Bool.false_and, Bool.and_false] at ho
    rw [← ho] at hO
    simp [zeS, hlt, hx, VT.cs, g1', this]
    exact hO _
   | true =>
   have g2' : (n' != (i : Int)) = false := by simp [bne, g2]
   by_cases g3 : ks'.length = 0
   ·have g3' : ¬ (0 : Int) < ks'.length := by omega
    have g3'' : ¬ 0 < ks'.length := by omega
    rw [g1, g2, g3] at ho
    simp only [Bool.true_and, BEq.rfl] at ho
    simp [zeS, hlt, hx, VT.cs, g1', g2', g3', g3'']
    rw [zal (by omega) (by omega)]
    refine hKb _ _ ⟨ks.length - (i + 1), by omega, Back.here (by simp) hsc ?_ ⟨_, rfl, i + 1, by omega, rfl, by simp, ho, rfl⟩⟩
    simp [zjo, AV.sc, AV.scV, AV.scA, AV.scB]
   ·have g3' : (0 : Int) < ks'.length := by omega
    have g3'' : 0 < ks'.length := by omega
    have g4 : (ks'.length == 0) = false := by simpa using g3
    rw [g4] at ho
    simp only [Bool.and_false, Bool.false_and] at ho
    rw [← ho] at hO
    simp [zeS, hlt, hx, VT.cs, g1', g2', g3', g3'']
    exact hO _
  ·obtain rfl : i = ks.length := by omega
   rw [List.drop_length, zb2] at ho
   rw [← ho] at hO
   simp [zeS]
   exact hO _
theorem zuN : zdq tP zgx = true := by kernel_rfl
theorem zpC (d : Int) : ∀ l : List VT, zdx d l = l.any (zbP d)
 | [] => rfl
 | t :: ts => by simp [zdx, zpC d ts]
theorem zyP (d : Int) : ∀ (m : Nat) (v : VT), v.nodes ≤ m → v.nodes ≤ 1000000 → ∀ (H : zaa) (K : AV → zaa → Prop), K (.bool (zbP d v)) H → ACalls tP zgw [.agg v.cs, .int .i64 d] H K := by
 intro m
 induction m with
 | zero => intro v h; have := v.nodes_pos; omega
 | succ m ih =>
  intro v hv hb H K hK
  obtain ⟨k, n, ks⟩ := v
  have hnl : VT.nodesL ks + 1 ≤ 1000000 := by simpa [VT.nodes] using hb
  have hll := VT.len_le ks
  refine ACalls.out (zyO fun hs => ?_)
  have hO : ∀ J, Out H.length K (.bool ((k == 5 && n == d) || ks.any (zbP d))) (H ++ J) := fun J => Out.bool rfl (Nat.le_refl _) hs (by simpa [zbP, zpC] using hK)
  have go : (k == 5 && n == d) = false → ∀ KK : AV → zaa → Prop, (∀ b, Out H.length K (.bool b) (H ++ [.cells [.int .i64 k, .int .i64 n, .sl (VT.css ks) .none], .cells [.int .i64 d]]) → KK (.bool b) (H ++ [.cells [.int .i64 k, .int .i64 n, .sl (VT.css ks) .none], .cells [.int .i64 d]])) →
    ACalls tP zdX [.sl (VT.css ks) .none, .fn zgx [.ptr (H.length + 1) 0]] (H ++ [.cells [.int .i64 k, .int .i64 n, .sl (VT.css ks) .none], .cells [.int .i64 d]]) KK := by
   intro hno KK hKK
   rw [hno, Bool.false_or] at hO
   refine zj0 ks (by omega) _ _ _ (by simp [AV.sc, AV.scV, AV.scA, AV.scB]) (fun i H' => (ks.drop i).any (zbP d) = ks.any (zbP d) ∧ H' = H ++ [.cells [.int .i64 k, .int .i64 n, .sl (VT.css ks) .none], .cells [.int .i64 d]]) ⟨by simp, rfl⟩ ?_ ?_
   ·rintro i hi H' hle ⟨ho, rfl⟩
    have hki := VT.kid_lt (k := k) (n := n) hi
    rw [List.drop_eq_getElem_cons hi, List.any_cons] at ho
    simp only [aCallV, zuN, List.singleton_append]
    refine ACalls.out (zy8 fun hs1 => ?_)
    obtain ⟨x1, x2, x3, hvx, hx1, hx2, hx3⟩ := zbj ks[i]
    simp [zrE, hvx]
    rw [← hvx]
    refine ih ks[i] (by omega) (by omega) _ _ ?_
    refine Out.bool (J := [_]) (H2 := H ++ [.cells [.int .i64 k, .int .i64 n, .sl (VT.css ks) .none], .cells [.int .i64 d]]) (by simp; rfl) (by simp) hs1 ?_
    cases hb : zbP d ks[i] with
    | false =>
     rw [hb, Bool.false_or] at ho
     exact .inl ⟨rfl, ho, rfl⟩
    | true =>
     rw [hb, Bool.true_or] at ho
     rw [← ho] at hO
     exact .inr ⟨rfl, hKK _ (hO _)⟩
   ·rintro H' ⟨ho, rfl⟩
    rw [List.drop_length, List.any_nil] at ho
    rw [← ho] at hO
    exact hKK _ (hO _)
  simp only [VT.cs, zry]
  cases h5 : (k == 5) with
  | false =>
   simp [h5, AV.isB]
   refine go (by rw [h5]; rfl) _ fun b hb => ?_
   simpa using hb
  | true =>
   cases hn : (n == d) with
   | false =>
    simp [h5, hn, AV.isB]
    refine go (by rw [hn]; simp) _ fun b hb => ?_
    simpa using hb
   | true =>
    rw [h5, hn] at hO
    simp [h5, hn]
    exact hO _
def zbb (l : List Bool) : List AV := l.map AV.bool
@[simp] theorem zIV (l : List Bool) : (zbb l).length = l.length := by simp [zbb]
theorem zuM (n : Nat) : (List.replicate n [AV.bool false]).flatten = zbb (List.replicate n false) := by
 induction n with
 | zero => rfl
 | succ n ih => simp [List.replicate_succ, ih, zbb]
theorem zoH {l : List Bool} {i : Nat} (h : i < l.length) (b : Bool) : (zbb l).take i ++ .bool b :: (zbb l).drop (i + 1) = zbb (l.set i b) := by
 simp [zbb, List.set_eq_take_append_cons_drop, h]
theorem zoG (m : Nat) (l : List Bool) : (zbb l).all (AV.scA m) = true := by simp [zbb]
theorem zp4 : ∀ l : List Bool, zaB (zbb l) = some (l.map fun b => [AV.bool b]).flatten
 | [] => rfl
 | b :: l => by
  have := zp4 l
  simp [zbb] at this ⊢
  simp [zaB, this, AV.pd]
theorem zm8 (data : List Dat) (d : Nat) (c : Nat) (hd : d < data.length) (hc : c < (data[d]).cons.length) (hl : data.length ≤ 1000000) (hcl : (data[d]).cons.length ≤ 1000000) (hal : ((data[d]).cons[c]).args.length ≤ 1000000)
  (hb : ∀ x ∈ ((data[d]).cons[c]).args, x.nodes ≤ 1000000) (H : zaa) (K : AV → zaa → Prop)
  (hK : K (.sl (((data[d]).cons[c]).args.map fun t => [.bool (zbu d (data[d]).vars t)]) .none) H) :
  ACalls tP zc7 [.sl (data.map Dat.cs) .none, .int .i64 d, .int .i64 c] H K := by
 refine ACalls.out (zCK fun hs => ?_)
 have e1 : (data.map Dat.cs)[d]? = some (data[d]).cs := by simp [hd]
 have e2 : ((data[d]).cons.map Con.cs)[c]? = some ((data[d]).cons[c]).cs := by simp [hc]
 generalize hD : data[d] = D at *
 generalize hA : D.cons[c] = C at *
 have h1 : ¬ (d : Int) < 0 := by omega
 have h2 : ¬ (data.length : Int) ≤ d := by omega
 have h3 : ¬ (c : Int) < 0 := by omega
 have h4 : ¬ (D.cons.length : Int) ≤ c := by omega
 simp [zsH, h1, h2, h3, h4, e1, e2, Dat.cs, Con.cs, hd, hD, hc, hA]
 simp only [zbo, Int.toNat_natCast, zuM]
 refine ⟨⟨by omega, by omega, by omega, by omega⟩, ?_⟩
 refine zCI (Inv := fun q t49 H' => ∃ (i : Nat) (bs : List Bool), i ≤ C.args.length ∧ q = C.args.length - i ∧ t49 = .int .i64 i ∧ bs.length = C.args.length ∧ (∀ j (hj : j < i) (h' : j < C.args.length), bs[j]? = some (zbu d D.vars C.args[j])) ∧ H' = H ++ [.cells (zbb bs)]) C.args.length ?_ ?_
 ·intro _; exact ⟨0, _, by omega, by omega, rfl, by simp, by omega, rfl⟩
 ·rintro q t49 H' ⟨i, bs, hi, rfl, rfl, hbl, hbs, rfl⟩ hsc hlen hsF Kb hKb
  by_cases hlt : i < C.args.length
  ·obtain ⟨k, n, ks, hx⟩ : ∃ k n ks, C.args[i] = .mk k n ks := by cases h : C.args[i] with | mk a b c => exact ⟨a, b, c, rfl⟩
   have hnb := hb _ (List.getElem_mem hlt)
   rw [hx, VT.nodes] at hnb
   have hll := VT.len_le ks
   have inner : ∀ b0 : Bool, b0 = (k == 5 && n == (d : Int) && (ks.length : Int) == D.vars) →
     zm7 (.sl (data.map Dat.cs) .none) (.int .i64 d) (.ms H.length 0 C.args.length C.args.length) (.int .i64 i) (.sl (VT.css C.args) .none) (.int .i64 C.args.length) (.int .i64 i) (.sl (VT.css ks) .none) (.int .i64 ks.length) (.int .i64 0)
      (H ++ [.cells (zbb (bs.set i b0)), .cells [.int .i64 k, .int .i64 n, .sl (VT.css ks) .none]]) (Out H.length K) Kb := by
    intro b0 hb0
    refine zCH (Inv := fun q t80 H' => ∃ (j : Nat) (b : Bool), j ≤ ks.length ∧ q = ks.length - j ∧ t80 = .int .i64 j ∧ (b && zb2 (ks.drop j) j) = zbu d D.vars C.args[i] ∧ H' = H ++ [.cells (zbb (bs.set i b)), .cells [.int .i64 k, .int .i64 n, .sl (VT.css ks) .none]]) ks.length ?_ ?_
    ·intro _; exact ⟨0, b0, by omega, by omega, rfl, by simp [hx, zbu, hb0], rfl⟩
    ·rintro q t80 H' ⟨j, b, hj, rfl, rfl, hob, rfl⟩ hsc1 hlen1 hsF1 Kb1 hKb1
     have hsc0 : ∀ b : Bool, HSc (H ++ [.cells (zbb (bs.set i b))]) := fun b => hs.snoc (by simp [AB.sc, zoG])
     have hsc2 : ∀ b : Bool, HSc (H ++ [.cells (zbb (bs.set i b)), .cells [.int .i64 k, .int .i64 n, .sl (VT.css ks) .none]]) := fun b => hs.append (by simp [AB.sc, zoG])
     by_cases hjl : j < ks.length
     ·obtain ⟨k', n', ks', hx'⟩ : ∃ k' n' ks', ks[j] = .mk k' n' ks' := by cases h : ks[j] with | mk a b c => exact ⟨a, b, c, rfl⟩
      have hib : i < bs.length := by omega
      rw [List.drop_eq_getElem_cons hjl, zb2, hx', zfh] at hob
      have hback : ∀ (b' : Bool) J, (b' && zb2 (ks.drop (j + 1)) (j + 1)) = zbu d D.vars C.args[i] → zm6 (.sl (data.map Dat.cs) .none) (.int .i64 d) (.ms H.length 0 C.args.length C.args.length) (.int .i64 i) (.sl (VT.css C.args) .none) (.int .i64 C.args.length) (.int .i64 i) (.sl (VT.css ks) .none) (.int .i64 ks.length) (.int .i64 j)
        (H ++ .cells (zbb (bs.set i b')) :: .cells [.int .i64 k, .int .i64 n, .sl (VT.css ks) .none] :: J) (Out H.length K) Kb Kb1 := by
       intro b' J hb'
       simp [zm6]
       rw [zal (by omega) (by omega)]
       refine hKb1 _ _ ⟨ks.length - (j + 1), by omega, Back.at (J := J) (H2 := H ++ [.cells (zbb (bs.set i b')), .cells [.int .i64 k, .int .i64 n, .sl (VT.css ks) .none]]) (by simp) (by simp) (hsc2 _) ?_ ⟨_, rfl, j + 1, b', by omega, rfl, by simp, hb', rfl⟩⟩
       simp [ziM, AV.sc, AV.scV, AV.scA, AV.scB]
      have hstore : ∀ l, List.take i (zbb (bs.set i b)) ++ .bool false :: List.drop (i + 1) (zbb (bs.set i b)) = l → l = zbb (bs.set i false) := by
       rintro _ rfl
       rw [zoH (by simpa using hib)]; simp
      cases g1 : (k' == 4) with
      | false =>
       have : (k' != 4) = true := by simp [bne, g1]
       rw [g1] at hob
       simp [zeQ, zeR, hjl, hx', VT.cs, this, hlt, hbl, hstore _ rfl]
       refine ⟨by omega, hback _ _ ?_⟩; simpa using hob.symm
      | true =>
      have g1' : (k' != 4) = false := by simp [bne, g1]
      cases g2 : (n' == (j : Int)) with
      | false =>
       have : (n' != (j : Int)) = true := by simp [bne, g2]
       rw [g1, g2] at hob
       simp [zeQ, zeR, hjl, hx', VT.cs, g1', this, hlt, hbl, hstore _ rfl]
       refine ⟨by omega, hback _ _ ?_⟩; simpa using hob.symm
      | true =>
      have g2' : (n' != (j : Int)) = false := by simp [bne, g2]
      by_cases g3 : ks'.length = 0
      ·have g3' : ¬ (0 : Int) < ks'.length := by omega
       have g3'' : ¬ 0 < ks'.length := by omega
       simp [zeQ, zeR, hjl, hx', VT.cs, g1', g2', g3', g3'']
       refine hback _ _ ?_; simpa [g1, g2, g3] using hob
      ·have g3' : (0 : Int) < ks'.length := by omega
       have g3'' : 0 < ks'.length := by omega
       have g4 : (ks'.length == 0) = false := by simpa using g3
       rw [g4] at hob
       simp [zeQ, zeR, hjl, hx', VT.cs, g1', g2', g3', g3'', hlt, hbl, hstore _ rfl]
       refine ⟨by omega, hback _ _ ?_⟩; simpa using hob.symm
     ·obtain rfl : j = ks.length := by omega
      rw [List.drop_length, zb2, Bool.and_true] at hob
      simp [zeQ]
      rw [zal (by omega) (by omega)]
      refine hKb _ _ ⟨C.args.length - (i + 1), by omega, Back.at (J := [.cells [.int .i64 k, .int .i64 n, .sl (VT.css ks) .none]]) (H2 := H ++ [.cells (zbb (bs.set i b))]) (by simp) (by simp) (hsc0 _) ?_ ⟨_, rfl, i + 1, bs.set i b, by omega, rfl, by simp, by simpa using hbl, ?_, rfl⟩⟩
      ·simp [ziN, AV.sc, AV.scV, AV.scA, AV.scB]
      ·intro j hj h'
       by_cases hji : j = i
       ·subst hji; rw [← hob]; simp [hbl, hlt]
       ·rw [List.getElem?_set_ne (by omega)]; exact hbs j (by omega) h'
   have hstore : ∀ b l, List.take i (zbb bs) ++ .bool b :: List.drop (i + 1) (zbb bs) = l → l = zbb (bs.set i b) := by
    rintro b _ rfl
    rw [zoH (by omega)]
   cases h5 : (k == 5) with
   | false => simp [zfX, hlt, hx, VT.cs, e1, hd, hD, Dat.cs, h5, hbl, hstore _ _ rfl]; refine ⟨by omega, inner _ ?_⟩; simp [h5]
   | true =>
   cases hn : (n == (d : Int)) with
   | false => simp [zfX, hlt, hx, VT.cs, e1, hd, hD, Dat.cs, h5, hn, hbl, hstore _ _ rfl]; refine ⟨by omega, inner _ ?_⟩; simp [h5, hn]
   | true => simp [zfX, hlt, hx, VT.cs, e1, hd, hD, Dat.cs, h5, hn, hbl, hstore _ _ rfl]; refine ⟨by omega, inner _ ?_⟩; simp [h5, hn]
  ·obtain rfl : i = C.args.length := by omega
   simp [zfX]
   have hbe : bs = C.args.map (zbu d D.vars) := by
    refine List.ext_getElem (by simpa using hbl) fun j h1 h2 => ?_
    have := hbs j (by omega) (by omega)
    rw [List.getElem?_eq_getElem h1] at this
    simpa using this
   subst hbe
   refine ⟨_, H, _, rfl, Nat.le_refl _, hs, .one (.frz H.length 0 _ _ 1 (zbb (C.args.map (zbu d D.vars))) (C.args.map fun t => [.bool (zbu d D.vars t)]) (Nat.le_refl _) (by simp) (by simp) ?_ (by simp) (by simp) (Nat.le_refl _)), hK⟩
   rw [List.drop_zero, List.take_of_length_le (by simp), zp4, List.map_map]
   rfl
end Go.Proofs.YtacebbdfgbfgiaaGreat
namespace Go.Abs
open Go
def zbs (b : UInt8) : Bool := decide (97 ≤ (b.toNat : Int)) && decide ((b.toNat : Int) ≤ 122)
def bUp (b : UInt8) : Bool := decide (65 ≤ (b.toNat : Int)) && decide ((b.toNat : Int) ≤ 90)
def zaH (b : UInt8) : Bool := decide (48 ≤ (b.toNat : Int)) && decide ((b.toNat : Int) ≤ 57)
def bIn (b : UInt8) : Bool := zbs b || bUp b || zaH b || b == 95
def zcu (b : UInt8) : Bool := b == 9 || b == 10 || b == 13 || b == 32
def zbD : List UInt8 → Int → Bool
 | [], _ => true
 | b :: l, n => let m := n * 10 + ((b.toNat : Int) - 48)
  if m > 1000000 then false else zbD l m
def zcz (r : List UInt8) : Bool := r.take 2 == [45, 62] || r.take 2 == [60, 61] || r.take 2 == [61, 61]
def sgns : List UInt8 := [40, 41, 44, 61, 124, 43, 45, 42, 47, 37, 60, 59, 95]
def sgn (r : List UInt8) : Nat :=
 if zcz r = true then 2 else match r with
 | [] => 0
 | b :: _ => if sgns.contains b = true then 1 else 0
structure Tk where
 kind : Int
 text : List UInt8
 pos : Nat
def tok (kw : List UInt8 → Bool) (b : UInt8) (r : List UInt8) : Except Int (Int × Nat) :=
 if (zbs b || bUp b) = true then
  let n := (r.takeWhile bIn).length + 1
  if n > 24 then .error 9 else .ok (if bUp b = true then 2 else if kw ((b :: r).take n) = true then 4 else 1, n)
 else if zaH b = true then
  let n := (r.takeWhile zaH).length + 1
  if b == 48 && decide (n > 1) then .error 2 else if zbD ((b :: r).take n) 0 = true then .ok (3, n) else .error 9
 else
  let n := sgn (b :: r)
  if n = 0 then .error 2 else .ok (5, n)
theorem zlo {kw : List UInt8 → Bool} {b : UInt8} {r : List UInt8} {k : Int} {n : Nat} (h : tok kw b r = .ok (k, n)) : 0 < n := by
 unfold tok at h
 split at h
 ·simp only at h; split at h <;> simp at h; omega
 ·split at h
  ·simp only at h; split at h
   ·simp at h
   ·split at h <;> simp at h; omega
  ·simp only at h; split at h <;> simp at h; omega
def za8 (kw : List UInt8 → Bool) (r : List UInt8) (pos : Nat) : Except (Nat × Int) (List Tk) :=
 match r with
 | [] => .ok [⟨6, [], pos⟩]
 | b :: r' =>
  if zcu b = true then za8 kw r' (pos + 1)
  else if b == 35 then za8 kw (r'.dropWhile (· != 10)) (pos + 1 + (r'.takeWhile (· != 10)).length)
  else match tok kw b r' with
   | .error e => .error (pos, e)
   | .ok (k, n) => match za8 kw (r'.drop (n - 1)) (pos + n) with
    | .error e => .error e
    | .ok l => .ok (⟨k, (b :: r').take n, pos⟩ :: l)
termination_by r.length
decreasing_by
 ·simp
 ·have := (List.dropWhile_sublist (p := (· != 10)) (l := r')).length_le; simp; omega
 ·simp; omega
end Go.Abs
