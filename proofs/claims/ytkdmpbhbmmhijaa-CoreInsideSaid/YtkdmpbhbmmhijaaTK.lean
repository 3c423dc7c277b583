import Derived.Test.YtkdmpbhbmmhijaaKY10
import Derived.Test.YtkdmpbhbmmhijaaVO
set_option linter.unusedSimpArgs false
set_option linter.unusedVariables false
namespace Go.Proofs.Ytkdmpbhbmmhijaa
open Go Go.Abs
set_option maxRecDepth 8000
def zcI (args : List VT) (i : Nat) : List AV := (args.take i).map (fun x => .int .i64 x.nodes) ++ List.replicate (args.length - i) (.int .i64 0)
theorem zGd (args : List VT) {i : Nat} (h : i ≤ args.length) : (zcI args i).length = args.length := by simp [zcI]; omega
theorem zGe (args : List VT) {i : Nat} (h : i < args.length) : (zcI args i).take i ++ [.int .i64 (args[i]).nodes] ++ (zcI args i).drop (i + 1) = zcI args (i + 1) := by
 have e1 : ((args.take i).map fun x => AV.int .i64 x.nodes).length = i := by simp; omega
 unfold zcI
 rw [List.take_append_of_le_length (by omega), List.take_of_length_le (by omega), List.drop_append, List.drop_of_length_le (by omega), List.nil_append, e1, List.take_succ_eq_append_getElem h, List.map_append]
 congr 1
 rw [show i + 1 - i = 1 by omega, List.drop_replicate]
 congr 1
theorem zHA (data : List Dat) (hdl : data.length ≤ 1000000) (hda : ∀ d ∈ data, ∀ c ∈ d.cons, c.args.length ≤ 1000 ∧ ∀ x ∈ c.args, x.nodes ≤ 1000) (hdc : ∀ d ∈ data, d.cons.length ≤ 1000000) (t : VT) (ht : t.nodes ≤ 1000) (c : Int) (H : zaa) (K : AV → zaa → Prop) (hK : K (zco (zbq data t c)) H) :
  ACalls tP ziQ [.sl (data.map Dat.cs) .none, .agg t.cs, .int .i64 c] H K := by
 refine ACalls.out (zHz fun hs => ?_)
 obtain ⟨k, n, ks⟩ := t
 have hkn : VT.nodesL ks + 1 ≤ 1000 := by simpa [VT.nodes] using ht
 have hkl := VT.len_le ks
 have hF : zbq data (.mk k n ks) c = none → ∀ J, Out H.length K (.tup [.snil, .bool false]) (H ++ J) := fun h J => by
  rw [h] at hK
  exact Out.tup hs hK ⟨zi8, zb7 rfl rfl, trivial⟩
 simp only [VT.cs, zpR]
 by_cases h5 : k = 5
 case neg =>
  have : (k != 5) = true := by simpa using h5
  simp [this, AV.isV]
  exact hF (by rw [zde, if_neg (fun h => h5 h.1)]) _
 subst h5
 by_cases h0 : n < 0
 ·simp [h0, AV.isV]
  exact hF (by rw [zde, if_neg (fun h => by have := h.2.1; omega)]) _
 by_cases h1 : (data.length : Int) ≤ n
 ·simp [h0, h1, AV.isV]
  exact hF (by
   rw [zde]
   split
   ·rw [List.getElem?_eq_none (by omega)]
   ·rfl) _
 have hn : n.toNat < data.length := by omega
 have h1' : n < data.length := by omega
 have h0' : 0 ≤ n := by omega
 generalize hdd : data[n.toNat] = d at *
 have hd : d ∈ data := by rw [← hdd]; exact List.getElem_mem hn
 have hget : data[n.toNat]? = some d := by rw [List.getElem?_eq_getElem hn, hdd]
 cases hv : ((ks.length : Int) == d.vars) with
 | false =>
  have hv' : ((ks.length : Int) != d.vars) = true := by simp [bne, hv]
  simp [h0, h1, h0', h1', hn, hdd, Dat.cs, hv', AV.isV, hget]
  exact hF (by
   rw [zde]
   split
   ·rw [hget]
    simp only
    rw [if_neg (by simpa using hv)]
   ·rfl) _
 | true =>
 have hv' : ((ks.length : Int) != d.vars) = false := by simp [bne, hv]
 have hve : (ks.length : Int) = d.vars := by simpa using hv
 by_cases hc0 : c < 0
 ·simp [h0, h1, h0', h1', hn, hdd, Dat.cs, hv', AV.isV, hget, hc0]
  exact hF (by rw [zde, if_neg (fun h => by have := h.2.2; omega)]) _
 have hfe : ∀ o, (match d.cons[c.toNat]? with | some k => if (k.args.map (subst ks)).all (fun x => decide (x.nodes ≤ 200)) = true then some (k.args.map (subst ks)) else none | none => none) = o → zbq data (.mk 5 n ks) c = o := fun o h => by
  rw [zde, if_pos ⟨rfl, h0', by omega⟩, hget]
  simp only
  rw [if_pos hve]
  exact h
 by_cases hc1 : (d.cons.length : Int) ≤ c
 ·simp [h0, h1, h0', h1', hn, hdd, Dat.cs, hv', AV.isV, hget, hc0, hc1]
  exact hF (hfe none (by rw [List.getElem?_eq_none (by omega)])) _
 have hcn : c.toNat < d.cons.length := by omega
 have hc1' : c < d.cons.length := by omega
 have hc0' : 0 ≤ c := by omega
 generalize hcc : d.cons[c.toNat] = co at *
 have hco : co ∈ d.cons := by rw [← hcc]; exact List.getElem_mem hcn
 have hgc : d.cons[c.toNat]? = some co := by rw [List.getElem?_eq_getElem hcn, hcc]
 obtain ⟨hal, han⟩ := hda d hd co hco
 have hfe' := fun o => hfe o
 rw [hgc] at hfe'
 simp only at hfe'
 have hkle : ∀ x ∈ ks, x.nodes ≤ 1000 := fun y hy => Nat.le_trans (zj3 (k := 5) (n := n) y hy) ht
 simp [h0, h1, h0', h1', hn, hdd, Dat.cs, hv', AV.isV, hget, hc0, hc1, hc0', hc1', hcn, hcc, zbd]
 refine ⟨by omega, ?_⟩
 have ez : List.replicate ks.length (AV.int .i64 0) = zcI ks 0 := by simp [zcI]
 rw [ez]
 have hsc3 : ∀ (l : List AV), (l.all fun a => a.scA (H.length + 3)) = true → HSc (H ++ [.cells [.int .i64 5, .int .i64 n, .sl (VT.css ks) .none], .cells [.str d.name, .int .i64 d.vars, .sl (d.cons.map Con.cs) .none], .cells l]) := fun l hl => hs.append (by simp [AB.sc]; simpa using hl)
 have hszsc : ∀ i, ((zcI ks i).all fun a => a.scA (H.length + 3)) = true := fun i => by
  rw [List.all_eq_true]
  intro x hx
  unfold zcI at hx
  rcases List.mem_append.1 hx with h | h
  ·obtain ⟨y, _, rfl⟩ := List.mem_map.1 h; rfl
  ·rw [List.eq_of_mem_replicate h]; rfl
 refine zHy (Inv := fun q t61 H' => ∃ i : Nat, i ≤ ks.length ∧ q = ks.length - i ∧ t61 = .int .i64 i ∧ H' = H ++ [.cells [.int .i64 5, .int .i64 n, .sl (VT.css ks) .none], .cells [.str d.name, .int .i64 d.vars, .sl (d.cons.map Con.cs) .none], .cells (zcI ks i)]) ks.length ?_ ?_
 ·intro _; exact ⟨0, by omega, by omega, rfl, rfl⟩
 ·rintro q t61 H' ⟨i, hi, rfl, rfl, rfl⟩ hsc8 hlen8 hsF8 Kb8 hKb8
  by_cases hlt : i < ks.length
  ·have hle := hkle _ (List.getElem_mem hlt)
   obtain ⟨x1, x2, x3, hvx, hx1, hx2, hx3⟩ := zcM ks[i]
   simp [zk4, hlt, hvx, hx1, hx2, hx3]
   rw [← hvx]
   refine zIR _ _ (Nat.le_refl _) (by omega) _ _ ?_
   have hll := zGd ks hi
   simp [hlt, hll]
   refine ⟨by omega, ?_⟩
   rw [zar (by omega) (by omega)]
   have e := zGe ks hlt
   rw [List.append_assoc, List.singleton_append] at e
   rw [e]
   refine hKb8 _ _ ⟨ks.length - (i + 1), by omega, Back.at (J := [_]) (H2 := H ++ [.cells [.int .i64 5, .int .i64 n, .sl (VT.css ks) .none], .cells [.str d.name, .int .i64 d.vars, .sl (d.cons.map Con.cs) .none], .cells (zcI ks (i + 1))]) (by simp; rfl) (by simp) (hsc3 _ (hszsc _)) ?_ ⟨_, rfl, i + 1, by omega, rfl, by simp, rfl⟩⟩
   simp [zfA, AV.sc, AV.scV, AV.scA, AV.scB]
  ·obtain rfl : i = ks.length := by omega
   have efull : zcI ks ks.length = ks.map fun x => .int .i64 x.nodes := by simp [zcI]
   have hsc8' := hsc8
   rw [efull] at hsc8' ⊢
   simp [zk4, hc0', hc1', hcn, hcc, Con.cs, hgc]
   refine zHw (Inv := fun q t79 H' => ∃ i : Nat, i ≤ co.args.length ∧ q = co.args.length - i ∧ t79 = .int .i64 i ∧ (∀ x ∈ co.args.take i, (subst ks x).nodes ≤ 200) ∧ H' = H ++ [.cells [.int .i64 5, .int .i64 n, .sl (VT.css ks) .none], .cells [.str d.name, .int .i64 d.vars, .sl (d.cons.map Con.cs) .none], .cells (ks.map fun x => .int .i64 x.nodes)]) co.args.length ?_ ?_
   ·intro _; exact ⟨0, by omega, by omega, rfl, by simp, rfl⟩
   ·rintro q t79 H' ⟨i, hi, rfl, rfl, hall, rfl⟩ hsc13 hlen13 hsF13 Kb13 hKb13
    by_cases hlt : i < co.args.length
    ·have hmem := List.getElem_mem hlt
     obtain ⟨x1, x2, x3, hvx, hx1, hx2, hx3⟩ := zcM co.args[i]
     simp [zk2, hlt, hvx, hx1, hx2, hx3]
     rw [← hvx]
     refine zIW ks (fun y hy => by have := hkle y hy; omega) (by omega) _ co.args[i] (Nat.le_refl _) (by have := han _ hmem; omega) _ (H.length + 2) (by simp [zkL]) _ fun r hr1 hr2 hr3 => ?_
     by_cases hbig : r ≤ 200
     ·have hbig' : ¬ (200 : Int) < r := by omega
      simp [hbig']
      rw [zar (by omega) (by omega)]
      refine hKb13 _ _ ⟨co.args.length - (i + 1), by omega, Back.at (J := [_]) (H2 := H ++ [.cells [.int .i64 5, .int .i64 n, .sl (VT.css ks) .none], .cells [.str d.name, .int .i64 d.vars, .sl (d.cons.map Con.cs) .none], .cells (ks.map fun x => .int .i64 x.nodes)]) (by simp; rfl) (by simp) hsc8' ?_ ⟨_, rfl, i + 1, by omega, rfl, by simp, ztL hlt hall (hr1.1 hbig), rfl⟩⟩
      simp [zfy, AV.sc, AV.scV, AV.scA, AV.scB]
     ·have hbig' : (200 : Int) < r := by omega
      simp [hbig', AV.isV]
      refine hF (hfe' none ?_) _
      rw [if_neg]
      intro hal2
      have := List.all_eq_true.1 hal2 (subst ks co.args[i]) (List.mem_map.2 ⟨_, hmem, rfl⟩)
      exact hbig (hr1.2 (of_decide_eq_true this))
    ·obtain rfl : i = co.args.length := by omega
     rw [List.take_length] at hall
     have hfs := hfe' (some (co.args.map (subst ks))) (if_pos (List.all_eq_true.2 fun y hy => by
      obtain ⟨x, hx, rfl⟩ := List.mem_map.1 hy
      exact decide_eq_true (hall x hx)))
     rw [hfs] at hK
     simp [zk2, hc0', hc1', hcn, hcc, Con.cs, hgc]
     unfold zk5
     refine ALoop.own 14 zaD 3 rfl ?_
     have hlen1 : (H ++ [AB.cells [.int .i64 5, .int .i64 n, .sl (VT.css ks) .none], .cells [.str d.name, .int .i64 d.vars, .sl (d.cons.map Con.cs) .none], .cells (ks.map fun x => .int .i64 x.nodes)]).length = H.length + 3 := by simp
     rw [hlen1]
     have hperm : ∀ m, HSc (H ++ [.cells [.int .i64 5, .int .i64 n, .sl (VT.css ks) .none], .cells [.str d.name, .int .i64 d.vars, .sl (d.cons.map Con.cs) .none], .cells (ks.map fun x => .int .i64 x.nodes), .perm zaD 3 m]) := fun m => by have := hsc8'.append (J := [.perm zaD 3 m]) rfl; simpa using this
     rw [List.append_assoc]
     show zk5 (.ptr H.length 0) (.sl [] (.own (H.length + 3))) (.sl (VT.css co.args) .none) (.int .i64 co.args.length) (.int .i64 0) (H ++ [.cells [.int .i64 5, .int .i64 n, .sl (VT.css ks) .none], .cells [.str d.name, .int .i64 d.vars, .sl (d.cons.map Con.cs) .none], .cells (ks.map fun x => .int .i64 x.nodes), .perm zaD 3 0]) (Out H.length K)
     refine zHx (Inv := fun q t14 t95 H' => ∃ i : Nat, i ≤ co.args.length ∧ q = co.args.length - i ∧ t95 = .int .i64 i ∧ t14 = .sl (VT.css ((co.args.map (subst ks)).take i)) (.own (H.length + 3)) ∧ H' = H ++ [.cells [.int .i64 5, .int .i64 n, .sl (VT.css ks) .none], .cells [.str d.name, .int .i64 d.vars, .sl (d.cons.map Con.cs) .none], .cells (ks.map fun x => .int .i64 x.nodes), .perm zaD 3 i]) co.args.length ?_ ?_
     ·intro _; exact ⟨0, by omega, by omega, rfl, by simp [VT.css], rfl⟩
     ·rintro q t14 t95 H' ⟨i, hi, rfl, rfl, rfl, rfl⟩ hsc20 hlen20 hsF20 Kb20 hKb20
      by_cases hlt : i < co.args.length
      ·have hmem := List.getElem_mem hlt
       obtain ⟨x1, x2, x3, hvx, hx1, hx2, hx3⟩ := zcM co.args[i]
       simp [zk3, hlt, hvx, hx1, hx2, hx3]
       rw [← hvx]
       refine zI1 _ ks (fun y hy => by have := hkle y hy; omega) (by omega) co.args[i] (Nat.le_refl _) (by have := han _ hmem; omega) _ _ ?_
       rw [zbJ]
       simp [zaJ, zbH, zbh]
       refine ⟨by omega, ⟨by omega, by omega⟩, ?_⟩
       rw [zar (by omega) (by omega), show min i co.args.length = i by omega]
       refine hKb20 _ _ ⟨co.args.length - (i + 1), by omega, Back.at (H2 := H ++ [.cells [.int .i64 5, .int .i64 n, .sl (VT.css ks) .none], .cells [.str d.name, .int .i64 d.vars, .sl (d.cons.map Con.cs) .none], .cells (ks.map fun x => .int .i64 x.nodes), .perm zaD 3 (i + 1)]) (J := [_]) (by simp; rfl) (by simp) (hperm _) ?_ ⟨_, _, rfl, i + 1, by omega, rfl, by simp, ?_, rfl⟩⟩
       ·simp [zfz, AV.sc, AV.scV, AV.scA, AV.scB]
       ·rw [ziG (by simpa using hlt)]; simp
      ·obtain rfl : i = co.args.length := by omega
       rw [List.take_of_length_le (by simp)]
       simp [zk3, AV.isV]
       exact Out.tup hs hK ⟨slV, zb7 rfl rfl, trivial⟩
def zj2 (i : Nat) : VT → Bool
 | .mk k n ks => k == 4 && n == i && ks.length == 0
def zcZ : List VT → Nat → Bool
 | [], _ => true
 | x :: l, i => zj2 i x && zcZ l (i + 1)
def zcd (d vars : Int) : VT → Bool
 | .mk k n ks => k == 5 && n == d && (ks.length : Int) == vars && zcZ ks 0
mutual
def zce (d : Int) : VT → Bool
 | .mk k n ks => (k == 5 && n == d) || zeA d ks
def zeA (d : Int) : List VT → Bool
 | [] => false
 | t :: ts => zce d t || zeA d ts
end
theorem zDg (v : VT) (d vars : Int) (hb : v.nodes ≤ 1000000) (H : zaa) (K : AV → zaa → Prop) (hK : K (.bool (zcd d vars v)) H) : ACalls tP zoV [.agg v.cs, .int .i64 d, .int .i64 vars] H K := by
 refine ACalls.out (zNo fun hs => ?_)
 obtain ⟨k, n, ks⟩ := v
 have hnl : VT.nodesL ks + 1 ≤ 1000000 := by simpa [VT.nodes] using hb
 have hll := VT.len_le ks
 have hO : ∀ J, Out H.length K (.bool (k == 5 && n == d && (ks.length : Int) == vars && zcZ ks 0)) (H ++ J) := fun J => Out.bool rfl (Nat.le_refl _) hs (by simpa [zcd] using hK)
 simp only [VT.cs, zrU]
 cases h5 : (k == 5) with
 | false =>
  have : (k != 5) = true := by simp [bne, h5]
  rw [h5] at hO
  simp [this]
  exact hO _
 | true =>
 have h5' : (k != 5) = false := by simp [bne, h5]
 cases hn : (n == d) with
 | false =>
  have : (n != d) = true := by simp [bne, hn]
  rw [h5, hn] at hO
  simp [h5', this]
  exact hO _
 | true =>
 have hn' : (n != d) = false := by simp [bne, hn]
 cases hv : ((ks.length : Int) == vars) with
 | false =>
  have : ((ks.length : Int) != vars) = true := by simp [bne, hv]
  rw [h5, hn, hv] at hO
  simp [h5', hn', this]
  exact hO _
 | true =>
 have hv' : ((ks.length : Int) != vars) = false := by simp [bne, hv]
 rw [h5, hn, hv] at hO
 simp only [Bool.true_and] at hO
 simp [h5', hn', hv']
 refine zNn (Inv := fun q t7 H' => ∃ i : Nat, i ≤ ks.length ∧ q = ks.length - i ∧ t7 = .int .i64 i ∧ zcZ (ks.drop i) i = zcZ ks 0 ∧ H' = H ++ [.cells [.int .i64 k, .int .i64 n, .sl (VT.css ks) .none]]) ks.length ?_ ?_
 ·intro _; exact ⟨0, by omega, by omega, rfl, by simp, rfl⟩
 ·rintro q t7 H' ⟨i, hi, rfl, rfl, ho, rfl⟩ hsc hlen hsF Kb hKb
  by_cases hlt : i < ks.length
  ·rw [List.drop_eq_getElem_cons hlt, zcZ] at ho
   obtain ⟨k', n', ks', hx⟩ : ∃ k' n' ks', ks[i] = .mk k' n' ks' := by cases h : ks[i] with | mk a b c => exact ⟨a, b, c, rfl⟩
   rw [hx, zj2] at ho
   cases g1 : (k' == 4) with
   | false =>
    have : (k' != 4) = true := by simp [bne, g1]
    rw [g1] at ho
    simp only [Bool.false_and] at ho
    rw [← ho] at hO
    simp [zgO, hlt, hx, VT.cs, this]
    exact hO _
   | true =>
   have g1' : (k' != 4) = false := by simp [bne, g1]
   cases g2 : (n' == (i : Int)) with
   | false =>
    have : (n' != (i : Int)) = true := by simp [bne, g2]
    rw [g1, g2] at ho
    simp only [Bool.false_and, Bool.and_false] at ho
    rw [← ho] at hO
    simp [zgO, hlt, hx, VT.cs, g1', this]
    exact hO _
   | true =>
   have g2' : (n' != (i : Int)) = false := by simp [bne, g2]
   by_cases g3 : ks'.length = 0
   ·have g3' : ¬ (0 : Int) < ks'.length := by omega
    have g3'' : ¬ 0 < ks'.length := by omega
    rw [g1, g2, g3] at ho
    simp only [Bool.true_and, BEq.rfl] at ho
    simp [zgO, hlt, hx, VT.cs, g1', g2', g3', g3'']
    rw [zar (by omega) (by omega)]
    refine hKb _ _ ⟨ks.length - (i + 1), by omega, Back.here (by simp) hsc ?_ ⟨_, rfl, i + 1, by omega, rfl, by simp, ho, rfl⟩⟩
    simp [zgP, AV.sc, AV.scV, AV.scA, AV.scB]
   ·have g3' : (0 : Int) < ks'.length := by omega
    have g3'' : 0 < ks'.length := by omega
    have g4 : (ks'.length == 0) = false := by simpa using g3
    rw [g4] at ho
    simp only [Bool.and_false, Bool.false_and] at ho
    rw [← ho] at hO
    simp [zgO, hlt, hx, VT.cs, g1', g2', g3', g3'']
    exact hO _
  ·obtain rfl : i = ks.length := by omega
   rw [List.drop_length, zcZ] at ho
   rw [← ho] at hO
   simp [zgO]
   exact hO _
theorem zDZ : zcy tP zj8 = true := by kernel_rfl
theorem ztO (d : Int) : ∀ l : List VT, zeA d l = l.any (zce d)
 | [] => rfl
 | t :: ts => by simp [zeA, ztO d ts]
theorem zN1 (d : Int) : ∀ (m : Nat) (v : VT), v.nodes ≤ m → v.nodes ≤ 1000000 → ∀ (H : zaa) (K : AV → zaa → Prop), K (.bool (zce d v)) H → ACalls tP zkt [.agg v.cs, .int .i64 d] H K := by
 intro m
 induction m with
 | zero => intro v h; have := v.nodes_pos; omega
 | succ m ih =>
  intro v hv hb H K hK
  obtain ⟨k, n, ks⟩ := v
  have hnl : VT.nodesL ks + 1 ≤ 1000000 := by simpa [VT.nodes] using hb
  have hll := VT.len_le ks
  refine ACalls.out (zNZ fun hs => ?_)
  have hO : ∀ J, Out H.length K (.bool ((k == 5 && n == d) || ks.any (zce d))) (H ++ J) := fun J => Out.bool rfl (Nat.le_refl _) hs (by simpa [zce, ztO] using hK)
  have go : (k == 5 && n == d) = false → ∀ KK : AV → zaa → Prop, (∀ b, Out H.length K (.bool b) (H ++ [.cells [.int .i64 k, .int .i64 n, .sl (VT.css ks) .none], .cells [.int .i64 d]]) → KK (.bool b) (H ++ [.cells [.int .i64 k, .int .i64 n, .sl (VT.css ks) .none], .cells [.int .i64 d]])) →
    ACalls tP zfm [.sl (VT.css ks) .none, .fn zj8 [.ptr (H.length + 1) 0]] (H ++ [.cells [.int .i64 k, .int .i64 n, .sl (VT.css ks) .none], .cells [.int .i64 d]]) KK := by
   intro hno KK hKK
   rw [hno, Bool.false_or] at hO
   refine zn9 ks (by omega) _ _ _ (by simp [AV.sc, AV.scV, AV.scA, AV.scB]) (fun i H' => (ks.drop i).any (zce d) = ks.any (zce d) ∧ H' = H ++ [.cells [.int .i64 k, .int .i64 n, .sl (VT.css ks) .none], .cells [.int .i64 d]]) ⟨by simp, rfl⟩ ?_ ?_
   ·rintro i hi H' hle ⟨ho, rfl⟩
    have hki := VT.kid_lt (k := k) (n := n) hi
    rw [List.drop_eq_getElem_cons hi, List.any_cons] at ho
    simp only [aCallV, zDZ, List.singleton_append]
    refine ACalls.out (zHn fun hs1 => ?_)
    obtain ⟨x1, x2, x3, hvx, hx1, hx2, hx3⟩ := zcM ks[i]
    simp [zpP, hvx]
    rw [← hvx]
    refine ih ks[i] (by omega) (by omega) _ _ ?_
    refine Out.bool (J := [_]) (H2 := H ++ [.cells [.int .i64 k, .int .i64 n, .sl (VT.css ks) .none], .cells [.int .i64 d]]) (by simp; rfl) (by simp) hs1 ?_
    cases hb : zce d ks[i] with
    | false =>
     rw [hb, Bool.false_or] at ho
     exact .inl ⟨rfl, ho, rfl⟩
    | true =>
     rw [hb, Bool.true_or] at ho
     rw [← ho] at hO
     exact .inr ⟨rfl, hKK _ (hO _)⟩
   ·rintro H' ⟨ho, rfl⟩
    rw [List.drop_length, List.any_nil] at ho
    rw [← ho] at hO
    exact hKK _ (hO _)
  simp only [VT.cs, zr6]
  cases h5 : (k == 5) with
  | false =>
   simp [h5, AV.isB]
   refine go (by rw [h5]; rfl) _ fun b hb => ?_
   simpa using hb
  | true =>
   cases hn : (n == d) with
   | false =>
    simp [h5, hn, AV.isB]
    refine go (by rw [hn]; simp) _ fun b hb => ?_
    simpa using hb
   | true =>
    rw [h5, hn] at hO
    simp [h5, hn]
    exact hO _
def zaV (l : List Bool) : List AV := l.map AV.bool
@[simp] theorem zRU (l : List Bool) : (zaV l).length = l.length := by simp [zaV]
theorem zeq (n : Nat) : (List.replicate n [AV.bool false]).flatten = zaV (List.replicate n false) := by
 induction n with
 | zero => rfl
 | succ n ih => simp [List.replicate_succ, ih, zaV]
theorem zer {l : List Bool} {i : Nat} (h : i < l.length) (b : Bool) : (zaV l).take i ++ .bool b :: (zaV l).drop (i + 1) = zaV (l.set i b) := by
 simp [zaV, List.set_eq_take_append_cons_drop, h]
theorem zdp (m : Nat) (l : List Bool) : (zaV l).all (AV.scA m) = true := by simp [zaV]
theorem zuc : ∀ l : List Bool, zbx (zaV l) = some (l.map fun b => [AV.bool b]).flatten
 | [] => rfl
 | b :: l => by
  have := zuc l
  simp [zaV] at this ⊢
  simp [zbx, this, AV.pd]
theorem zNX (data : List Dat) (d : Nat) (c : Nat) (hd : d < data.length) (hc : c < (data[d]).cons.length) (hl : data.length ≤ 1000000) (hcl : (data[d]).cons.length ≤ 1000000) (hal : ((data[d]).cons[c]).args.length ≤ 1000000)
  (hb : ∀ x ∈ ((data[d]).cons[c]).args, x.nodes ≤ 1000000) (H : zaa) (K : AV → zaa → Prop)
  (hK : K (.sl (((data[d]).cons[c]).args.map fun t => [.bool (zcd d (data[d]).vars t)]) .none) H) :
  ACalls tP zoX [.sl (data.map Dat.cs) .none, .int .i64 d, .int .i64 c] H K := by
 refine ACalls.out (zNW fun hs => ?_)
 have e1 : (data.map Dat.cs)[d]? = some (data[d]).cs := by simp [hd]
 have e2 : ((data[d]).cons.map Con.cs)[c]? = some ((data[d]).cons[c]).cs := by simp [hc]
 generalize hD : data[d] = D at *
 generalize hA : D.cons[c] = C at *
 have h1 : ¬ (d : Int) < 0 := by omega
 have h2 : ¬ (data.length : Int) ≤ d := by omega
 have h3 : ¬ (c : Int) < 0 := by omega
 have h4 : ¬ (D.cons.length : Int) ≤ c := by omega
 simp [zr1, h1, h2, h3, h4, e1, e2, Dat.cs, Con.cs, hd, hD, hc, hA]
 simp only [zbd, Int.toNat_natCast, zeq]
 refine ⟨⟨by omega, by omega, by omega, by omega⟩, ?_⟩
 refine zNV (Inv := fun q t49 H' => ∃ (i : Nat) (bs : List Bool), i ≤ C.args.length ∧ q = C.args.length - i ∧ t49 = .int .i64 i ∧ bs.length = C.args.length ∧ (∀ j (hj : j < i) (h' : j < C.args.length), bs[j]? = some (zcd d D.vars C.args[j])) ∧ H' = H ++ [.cells (zaV bs)]) C.args.length ?_ ?_
 ·intro _; exact ⟨0, _, by omega, by omega, rfl, by simp, by omega, rfl⟩
 ·rintro q t49 H' ⟨i, bs, hi, rfl, rfl, hbl, hbs, rfl⟩ hsc hlen hsF Kb hKb
  by_cases hlt : i < C.args.length
  ·obtain ⟨k, n, ks, hx⟩ : ∃ k n ks, C.args[i] = .mk k n ks := by cases h : C.args[i] with | mk a b c => exact ⟨a, b, c, rfl⟩
   have hnb := hb _ (List.getElem_mem hlt)
   rw [hx, VT.nodes] at hnb
   have hll := VT.len_le ks
   have inner : ∀ b0 : Bool, b0 = (k == 5 && n == (d : Int) && (ks.length : Int) == D.vars) →
     zr4 (.sl (data.map Dat.cs) .none) (.int .i64 d) (.ms H.length 0 C.args.length C.args.length) (.int .i64 i) (.sl (VT.css C.args) .none) (.int .i64 C.args.length) (.int .i64 i) (.sl (VT.css ks) .none) (.int .i64 ks.length) (.int .i64 0)
      (H ++ [.cells (zaV (bs.set i b0)), .cells [.int .i64 k, .int .i64 n, .sl (VT.css ks) .none]]) (Out H.length K) Kb := by
    intro b0 hb0
    refine zNU (Inv := fun q t80 H' => ∃ (j : Nat) (b : Bool), j ≤ ks.length ∧ q = ks.length - j ∧ t80 = .int .i64 j ∧ (b && zcZ (ks.drop j) j) = zcd d D.vars C.args[i] ∧ H' = H ++ [.cells (zaV (bs.set i b)), .cells [.int .i64 k, .int .i64 n, .sl (VT.css ks) .none]]) ks.length ?_ ?_
    ·intro _; exact ⟨0, b0, by omega, by omega, rfl, by simp [hx, zcd, hb0], rfl⟩
    ·rintro q t80 H' ⟨j, b, hj, rfl, rfl, hob, rfl⟩ hsc1 hlen1 hsF1 Kb1 hKb1
     have hsc0 : ∀ b : Bool, HSc (H ++ [.cells (zaV (bs.set i b))]) := fun b => hs.snoc (by simp [AB.sc, zdp])
     have hsc2 : ∀ b : Bool, HSc (H ++ [.cells (zaV (bs.set i b)), .cells [.int .i64 k, .int .i64 n, .sl (VT.css ks) .none]]) := fun b => hs.append (by simp [AB.sc, zdp])
     by_cases hjl : j < ks.length
     ·obtain ⟨k', n', ks', hx'⟩ : ∃ k' n' ks', ks[j] = .mk k' n' ks' := by cases h : ks[j] with | mk a b c => exact ⟨a, b, c, rfl⟩
      have hib : i < bs.length := by omega
      rw [List.drop_eq_getElem_cons hjl, zcZ, hx', zj2] at hob
      have hback : ∀ (b' : Bool) J, (b' && zcZ (ks.drop (j + 1)) (j + 1)) = zcd d D.vars C.args[i] → zr3 (.sl (data.map Dat.cs) .none) (.int .i64 d) (.ms H.length 0 C.args.length C.args.length) (.int .i64 i) (.sl (VT.css C.args) .none) (.int .i64 C.args.length) (.int .i64 i) (.sl (VT.css ks) .none) (.int .i64 ks.length) (.int .i64 j)
        (H ++ .cells (zaV (bs.set i b')) :: .cells [.int .i64 k, .int .i64 n, .sl (VT.css ks) .none] :: J) (Out H.length K) Kb Kb1 := by
       intro b' J hb'
       simp [zr3]
       rw [zar (by omega) (by omega)]
       refine hKb1 _ _ ⟨ks.length - (j + 1), by omega, Back.at (J := J) (H2 := H ++ [.cells (zaV (bs.set i b')), .cells [.int .i64 k, .int .i64 n, .sl (VT.css ks) .none]]) (by simp) (by simp) (hsc2 _) ?_ ⟨_, rfl, j + 1, b', by omega, rfl, by simp, hb', rfl⟩⟩
       simp [zgW, AV.sc, AV.scV, AV.scA, AV.scB]
      have hstore : ∀ l, List.take i (zaV (bs.set i b)) ++ .bool false :: List.drop (i + 1) (zaV (bs.set i b)) = l → l = zaV (bs.set i false) := by
       rintro _ rfl
       rw [zer (by simpa using hib)]; simp
      cases g1 : (k' == 4) with
      | false =>
       have : (k' != 4) = true := by simp [bne, g1]
       rw [g1] at hob
       simp [zgV, zip, hjl, hx', VT.cs, this, hlt, hbl, hstore _ rfl]
       refine ⟨by omega, hback _ _ ?_⟩; simpa using hob.symm
      | true =>
      have g1' : (k' != 4) = false := by simp [bne, g1]
      cases g2 : (n' == (j : Int)) with
      | false =>
       have : (n' != (j : Int)) = true := by simp [bne, g2]
       rw [g1, g2] at hob
       simp [zgV, zip, hjl, hx', VT.cs, g1', this, hlt, hbl, hstore _ rfl]
       refine ⟨by omega, hback _ _ ?_⟩; simpa using hob.symm
      | true =>
      have g2' : (n' != (j : Int)) = false := by simp [bne, g2]
      by_cases g3 : ks'.length = 0
      ·have g3' : ¬ (0 : Int) < ks'.length := by omega
       have g3'' : ¬ 0 < ks'.length := by omega
       simp [zgV, zip, hjl, hx', VT.cs, g1', g2', g3', g3'']
       refine hback _ _ ?_; simpa [g1, g2, g3] using hob
      ·have g3' : (0 : Int) < ks'.length := by omega
       have g3'' : 0 < ks'.length := by omega
       have g4 : (ks'.length == 0) = false := by simpa using g3
       rw [g4] at hob
       simp [zgV, zip, hjl, hx', VT.cs, g1', g2', g3', g3'', hlt, hbl, hstore _ rfl]
       refine ⟨by omega, hback _ _ ?_⟩; simpa using hob.symm
     ·obtain rfl : j = ks.length := by omega
      rw [List.drop_length, zcZ, Bool.and_true] at hob
      simp [zgV]
      rw [zar (by omega) (by omega)]
      refine hKb _ _ ⟨C.args.length - (i + 1), by omega, Back.at (J := [.cells [.int .i64 k, .int .i64 n, .sl (VT.css ks) .none]]) (H2 := H ++ [.cells (zaV (bs.set i b))]) (by simp) (by simp) (hsc0 _) ?_ ⟨_, rfl, i + 1, bs.set i b, by omega, rfl, by simp, by simpa using hbl, ?_, rfl⟩⟩
      ·simp [zgX, AV.sc, AV.scV, AV.scA, AV.scB]
      ·intro j hj h'
       by_cases hji : j = i
       ·subst hji; rw [← hob]; simp [hbl, hlt]
       ·rw [List.getElem?_set_ne (by omega)]; exact hbs j (by omega) h'
   have hstore : ∀ b l, List.take i (zaV bs) ++ .bool b :: List.drop (i + 1) (zaV bs) = l → l = zaV (bs.set i b) := by
    rintro b _ rfl
    rw [zer (by omega)]
   cases h5 : (k == 5) with
   | false => simp [zio, hlt, hx, VT.cs, e1, hd, hD, Dat.cs, h5, hbl, hstore _ _ rfl]; refine ⟨by omega, inner _ ?_⟩; simp [h5]
   | true =>
   cases hn : (n == (d : Int)) with
   | false => simp [zio, hlt, hx, VT.cs, e1, hd, hD, Dat.cs, h5, hn, hbl, hstore _ _ rfl]; refine ⟨by omega, inner _ ?_⟩; simp [h5, hn]
   | true => simp [zio, hlt, hx, VT.cs, e1, hd, hD, Dat.cs, h5, hn, hbl, hstore _ _ rfl]; refine ⟨by omega, inner _ ?_⟩; simp [h5, hn]
  ·obtain rfl : i = C.args.length := by omega
   simp [zio]
   have hbe : bs = C.args.map (zcd d D.vars) := by
    refine List.ext_getElem (by simpa using hbl) fun j h1 h2 => ?_
    have := hbs j (by omega) (by omega)
    rw [List.getElem?_eq_getElem h1] at this
    simpa using this
   subst hbe
   refine ⟨_, H, _, rfl, Nat.le_refl _, hs, .one (.frz H.length 0 _ _ 1 (zaV (C.args.map (zcd d D.vars))) (C.args.map fun t => [.bool (zcd d D.vars t)]) (Nat.le_refl _) (by simp) (by simp) ?_ (by simp) (by simp) (Nat.le_refl _)), hK⟩
   rw [List.drop_zero, List.take_of_length_le (by simp), zuc, List.map_map]
   rfl
end Go.Proofs.Ytkdmpbhbmmhijaa
namespace Go.Abs
open Go
def zbT (b : UInt8) : Bool := decide (97 ≤ (b.toNat : Int)) && decide ((b.toNat : Int) ≤ 122)
def bUp (b : UInt8) : Bool := decide (65 ≤ (b.toNat : Int)) && decide ((b.toNat : Int) ≤ 90)
def zaZ (b : UInt8) : Bool := decide (48 ≤ (b.toNat : Int)) && decide ((b.toNat : Int) ≤ 57)
def bIn (b : UInt8) : Bool := zbT b || bUp b || zaZ b || b == 95
def zdb (b : UInt8) : Bool := b == 9 || b == 10 || b == 13 || b == 32
def zb1 : List UInt8 → Int → Bool
 | [], _ => true
 | b :: l, n => let m := n * 10 + ((b.toNat : Int) - 48)
  if m > 1000000 then false else zb1 l m
def zdi (r : List UInt8) : Bool := r.take 2 == [45, 62] || r.take 2 == [60, 61] || r.take 2 == [61, 61]
def sgns : List UInt8 := [40, 41, 44, 61, 124, 43, 45, 42, 47, 37, 60, 59, 95]
def sgn (r : List UInt8) : Nat :=
 if zdi r = true then 2 else match r with
 | [] => 0
 | b :: _ => if sgns.contains b = true then 1 else 0
structure Tk where
 kind : Int
 text : List UInt8
 pos : Nat
def tok (kw : List UInt8 → Bool) (b : UInt8) (r : List UInt8) : Except Int (Int × Nat) :=
 if (zbT b || bUp b) = true then
  let n := (r.takeWhile bIn).length + 1
  if n > 24 then .error 9 else .ok (if bUp b = true then 2 else if kw ((b :: r).take n) = true then 4 else 1, n)
 else if zaZ b = true then
  let n := (r.takeWhile zaZ).length + 1
  if b == 48 && decide (n > 1) then .error 2 else if zb1 ((b :: r).take n) 0 = true then .ok (3, n) else .error 9
 else
  let n := sgn (b :: r)
  if n = 0 then .error 2 else .ok (5, n)
theorem zpA {kw : List UInt8 → Bool} {b : UInt8} {r : List UInt8} {k : Int} {n : Nat} (h : tok kw b r = .ok (k, n)) : 0 < n := by
 unfold tok at h
 split at h
 ·simp only at h; split at h <;> simp at h; omega
 ·split at h
  ·simp only at h; split at h
   ·simp at h
   ·split at h <;> simp at h; omega
  ·simp only at h; split at h <;> simp at h; omega
def zby (kw : List UInt8 → Bool) (r : List UInt8) (pos : Nat) : Except (Nat × Int) (List Tk) :=
 match r with
 | [] => .ok [⟨6, [], pos⟩]
 | b :: r' =>
  if zdb b = true then zby kw r' (pos + 1)
  else if b == 35 then zby kw (r'.dropWhile (· != 10)) (pos + 1 + (r'.takeWhile (· != 10)).length)
  else match tok kw b r' with
   | .error e => .error (pos, e)
   | .ok (k, n) => match zby kw (r'.drop (n - 1)) (pos + n) with
    | .error e => .error e
    | .ok l => .ok (⟨k, (b :: r').take n, pos⟩ :: l)
termination_by r.length
decreasing_by
 ·simp
 ·have := (List.dropWhile_sublist (p := (· != 10)) (l := r')).length_le; simp; omega
 ·simp; omega
end Go.Abs
