import Derived.Test.YtkdmpbhbmmhijaaKY10
import Derived.Test.YtkdmpbhbmmhijaaVO
import Derived.Test.YtkdmpbhbmmhijaaKNum
import Derived.Test.YtkdmpbhbmmhijaaProg
import Derived.KernelRfl
set_option linter.unusedSimpArgs false
set_option linter.unusedVariables false
namespace Go.Proofs.Ytkdmpbhbmmhijaa
open Go Go.Abs
set_option maxRecDepth 8000
def zcG (args : List VT) (i : Nat) : List AV := (args.take i).map (fun x => .int .i64 x.nodes) ++ List.replicate (args.length - i) (.int .i64 0)
theorem zzl (args : List VT) {i : Nat} (h : i ≤ args.length) : (zcG args i).length = args.length := by simp [zcG]; omega
theorem zzm (args : List VT) {i : Nat} (h : i < args.length) : (zcG args i).take i ++ [.int .i64 (args[i]).nodes] ++ (zcG args i).drop (i + 1) = zcG args (i + 1) := by
 have e1 : ((args.take i).map fun x => AV.int .i64 x.nodes).length = i := by simp; omega
 unfold zcG
 rw [List.take_append_of_le_length (by omega), List.take_of_length_le (by omega), List.drop_append, List.drop_of_length_le (by omega), List.nil_append, e1, List.take_succ_eq_append_getElem h, List.map_append]
 congr 1
 rw [show i + 1 - i = 1 by omega, List.drop_replicate]
 congr 1
theorem zAO (data : List Dat) (hdl : data.length ≤ 1000000) (hda : ∀ d ∈ data, ∀ c ∈ d.cons, c.args.length ≤ 1000 ∧ ∀ x ∈ c.args, x.nodes ≤ 1000) (hdc : ∀ d ∈ data, d.cons.length ≤ 1000000) (t : VT) (ht : t.nodes ≤ 1000) (c : Int) (H : zaa) (K : AV → zaa → Prop) (hK : K (zcj (zbo data t c)) H) :
  ACalls tP zgo [.sl (data.map Dat.cs) .none, .agg t.cs, .int .i64 c] H K := by
 refine ACalls.out (zAN fun hs => ?_)
 obtain ⟨k, n, ks⟩ := t
 have hkn : VT.nodesL ks + 1 ≤ 1000 := by simpa [VT.nodes] using ht
 have hkl := VT.len_le ks
 have hF : zbo data (.mk k n ks) c = none → ∀ J, Out H.length K (.tup [.snil, .bool false]) (H ++ J) := fun h J => by
  rw [h] at hK
  exact Out.tup hs hK ⟨zgH, zb7 rfl rfl, trivial⟩
 simp only [VT.cs, zsN]
 by_cases h5 : k = 5
 case neg =>
  have : (k != 5) = true := by simpa using h5
  simp [this, AV.isV]
  exact hF (by rw [zc2, if_neg (fun h => h5 h.1)]) _
 subst h5
 by_cases h0 : n < 0
 ·simp [h0, AV.isV]
  exact hF (by rw [zc2, if_neg (fun h => by have := h.2.1; omega)]) _
 by_cases h1 : (data.length : Int) ≤ n
 ·simp [h0, h1, AV.isV]
  exact hF (by
   rw [zc2]
   split
   ·rw [List.getElem?_eq_none (by omega)]
   ·rfl) _
 have hn : n.toNat < data.length := by omega
 have h1' : n < data.length := by omega
 have h0' : 0 ≤ n := by omega
 generalize hdd : data[n.toNat] = d at *
 have hd : d ∈ data := by rw [← hdd]; exact List.getElem_mem hn
 have hget : data[n.toNat]? = some d := by rw [List.getElem?_eq_getElem hn, hdd]
 cases hv : ((ks.length : Int) == d.vars) with
 | false =>
  have hv' : ((ks.length : Int) != d.vars) = true := by simp [bne, hv]
  simp [h0, h1, h0', h1', hn, hdd, Dat.cs, hv', AV.isV, hget]
  exact hF (by
   rw [zc2]
   split
   ·rw [hget]
    simp only
    rw [if_neg (by simpa using hv)]
   ·rfl) _
 | true =>
 have hv' : ((ks.length : Int) != d.vars) = false := by simp [bne, hv]
 have hve : (ks.length : Int) = d.vars := by simpa using hv
 by_cases hc0 : c < 0
 ·simp [h0, h1, h0', h1', hn, hdd, Dat.cs, hv', AV.isV, hget, hc0]
  exact hF (by rw [zc2, if_neg (fun h => by have := h.2.2; omega)]) _
 have hfe : ∀ o, (match d.cons[c.toNat]? with | some k => if (k.args.map (subst ks)).all (fun x => decide (x.nodes ≤ 200)) = true then some (k.args.map (subst ks)) else none | none => none) = o → zbo data (.mk 5 n ks) c = o := fun o h => by
  rw [zc2, if_pos ⟨rfl, h0', by omega⟩, hget]
  simp only
  rw [if_pos hve]
  exact h
 by_cases hc1 : (d.cons.length : Int) ≤ c
 ·simp [h0, h1, h0', h1', hn, hdd, Dat.cs, hv', AV.isV, hget, hc0, hc1]
  exact hF (hfe none (by rw [List.getElem?_eq_none (by omega)])) _
 have hcn : c.toNat < d.cons.length := by omega
 have hc1' : c < d.cons.length := by omega
 have hc0' : 0 ≤ c := by omega
 generalize hcc : d.cons[c.toNat] = co at *
 have hco : co ∈ d.cons := by rw [← hcc]; exact List.getElem_mem hcn
 have hgc : d.cons[c.toNat]? = some co := by rw [List.getElem?_eq_getElem hcn, hcc]
 obtain ⟨hal, han⟩ := hda d hd co hco
 have hfe' := fun o => hfe o
 rw [hgc] at hfe'
 simp only at hfe'
 have hkle : ∀ x ∈ ks, x.nodes ≤ 1000 := fun y hy => Nat.le_trans (zhy (k := 5) (n := n) y hy) ht
 simp [h0, h1, h0', h1', hn, hdd, Dat.cs, hv', AV.isV, hget, hc0, hc1, hc0', hc1', hcn, hcc, zbu]
 refine ⟨by omega, ?_⟩
 have ez : List.replicate ks.length (AV.int .i64 0) = zcG ks 0 := by simp [zcG]
 rw [ez]
 have hsc3 : ∀ (l : List AV), (l.all fun a => a.scA (H.length + 3)) = true → HSc (H ++ [.cells [.int .i64 5, .int .i64 n, .sl (VT.css ks) .none], .cells [.str d.name, .int .i64 d.vars, .sl (d.cons.map Con.cs) .none], .cells l]) := fun l hl => hs.append (by simp [AB.sc]; simpa using hl)
 have hszsc : ∀ i, ((zcG ks i).all fun a => a.scA (H.length + 3)) = true := fun i => by
  rw [List.all_eq_true]
  intro x hx
  unfold zcG at hx
  rcases List.mem_append.1 hx with h | h
  ·obtain ⟨y, _, rfl⟩ := List.mem_map.1 h; rfl
  ·rw [List.eq_of_mem_replicate h]; rfl
 refine zAJ (Inv := fun q t61 H' => ∃ i : Nat, i ≤ ks.length ∧ q = ks.length - i ∧ t61 = .int .i64 i ∧ H' = H ++ [.cells [.int .i64 5, .int .i64 n, .sl (VT.css ks) .none], .cells [.str d.name, .int .i64 d.vars, .sl (d.cons.map Con.cs) .none], .cells (zcG ks i)]) ks.length ?_ ?_
 ·intro _; exact ⟨0, by omega, by omega, rfl, rfl⟩
 ·rintro q t61 H' ⟨i, hi, rfl, rfl, rfl⟩ hsc8 hlen8 hsF8 Kb8 hKb8
  by_cases hlt : i < ks.length
  ·have hle := hkle _ (List.getElem_mem hlt)
   obtain ⟨x1, x2, x3, hvx, hx1, hx2, hx3⟩ := zcK ks[i]
   simp [znl, hlt, hvx, hx1, hx2, hx3]
   rw [← hvx]
   refine zCn _ _ (Nat.le_refl _) (by omega) _ _ ?_
   have hll := zzl ks hi
   simp [hlt, hll]
   refine ⟨by omega, ?_⟩
   rw [zaq (by omega) (by omega)]
   have e := zzm ks hlt
   rw [List.append_assoc, List.singleton_append] at e
   rw [e]
   refine hKb8 _ _ ⟨ks.length - (i + 1), by omega, Back.at (J := [_]) (H2 := H ++ [.cells [.int .i64 5, .int .i64 n, .sl (VT.css ks) .none], .cells [.str d.name, .int .i64 d.vars, .sl (d.cons.map Con.cs) .none], .cells (zcG ks (i + 1))]) (by simp; rfl) (by simp) (hsc3 _ (hszsc _)) ?_ ⟨_, rfl, i + 1, by omega, rfl, by simp, rfl⟩⟩
   simp [ziw, AV.sc, AV.scV, AV.scA, AV.scB]
  ·obtain rfl : i = ks.length := by omega
   have efull : zcG ks ks.length = ks.map fun x => .int .i64 x.nodes := by simp [zcG]
   have hsc8' := hsc8
   rw [efull] at hsc8' ⊢
   simp [znl, hc0', hc1', hcn, hcc, Con.cs, hgc]
   refine zAH (Inv := fun q t79 H' => ∃ i : Nat, i ≤ co.args.length ∧ q = co.args.length - i ∧ t79 = .int .i64 i ∧ (∀ x ∈ co.args.take i, (subst ks x).nodes ≤ 200) ∧ H' = H ++ [.cells [.int .i64 5, .int .i64 n, .sl (VT.css ks) .none], .cells [.str d.name, .int .i64 d.vars, .sl (d.cons.map Con.cs) .none], .cells (ks.map fun x => .int .i64 x.nodes)]) co.args.length ?_ ?_
   ·intro _; exact ⟨0, by omega, by omega, rfl, by simp, rfl⟩
   ·rintro q t79 H' ⟨i, hi, rfl, rfl, hall, rfl⟩ hsc13 hlen13 hsF13 Kb13 hKb13
    by_cases hlt : i < co.args.length
    ·have hmem := List.getElem_mem hlt
     obtain ⟨x1, x2, x3, hvx, hx1, hx2, hx3⟩ := zcK co.args[i]
     simp [znj, hlt, hvx, hx1, hx2, hx3]
     rw [← hvx]
     refine zCu ks (fun y hy => by have := hkle y hy; omega) (by omega) _ co.args[i] (Nat.le_refl _) (by have := han _ hmem; omega) _ (H.length + 2) (by simp [zie]) _ fun r hr1 hr2 hr3 => ?_
     by_cases hbig : r ≤ 200
     ·have hbig' : ¬ (200 : Int) < r := by omega
      simp [hbig']
      rw [zaq (by omega) (by omega)]
      refine hKb13 _ _ ⟨co.args.length - (i + 1), by omega, Back.at (J := [_]) (H2 := H ++ [.cells [.int .i64 5, .int .i64 n, .sl (VT.css ks) .none], .cells [.str d.name, .int .i64 d.vars, .sl (d.cons.map Con.cs) .none], .cells (ks.map fun x => .int .i64 x.nodes)]) (by simp; rfl) (by simp) hsc8' ?_ ⟨_, rfl, i + 1, by omega, rfl, by simp, zrn hlt hall (hr1.1 hbig), rfl⟩⟩
      simp [ziu, AV.sc, AV.scV, AV.scA, AV.scB]
     ·have hbig' : (200 : Int) < r := by omega
      simp [hbig', AV.isV]
      refine hF (hfe' none ?_) _
      rw [if_neg]
      intro hal2
      have := List.all_eq_true.1 hal2 (subst ks co.args[i]) (List.mem_map.2 ⟨_, hmem, rfl⟩)
      exact hbig (hr1.2 (of_decide_eq_true this))
    ·obtain rfl : i = co.args.length := by omega
     rw [List.take_length] at hall
     have hfs := hfe' (some (co.args.map (subst ks))) (if_pos (List.all_eq_true.2 fun y hy => by
      obtain ⟨x, hx, rfl⟩ := List.mem_map.1 hy
      exact decide_eq_true (hall x hx)))
     rw [hfs] at hK
     simp [znj, hc0', hc1', hcn, hcc, Con.cs, hgc]
     unfold zix
     refine ALoop.own 14 zaA 3 rfl ?_
     have hlen1 : (H ++ [AB.cells [.int .i64 5, .int .i64 n, .sl (VT.css ks) .none], .cells [.str d.name, .int .i64 d.vars, .sl (d.cons.map Con.cs) .none], .cells (ks.map fun x => .int .i64 x.nodes)]).length = H.length + 3 := by simp
     rw [hlen1]
     have hperm : ∀ m, HSc (H ++ [.cells [.int .i64 5, .int .i64 n, .sl (VT.css ks) .none], .cells [.str d.name, .int .i64 d.vars, .sl (d.cons.map Con.cs) .none], .cells (ks.map fun x => .int .i64 x.nodes), .perm zaA 3 m]) := fun m => by have := hsc8'.append (J := [.perm zaA 3 m]) rfl; simpa using this
     rw [List.append_assoc]
     show zix (.ptr H.length 0) (.sl [] (.own (H.length + 3))) (.sl (VT.css co.args) .none) (.int .i64 co.args.length) (.int .i64 0) (H ++ [.cells [.int .i64 5, .int .i64 n, .sl (VT.css ks) .none], .cells [.str d.name, .int .i64 d.vars, .sl (d.cons.map Con.cs) .none], .cells (ks.map fun x => .int .i64 x.nodes), .perm zaA 3 0]) (Out H.length K)
     refine zAI (Inv := fun q t14 t95 H' => ∃ i : Nat, i ≤ co.args.length ∧ q = co.args.length - i ∧ t95 = .int .i64 i ∧ t14 = .sl (VT.css ((co.args.map (subst ks)).take i)) (.own (H.length + 3)) ∧ H' = H ++ [.cells [.int .i64 5, .int .i64 n, .sl (VT.css ks) .none], .cells [.str d.name, .int .i64 d.vars, .sl (d.cons.map Con.cs) .none], .cells (ks.map fun x => .int .i64 x.nodes), .perm zaA 3 i]) co.args.length ?_ ?_
     ·intro _; exact ⟨0, by omega, by omega, rfl, by simp [VT.css], rfl⟩
     ·rintro q t14 t95 H' ⟨i, hi, rfl, rfl, rfl, rfl⟩ hsc20 hlen20 hsF20 Kb20 hKb20
      by_cases hlt : i < co.args.length
      ·have hmem := List.getElem_mem hlt
       obtain ⟨x1, x2, x3, hvx, hx1, hx2, hx3⟩ := zcK co.args[i]
       simp [znk, hlt, hvx, hx1, hx2, hx3]
       rw [← hvx]
       refine zCB _ ks (fun y hy => by have := hkle y hy; omega) (by omega) co.args[i] (Nat.le_refl _) (by have := han _ hmem; omega) _ _ ?_
       rw [zbI]
       simp [zaH, zbG, zbe]
       refine ⟨by omega, ⟨by omega, by omega⟩, ?_⟩
       rw [zaq (by omega) (by omega), show min i co.args.length = i by omega]
       refine hKb20 _ _ ⟨co.args.length - (i + 1), by omega, Back.at (H2 := H ++ [.cells [.int .i64 5, .int .i64 n, .sl (VT.css ks) .none], .cells [.str d.name, .int .i64 d.vars, .sl (d.cons.map Con.cs) .none], .cells (ks.map fun x => .int .i64 x.nodes), .perm zaA 3 (i + 1)]) (J := [_]) (by simp; rfl) (by simp) (hperm _) ?_ ⟨_, _, rfl, i + 1, by omega, rfl, by simp, ?_, rfl⟩⟩
       ·simp [ziv, AV.sc, AV.scV, AV.scA, AV.scB]
       ·rw [zgf (by simpa using hlt)]; simp
      ·obtain rfl : i = co.args.length := by omega
       rw [List.take_of_length_le (by simp)]
       simp [znk, AV.isV]
       exact Out.tup hs hK ⟨slV, zb7 rfl rfl, trivial⟩
def zhx (i : Nat) : VT → Bool
 | .mk k n ks => k == 4 && n == i && ks.length == 0
def zcO : List VT → Nat → Bool
 | [], _ => true
 | x :: l, i => zhx i x && zcO l (i + 1)
def zcc (d vars : Int) : VT → Bool
 | .mk k n ks => k == 5 && n == d && (ks.length : Int) == vars && zcO ks 0
mutual
def zcd (d : Int) : VT → Bool
 | .mk k n ks => (k == 5 && n == d) || zei d ks
def zei (d : Int) : List VT → Bool
 | [] => false
 | t :: ts => zcd d t || zei d ts
end
theorem zwj (v : VT) (d vars : Int) (hb : v.nodes ≤ 1000000) (H : zaa) (K : AV → zaa → Prop) (hK : K (.bool (zcc d vars v)) H) : ACalls tP zml [.agg v.cs, .int .i64 d, .int .i64 vars] H K := by
 refine ACalls.out (zIq fun hs => ?_)
 obtain ⟨k, n, ks⟩ := v
 have hnl : VT.nodesL ks + 1 ≤ 1000000 := by simpa [VT.nodes] using hb
 have hll := VT.len_le ks
 have hO : ∀ J, Out H.length K (.bool (k == 5 && n == d && (ks.length : Int) == vars && zcO ks 0)) (H ++ J) := fun J => Out.bool rfl (Nat.le_refl _) hs (by simpa [zcc] using hK)
 simp only [VT.cs, zvz]
 cases h5 : (k == 5) with
 | false =>
  have : (k != 5) = true := by simp [bne, h5]
  rw [h5] at hO
  simp [this]
  exact hO _
 | true =>
 have h5' : (k != 5) = false := by simp [bne, h5]
 cases hn : (n == d) with
 | false =>
  have : (n != d) = true := by simp [bne, hn]
  rw [h5, hn] at hO
  simp [h5', this]
  exact hO _
 | true =>
 have hn' : (n != d) = false := by simp [bne, hn]
 cases hv : ((ks.length : Int) == vars) with
 | false =>
  have : ((ks.length : Int) != vars) = true := by simp [bne, hv]
  rw [h5, hn, hv] at hO
  simp [h5', hn', this]
  exact hO _
 | true =>
 have hv' : ((ks.length : Int) != vars) = false := by simp [bne, hv]
 rw [h5, hn, hv] at hO
 simp only [Bool.true_and] at hO
 simp [h5', hn', hv']
 refine zIo (Inv := fun q t7 H' => ∃ i : Nat, i ≤ ks.length ∧ q = ks.length - i ∧ t7 = .int .i64 i ∧ zcO (ks.drop i) i = zcO ks 0 ∧ H' = H ++ [.cells [.int .i64 k, .int .i64 n, .sl (VT.css ks) .none]]) ks.length ?_ ?_
 ·intro _; exact ⟨0, by omega, by omega, rfl, by simp, rfl⟩
 ·rintro q t7 H' ⟨i, hi, rfl, rfl, ho, rfl⟩ hsc hlen hsF Kb hKb
  by_cases hlt : i < ks.length
  ·rw [List.drop_eq_getElem_cons hlt, zcO] at ho
   obtain ⟨k', n', ks', hx⟩ : ∃ k' n' ks', ks[i] = .mk k' n' ks' := by cases h : ks[i] with | mk a b c => exact ⟨a, b, c, rfl⟩
   rw [hx, zhx] at ho
   cases g1 : (k' == 4) with
   | false =>
    have : (k' != 4) = true := by simp [bne, g1]
    rw [g1] at ho
    simp only [Bool.false_and] at ho
    rw [← ho] at hO
    simp [zfZ, hlt, hx, VT.cs, this]
    exact hO _
   | true =>
   have g1' : (k' != 4) = false := by simp [bne, g1]
   cases g2 : (n' == (i : Int)) with
   | false =>
    have : (n' != (i : Int)) = true := by simp [bne, g2]
    rw [g1, g2] at ho
    simp only [Bool.false_and, Bool.and_false] at ho
    rw [← ho] at hO
    simp [zfZ, hlt, hx, VT.cs, g1', this]
    exact hO _
   | true =>
   have g2' : (n' != (i : Int)) = false := by simp [bne, g2]
   by_cases g3 : ks'.length = 0
   ·have g3' : ¬ (0 : Int) < ks'.length := by omega
    have g3'' : ¬ 0 < ks'.length := by omega
    rw [g1, g2, g3] at ho
    simp only [Bool.true_and, BEq.rfl] at ho
    simp [zfZ, hlt, hx, VT.cs, g1', g2', g3', g3'']
    rw [zaq (by omega) (by omega)]
    refine hKb _ _ ⟨ks.length - (i + 1), by omega, Back.here (by simp) hsc ?_ ⟨_, rfl, i + 1, by omega, rfl, by simp, ho, rfl⟩⟩
    simp [zkD, AV.sc, AV.scV, AV.scA, AV.scB]
   ·have g3' : (0 : Int) < ks'.length := by omega
    have g3'' : 0 < ks'.length := by omega
    have g4 : (ks'.length == 0) = false := by simpa using g3
    rw [g4] at ho
    simp only [Bool.and_false, Bool.false_and] at ho
    rw [← ho] at hO
    simp [zfZ, hlt, hx, VT.cs, g1', g2', g3', g3'']
    exact hO _
  ·obtain rfl : i = ks.length := by omega
   rw [List.drop_length, zcO] at ho
   rw [← ho] at hO
   simp [zfZ]
   exact hO _
theorem zw2 : zcv tP zhD = true := by kernel_rfl
theorem zrq (d : Int) : ∀ l : List VT, zei d l = l.any (zcd d)
 | [] => rfl
 | t :: ts => by simp [zei, zrq d ts]
theorem zJe (d : Int) : ∀ (m : Nat) (v : VT), v.nodes ≤ m → v.nodes ≤ 1000000 → ∀ (H : zaa) (K : AV → zaa → Prop), K (.bool (zcd d v)) H → ACalls tP zhW [.agg v.cs, .int .i64 d] H K := by
 intro m
 induction m with
 | zero => intro v h; have := v.nodes_pos; omega
 | succ m ih =>
  intro v hv hb H K hK
  obtain ⟨k, n, ks⟩ := v
  have hnl : VT.nodesL ks + 1 ≤ 1000000 := by simpa [VT.nodes] using hb
  have hll := VT.len_le ks
  refine ACalls.out (zJd fun hs => ?_)
  have hO : ∀ J, Out H.length K (.bool ((k == 5 && n == d) || ks.any (zcd d))) (H ++ J) := fun J => Out.bool rfl (Nat.le_refl _) hs (by simpa [zcd, zrq] using hK)
  have go : (k == 5 && n == d) = false → ∀ KK : AV → zaa → Prop, (∀ b, Out H.length K (.bool b) (H ++ [.cells [.int .i64 k, .int .i64 n, .sl (VT.css ks) .none], .cells [.int .i64 d]]) → KK (.bool b) (H ++ [.cells [.int .i64 k, .int .i64 n, .sl (VT.css ks) .none], .cells [.int .i64 d]])) →
    ACalls tP zeR [.sl (VT.css ks) .none, .fn zhD [.ptr (H.length + 1) 0]] (H ++ [.cells [.int .i64 k, .int .i64 n, .sl (VT.css ks) .none], .cells [.int .i64 d]]) KK := by
   intro hno KK hKK
   rw [hno, Bool.false_or] at hO
   refine zlA ks (by omega) _ _ _ (by simp [AV.sc, AV.scV, AV.scA, AV.scB]) (fun i H' => (ks.drop i).any (zcd d) = ks.any (zcd d) ∧ H' = H ++ [.cells [.int .i64 k, .int .i64 n, .sl (VT.css ks) .none], .cells [.int .i64 d]]) ⟨by simp, rfl⟩ ?_ ?_
   ·rintro i hi H' hle ⟨ho, rfl⟩
    have hki := VT.kid_lt (k := k) (n := n) hi
    rw [List.drop_eq_getElem_cons hi, List.any_cons] at ho
    simp only [aCallV, zw2, List.singleton_append]
    refine ACalls.out (zAx fun hs1 => ?_)
    obtain ⟨x1, x2, x3, hvx, hx1, hx2, hx3⟩ := zcK ks[i]
    simp [zsL, hvx]
    rw [← hvx]
    refine ih ks[i] (by omega) (by omega) _ _ ?_
    refine Out.bool (J := [_]) (H2 := H ++ [.cells [.int .i64 k, .int .i64 n, .sl (VT.css ks) .none], .cells [.int .i64 d]]) (by simp; rfl) (by simp) hs1 ?_
    cases hb : zcd d ks[i] with
    | false =>
     rw [hb, Bool.false_or] at ho
     exact .inl ⟨rfl, ho, rfl⟩
    | true =>
     rw [hb, Bool.true_or] at ho
     rw [← ho] at hO
     exact .inr ⟨rfl, hKK _ (hO _)⟩
   ·rintro H' ⟨ho, rfl⟩
    rw [List.drop_length, List.any_nil] at ho
    rw [← ho] at hO
    exact hKK _ (hO _)
  simp only [VT.cs, zvP]
  cases h5 : (k == 5) with
  | false =>
   simp [h5, AV.isB]
   refine go (by rw [h5]; rfl) _ fun b hb => ?_
   simpa using hb
  | true =>
   cases hn : (n == d) with
   | false =>
    simp [h5, hn, AV.isB]
    refine go (by rw [hn]; simp) _ fun b hb => ?_
    simpa using hb
   | true =>
    rw [h5, hn] at hO
    simp [h5, hn]
    exact hO _
def zaX (l : List Bool) : List AV := l.map AV.bool
@[simp] theorem zNj (l : List Bool) : (zaX l).length = l.length := by simp [zaX]
theorem zfo (n : Nat) : (List.replicate n [AV.bool false]).flatten = zaX (List.replicate n false) := by
 induction n with
 | zero => rfl
 | succ n ih => simp [List.replicate_succ, ih, zaX]
theorem zeI {l : List Bool} {i : Nat} (h : i < l.length) (b : Bool) : (zaX l).take i ++ .bool b :: (zaX l).drop (i + 1) = zaX (l.set i b) := by
 simp [zaX, List.set_eq_take_append_cons_drop, h]
theorem zdM (m : Nat) (l : List Bool) : (zaX l).all (AV.scA m) = true := by simp [zaX]
theorem zrO : ∀ l : List Bool, zbw (zaX l) = some (l.map fun b => [AV.bool b]).flatten
 | [] => rfl
 | b :: l => by
  have := zrO l
  simp [zaX] at this ⊢
  simp [zbw, this, AV.pd]
theorem zJa (data : List Dat) (d : Nat) (c : Nat) (hd : d < data.length) (hc : c < (data[d]).cons.length) (hl : data.length ≤ 1000000) (hcl : (data[d]).cons.length ≤ 1000000) (hal : ((data[d]).cons[c]).args.length ≤ 1000000)
  (hb : ∀ x ∈ ((data[d]).cons[c]).args, x.nodes ≤ 1000000) (H : zaa) (K : AV → zaa → Prop)
  (hK : K (.sl (((data[d]).cons[c]).args.map fun t => [.bool (zcc d (data[d]).vars t)]) .none) H) :
  ACalls tP zmn [.sl (data.map Dat.cs) .none, .int .i64 d, .int .i64 c] H K := by
 refine ACalls.out (zI8 fun hs => ?_)
 have e1 : (data.map Dat.cs)[d]? = some (data[d]).cs := by simp [hd]
 have e2 : ((data[d]).cons.map Con.cs)[c]? = some ((data[d]).cons[c]).cs := by simp [hc]
 generalize hD : data[d] = D at *
 generalize hA : D.cons[c] = C at *
 have h1 : ¬ (d : Int) < 0 := by omega
 have h2 : ¬ (data.length : Int) ≤ d := by omega
 have h3 : ¬ (c : Int) < 0 := by omega
 have h4 : ¬ (D.cons.length : Int) ≤ c := by omega
 simp [zvL, h1, h2, h3, h4, e1, e2, Dat.cs, Con.cs, hd, hD, hc, hA]
 simp only [zbu, Int.toNat_natCast, zfo]
 refine ⟨⟨by omega, by omega, by omega, by omega⟩, ?_⟩
 refine zI6 (Inv := fun q t49 H' => ∃ (i : Nat) (bs : List Bool), i ≤ C.args.length ∧ q = C.args.length - i ∧ t49 = .int .i64 i ∧ bs.length = C.args.length ∧ (∀ j (hj : j < i) (h' : j < C.args.length), bs[j]? = some (zcc d D.vars C.args[j])) ∧ H' = H ++ [.cells (zaX bs)]) C.args.length ?_ ?_
 ·intro _; exact ⟨0, _, by omega, by omega, rfl, by simp, by omega, rfl⟩
 ·rintro q t49 H' ⟨i, bs, hi, rfl, rfl, hbl, hbs, rfl⟩ hsc hlen hsF Kb hKb
  by_cases hlt : i < C.args.length
  ·obtain ⟨k, n, ks, hx⟩ : ∃ k n ks, C.args[i] = .mk k n ks := by cases h : C.args[i] with | mk a b c => exact ⟨a, b, c, rfl⟩
   have hnb := hb _ (List.getElem_mem hlt)
   rw [hx, VT.nodes] at hnb
   have hll := VT.len_le ks
   have inner : ∀ b0 : Bool, b0 = (k == 5 && n == (d : Int) && (ks.length : Int) == D.vars) →
     zpE (.sl (data.map Dat.cs) .none) (.int .i64 d) (.ms H.length 0 C.args.length C.args.length) (.int .i64 i) (.sl (VT.css C.args) .none) (.int .i64 C.args.length) (.int .i64 i) (.sl (VT.css ks) .none) (.int .i64 ks.length) (.int .i64 0)
      (H ++ [.cells (zaX (bs.set i b0)), .cells [.int .i64 k, .int .i64 n, .sl (VT.css ks) .none]]) (Out H.length K) Kb := by
    intro b0 hb0
    refine zI5 (Inv := fun q t80 H' => ∃ (j : Nat) (b : Bool), j ≤ ks.length ∧ q = ks.length - j ∧ t80 = .int .i64 j ∧ (b && zcO (ks.drop j) j) = zcc d D.vars C.args[i] ∧ H' = H ++ [.cells (zaX (bs.set i b)), .cells [.int .i64 k, .int .i64 n, .sl (VT.css ks) .none]]) ks.length ?_ ?_
    ·intro _; exact ⟨0, b0, by omega, by omega, rfl, by simp [hx, zcc, hb0], rfl⟩
    ·rintro q t80 H' ⟨j, b, hj, rfl, rfl, hob, rfl⟩ hsc1 hlen1 hsF1 Kb1 hKb1
     have hsc0 : ∀ b : Bool, HSc (H ++ [.cells (zaX (bs.set i b))]) := fun b => hs.snoc (by simp [AB.sc, zdM])
     have hsc2 : ∀ b : Bool, HSc (H ++ [.cells (zaX (bs.set i b)), .cells [.int .i64 k, .int .i64 n, .sl (VT.css ks) .none]]) := fun b => hs.append (by simp [AB.sc, zdM])
     by_cases hjl : j < ks.length
     ·obtain ⟨k', n', ks', hx'⟩ : ∃ k' n' ks', ks[j] = .mk k' n' ks' := by cases h : ks[j] with | mk a b c => exact ⟨a, b, c, rfl⟩
      have hib : i < bs.length := by omega
      rw [List.drop_eq_getElem_cons hjl, zcO, hx', zhx] at hob
      have hback : ∀ (b' : Bool) J, (b' && zcO (ks.drop (j + 1)) (j + 1)) = zcc d D.vars C.args[i] → zpD (.sl (data.map Dat.cs) .none) (.int .i64 d) (.ms H.length 0 C.args.length C.args.length) (.int .i64 i) (.sl (VT.css C.args) .none) (.int .i64 C.args.length) (.int .i64 i) (.sl (VT.css ks) .none) (.int .i64 ks.length) (.int .i64 j)
        (H ++ .cells (zaX (bs.set i b')) :: .cells [.int .i64 k, .int .i64 n, .sl (VT.css ks) .none] :: J) (Out H.length K) Kb Kb1 := by
       intro b' J hb'
       simp [zpD]
       rw [zaq (by omega) (by omega)]
       refine hKb1 _ _ ⟨ks.length - (j + 1), by omega, Back.at (J := J) (H2 := H ++ [.cells (zaX (bs.set i b')), .cells [.int .i64 k, .int .i64 n, .sl (VT.css ks) .none]]) (by simp) (by simp) (hsc2 _) ?_ ⟨_, rfl, j + 1, b', by omega, rfl, by simp, hb', rfl⟩⟩
       simp [zkQ, AV.sc, AV.scV, AV.scA, AV.scB]
      have hstore : ∀ l, List.take i (zaX (bs.set i b)) ++ .bool false :: List.drop (i + 1) (zaX (bs.set i b)) = l → l = zaX (bs.set i false) := by
       rintro _ rfl
       rw [zeI (by simpa using hib)]; simp
      cases g1 : (k' == 4) with
      | false =>
       have : (k' != 4) = true := by simp [bne, g1]
       rw [g1] at hob
       simp [zf2, zf3, hjl, hx', VT.cs, this, hlt, hbl, hstore _ rfl]
       refine ⟨by omega, hback _ _ ?_⟩; simpa using hob.symm
      | true =>
      have g1' : (k' != 4) = false := by simp [bne, g1]
      cases g2 : (n' == (j : Int)) with
      | false =>
       have : (n' != (j : Int)) = true := by simp [bne, g2]
       rw [g1, g2] at hob
       simp [zf2, zf3, hjl, hx', VT.cs, g1', this, hlt, hbl, hstore _ rfl]
       refine ⟨by omega, hback _ _ ?_⟩; simpa using hob.symm
      | true =>
      have g2' : (n' != (j : Int)) = false := by simp [bne, g2]
      by_cases g3 : ks'.length = 0
      ·have g3' : ¬ (0 : Int) < ks'.length := by omega
       have g3'' : ¬ 0 < ks'.length := by omega
       simp [zf2, zf3, hjl, hx', VT.cs, g1', g2', g3', g3'']
       refine hback _ _ ?_; simpa [g1, g2, g3] using hob
      ·have g3' : (0 : Int) < ks'.length := by omega
       have g3'' : 0 < ks'.length := by omega
       have g4 : (ks'.length == 0) = false := by simpa using g3
       rw [g4] at hob
       simp [zf2, zf3, hjl, hx', VT.cs, g1', g2', g3', g3'', hlt, hbl, hstore _ rfl]
       refine ⟨by omega, hback _ _ ?_⟩; simpa using hob.symm
     ·obtain rfl : j = ks.length := by omega
      rw [List.drop_length, zcO, Bool.and_true] at hob
      simp [zf2]
      rw [zaq (by omega) (by omega)]
      refine hKb _ _ ⟨C.args.length - (i + 1), by omega, Back.at (J := [.cells [.int .i64 k, .int .i64 n, .sl (VT.css ks) .none]]) (H2 := H ++ [.cells (zaX (bs.set i b))]) (by simp) (by simp) (hsc0 _) ?_ ⟨_, rfl, i + 1, bs.set i b, by omega, rfl, by simp, by simpa using hbl, ?_, rfl⟩⟩
      ·simp [zkR, AV.sc, AV.scV, AV.scA, AV.scB]
      ·intro j hj h'
       by_cases hji : j = i
       ·subst hji; rw [← hob]; simp [hbl, hlt]
       ·rw [List.getElem?_set_ne (by omega)]; exact hbs j (by omega) h'
   have hstore : ∀ b l, List.take i (zaX bs) ++ .bool b :: List.drop (i + 1) (zaX bs) = l → l = zaX (bs.set i b) := by
    rintro b _ rfl
    rw [zeI (by omega)]
   cases h5 : (k == 5) with
   | false => simp [zhb, hlt, hx, VT.cs, e1, hd, hD, Dat.cs, h5, hbl, hstore _ _ rfl]; refine ⟨by omega, inner _ ?_⟩; simp [h5]
   | true =>
   cases hn : (n == (d : Int)) with
   | false => simp [zhb, hlt, hx, VT.cs, e1, hd, hD, Dat.cs, h5, hn, hbl, hstore _ _ rfl]; refine ⟨by omega, inner _ ?_⟩; simp [h5, hn]
   | true => simp [zhb, hlt, hx, VT.cs, e1, hd, hD, Dat.cs, h5, hn, hbl, hstore _ _ rfl]; refine ⟨by omega, inner _ ?_⟩; simp [h5, hn]
  ·obtain rfl : i = C.args.length := by omega
   simp [zhb]
   have hbe : bs = C.args.map (zcc d D.vars) := by
    refine List.ext_getElem (by simpa using hbl) fun j h1 h2 => ?_
    have := hbs j (by omega) (by omega)
    rw [List.getElem?_eq_getElem h1] at this
    simpa using this
   subst hbe
   refine ⟨_, H, _, rfl, Nat.le_refl _, hs, .one (.frz H.length 0 _ _ 1 (zaX (C.args.map (zcc d D.vars))) (C.args.map fun t => [.bool (zcc d D.vars t)]) (Nat.le_refl _) (by simp) (by simp) ?_ (by simp) (by simp) (Nat.le_refl _)), hK⟩
   rw [List.drop_zero, List.take_of_length_le (by simp), zrO, List.map_map]
   rfl
end Go.Proofs.Ytkdmpbhbmmhijaa
namespace Go.Abs
open Go
def zbS (b : UInt8) : Bool := decide (97 ≤ (b.toNat : Int)) && decide ((b.toNat : Int) ≤ 122)
def bUp (b : UInt8) : Bool := decide (65 ≤ (b.toNat : Int)) && decide ((b.toNat : Int) ≤ 90)
def zaW (b : UInt8) : Bool := decide (48 ≤ (b.toNat : Int)) && decide ((b.toNat : Int) ≤ 57)
def bIn (b : UInt8) : Bool := zbS b || bUp b || zaW b || b == 95
def zcZ (b : UInt8) : Bool := b == 9 || b == 10 || b == 13 || b == 32
def zb0 : List UInt8 → Int → Bool
 | [], _ => true
 | b :: l, n => let m := n * 10 + ((b.toNat : Int) - 48)
  if m > 1000000 then false else zb0 l m
def zc6 (r : List UInt8) : Bool := r.take 2 == [45, 62] || r.take 2 == [60, 61] || r.take 2 == [61, 61]
def sgns : List UInt8 := [40, 41, 44, 61, 124, 43, 45, 42, 47, 37, 60, 59, 95]
def sgn (r : List UInt8) : Nat :=
 if zc6 r = true then 2 else match r with
 | [] => 0
 | b :: _ => if sgns.contains b = true then 1 else 0
structure Tk where
 kind : Int
 text : List UInt8
 pos : Nat
def tok (kw : List UInt8 → Bool) (b : UInt8) (r : List UInt8) : Except Int (Int × Nat) :=
 if (zbS b || bUp b) = true then
  let n := (r.takeWhile bIn).length + 1
  if n > 24 then .error 9 else .ok (if bUp b = true then 2 else if kw ((b :: r).take n) = true then 4 else 1, n)
 else if zaW b = true then
  let n := (r.takeWhile zaW).length + 1
  if b == 48 && decide (n > 1) then .error 2 else if zb0 ((b :: r).take n) 0 = true then .ok (3, n) else .error 9
 else
  let n := sgn (b :: r)
  if n = 0 then .error 2 else .ok (5, n)
theorem zm5 {kw : List UInt8 → Bool} {b : UInt8} {r : List UInt8} {k : Int} {n : Nat} (h : tok kw b r = .ok (k, n)) : 0 < n := by
 unfold tok at h
 split at h
 ·simp only at h; split at h <;> simp at h; omega
 ·split at h
  ·simp only at h; split at h
   ·simp at h
   ·split at h <;> simp at h; omega
  ·simp only at h; split at h <;> simp at h; omega
def zbx (kw : List UInt8 → Bool) (r : List UInt8) (pos : Nat) : Except (Nat × Int) (List Tk) :=
 match r with
 | [] => .ok [⟨6, [], pos⟩]
 | b :: r' =>
  if zcZ b = true then zbx kw r' (pos + 1)
  else if b == 35 then zbx kw (r'.dropWhile (· != 10)) (pos + 1 + (r'.takeWhile (· != 10)).length)
  else match tok kw b r' with
   | .error e => .error (pos, e)
   | .ok (k, n) => match zbx kw (r'.drop (n - 1)) (pos + n) with
    | .error e => .error e
    | .ok l => .ok (⟨k, (b :: r').take n, pos⟩ :: l)
termination_by r.length
decreasing_by
 ·simp
 ·have := (List.dropWhile_sublist (p := (· != 10)) (l := r')).length_le; simp; omega
 ·simp; omega
end Go.Abs
namespace Go.Proofs.Ytkdmpbhbmmhijaa
open Go Go.Abs
set_option maxRecDepth 100000
def zfd : Nat → List Bool
 | 5 => rl false [0,1,4,2,54]
 | 9 => rl false [0,1,4,2,54]
 | _ => []
noncomputable def zpz : Code := Try.f84.body.getD .skip
noncomputable def zI2 : List ResultVar := Try.f84.results.toList
def zf0 (t0 t5 t6 : AV) : List AV := t0 :: ux 4 (t5 :: t6 :: ux 54 [])
def zvK : List Bool := zfd 5
noncomputable def zpA : Code := zao [1, 0, 1, 1, 1, 1, 0, 0, 0] zpz
def zvH (K : Kt) : AExit → List AV → zaa → Prop := zap tP zfd [1, 0, 1, 1, 1, 1, 0, 0] zpz (zat tP zI2 K)
def zkP (t0 t5 t6 : AV) (H : zaa) (K : Kt) : Prop := ALoop tP zpA (zvH K) (zf0 t0 t5 t6) H
def zf1 (t0 t5 t6 : AV) (H : zaa) (K : Kt) (Kb5 : Lt) : Prop :=
 Kb5 (zf0 t0 t5 t6) H
def zkN (t0 t5 t6 : AV) : List AV := t0 :: ux 4 (t5 :: t6 :: ux 54 [])
def zI0 : List Bool := zfd 9
noncomputable def zIX : Code := zao [1, 0, 1, 0, 1, 0, 0, 0, 0] zpA
def zIW (K : Kt) (Kb5 : Lt) : AExit → List AV → zaa → Prop := zap tP zfd [1, 0, 1, 0, 1, 0, 0, 0] zpA (zbK zvK Kb5 (zvH K))
def zvJ (t0 t5 t6 : AV) (H : zaa) (K : Kt) (Kb5 : Lt) : Prop := ALoop tP zIX (zIW K Kb5) (zkN t0 t5 t6) H
def zvI (t0 t5 : AV) (H : zaa) (K : Kt) : Prop :=
 zaj 0 t0 fun t57 =>
 zaI [(.int .i64 0), (.str []), (.int .i64 0)] [(0, 1), (1, 1), (2, 1)] [(0, (.int .i64 6)), (2, t57)] fun t58 =>
 zay 3 [(.int .i64 0), (.str []), (.int .i64 0)] 1 [(0, t58)] fun t59 =>
 zaH zee 3 32 t5 t59 H fun t60 H =>
 zaV [t60, (.int .i64 0), (.int .i64 0)] (K · H)
def zkO (t0 t5 : AV) (H : zaa) (K : Kt) : Prop :=
 zvI t0 t5 H K
def zpy (t0 t5 t6 : AV) (H : zaa) (K : Kt) (Kb5 : Lt) (Kb9 : Lt) : Prop :=
 zaj 0 t0 fun t28 =>
 zad .lss false t6 t28 fun t29 =>
 zag t29
 (zbE t0 t6 fun t34 =>
 zad .eql false t34 (.int .u8 10) fun t35 =>
 zag t35
 (zf1 t0 t5 t6 H K Kb5)
 (zad .add false t6 (.int .i64 1) fun t31 =>
 Kb9 (zkN t0 t5 t31) H))
 (zkO t0 t5 H K)
def zpx (t0 t5 t6 : AV) (H : zaa) (K : Kt) (Kb5 : Lt) : Prop :=
 zaj 0 t0 fun t14 =>
 zad .lss false t6 t14 fun t15 =>
 zag t15
 (zbE t0 t6 fun t18 =>
 ACalls tP zmt [t18] H fun t19 H =>
 zag t19
 (zad .add false t6 (.int .i64 1) fun t21 =>
 zf1 t0 t5 t21 H K Kb5)
 (zbE t0 t6 fun t24 =>
 zad .eql false t24 (.int .u8 35) fun t25 =>
 zag t25
 (zvJ t0 t5 t6 H K Kb5)
 (ACalls tP zlZ [t0, t6] H fun t39 H =>
 za1 t39 0 fun t40 =>
 za1 t39 1 fun t41 =>
 zaz [(.int .i64 0), (.str []), (.int .i64 0)] H fun t7 H =>
 zar 3 t7 t40 H fun H =>
 zad .neq false t41 (.int .i64 0) fun t43 =>
 zag t43
 (zaV [.snil, t6, t41] (K · H))
 (zae true 3 t7 H fun t47 =>
 zay 3 [(.int .i64 0), (.str []), (.int .i64 0)] 1 [(0, t47)] fun t48 =>
 zaH zee 3 32 t5 t48 H fun t49 H =>
 zaf 1 t7 fun t51 =>
 zae false 1 t51 H fun t52 =>
 zaj 0 t52 fun t53 =>
 zad .add false t6 t53 fun t54 =>
 zf1 t0 t49 t54 H K Kb5))))
 (zkO t0 t5 H K)
def zpw (t0 : AV) (H : zaa) (K : Kt) : Prop :=
 zaj 0 t0 fun t10 =>
 zad .gtr false t10 (.int .i64 16384) fun t11 =>
 zag t11
 (zaV [.snil, (.int .i64 0), (.int .i64 9)] (K · H))
 (zkP t0 .snil (.int .i64 0) H K)
theorem zIZ {t0 t5 t6 : AV} {H : zaa} {K : Kt} {Kb5 : Lt} (Inv : Nat → AV → zaa → Prop) (n : Nat) (h0 : HSc H → Inv n t6 H)
  (round : Rd1 (fun t6 => zkN t0 t5 t6) (fun t6 => fun H Kb9 => zpy t0 t5 t6 H K Kb5 Kb9) H Inv) : zvJ t0 t5 t6 H K Kb5 :=
 lp1 (M := zfd) zI0 t6 (by kernel_rfl) Inv n h0 round
theorem zIY {t0 t5 t6 : AV} {H : zaa} {K : Kt} (Inv : Nat → AV → AV → zaa → Prop) (n : Nat) (h0 : HSc H → Inv n t5 t6 H)
  (round : Rd2 (fun t5 => fun t6 => zf0 t0 t5 t6) (fun t5 => fun t6 => fun H Kb5 => zpx t0 t5 t6 H K Kb5) H Inv) : zkP t0 t5 t6 H K :=
 lp2 (M := zfd) zvK t5 t6 (by kernel_rfl) Inv n h0 round
theorem zI1 {t0 : AV} {H : zaa} {K : Kt} (h : HSc H → zpw t0 H K) : ACalls tP zmm [t0] H K :=
 zaw (M := zfd) Try.func84 (c := zpz) (by kernel_rfl) (fun hs => Eq.mpr (by kernel_rfl) (h hs))
def zcT : Nat → List Bool
 | 5 => rl false [0,1,4,2,193]
 | 10 => rl false [0,1,4,2,193]
 | 18 => rl false [0,1,4,4,191]
 | 29 => rl false [0,1,4,4,191]
 | _ => []
noncomputable def zpY : Code := Try.f99.body.getD .skip
noncomputable def zKz : List ResultVar := Try.f99.results.toList
def zfj (t0 t5 t6 : AV) : List AV := t0 :: ux 4 (t5 :: t6 :: ux 193 [])
def zlb : List Bool := zcT 5
noncomputable def zfi : Code := zao [1, 1, 1, 0, 1, 0, 0] zpY
def zk5 (K : Kt) : AExit → List AV → zaa → Prop := zap tP zcT [1, 1, 1, 0, 1, 0] zpY (zat tP zKz K)
def zla (t0 t5 t6 : AV) (H : zaa) (K : Kt) : Prop := ALoop tP zfi (zk5 K) (zfj t0 t5 t6) H
def zez (t0 t5 t6 : AV) (H : zaa) (K : Kt) (Kb5 : Lt) : Prop :=
 Kb5 (zfj t0 t5 t6) H
def zk8 (t0 t5 t6 : AV) : List AV := t0 :: ux 4 (t5 :: t6 :: ux 193 [])
def zKv : List Bool := zcT 10
noncomputable def zKo : Code := zao [1, 0, 1, 1, 0, 1, 0, 0, 0, 0] zfi
def zKl (K : Kt) (Kb5 : Lt) : AExit → List AV → zaa → Prop := zap tP zcT [1, 0, 1, 1, 0, 1, 0, 0, 0] zfi (zbK zlb Kb5 (zk5 K))
def zwe (t0 t5 t6 : AV) (H : zaa) (K : Kt) (Kb5 : Lt) : Prop := ALoop tP zKo (zKl K Kb5) (zk8 t0 t5 t6) H
def zpV (t0 t5 t6 : AV) (H : zaa) (K : Kt) (Kb5 : Lt) (Kb10 : Lt) : Prop :=
 zaj 0 t0 fun t42 =>
 zad .lss false t6 t42 fun t43 =>
 zab t43 true H (fun K' => K' t0 H) fun t45 H =>
 zab t43 true H (fun K' => K' t6 H) fun t46 H =>
 zab t43 true H (fun K' => zbE t45 t46 (K' · H)) fun t47 H =>
 zab t43 true H (fun K' => zad .neq false t47 (.int .u8 10) (K' · H)) fun t48 H =>
 zah t43 t48 (.bool false) fun t49 =>
 zag t49
 (zad .add false t6 (.int .i64 1) fun t51 =>
 Kb10 (zk8 t0 t5 t51) H)
 (zez t0 t5 t6 H K Kb5)
def zhd (t0 t5 t6 t7 t8 : AV) : List AV := t0 :: ux 4 (t5 :: t6 :: t7 :: t8 :: ux 191 [])
def zKw : List Bool := zcT 18
noncomputable def zKp : Code := zao [1, 0, 1, 1, 1, 1, 0, 0, 1, 0, 0, 0, 0] zfi
def zKm (K : Kt) (Kb5 : Lt) : AExit → List AV → zaa → Prop := zap tP zcT [1, 0, 1, 1, 1, 1, 0, 0, 1, 0, 0, 0] zfi (zbK zlb Kb5 (zk5 K))
def zpZ (t0 t5 t6 t7 t8 : AV) (H : zaa) (K : Kt) (Kb5 : Lt) : Prop := ALoop tP zKp (zKm K Kb5) (zhd t0 t5 t6 t7 t8) H
def zhe (t0 t5 t6 t8 : AV) (H : zaa) (K : Kt) (Kb5 : Lt) : Prop :=
 zad .add false t6 t8 fun t193 =>
 zez t0 t5 t193 H K Kb5
def zeB (t0 t5 t6 t8 : AV) (H : zaa) (K : Kt) (Kb5 : Lt) : Prop :=
 zhe t0 t5 t6 t8 H K Kb5
def zeA (t0 t5 t6 t8 t9 : AV) (H : zaa) (K : Kt) (Kb5 : Lt) : Prop :=
 zad .add false t6 t8 fun t135 =>
 zaY 0 0 t0 (some t6) (some t135) fun t136 =>
 zaI [(.int .i64 0), (.str []), (.int .i64 0)] [(0, 1), (1, 1), (2, 1)] [(0, t9), (1, t136), (2, t6)] fun t138 =>
 zay 3 [(.int .i64 0), (.str []), (.int .i64 0)] 1 [(0, t138)] fun t139 =>
 zaH zbh 3 32 t5 t139 H fun t140 H =>
 zeB t0 t140 t6 t8 H K Kb5
def zpW (t0 t5 t6 t7 t8 : AV) (H : zaa) (K : Kt) (Kb5 : Lt) (Kb18 : Lt) : Prop :=
 zad .add false t6 t8 fun t79 =>
 zaj 0 t0 fun t81 =>
 zad .lss false t79 t81 fun t82 =>
 zab t82 true H (fun K' => K' t0 H) fun t84 H =>
 zab t82 true H (fun K' => K' t6 H) fun t85 H =>
 zab t82 true H (fun K' => K' t8 H) fun t86 H =>
 zab t82 true H (fun K' => zad .add false t85 t86 (K' · H)) fun t87 H =>
 zab t82 true H (fun K' => zbE t84 t87 (K' · H)) fun t88 H =>
 zab t82 true H (fun K' => ACalls tP zhG [t88] H K') fun t89 H =>
 zab t82 true H (fun K' => K' t89 H) fun t90 H =>
 zab t90 false H (fun K' => K' t0 H) fun t91 H =>
 zab t90 false H (fun K' => K' t6 H) fun t92 H =>
 zab t90 false H (fun K' => K' t8 H) fun t93 H =>
 zab t90 false H (fun K' => zad .add false t92 t93 (K' · H)) fun t94 H =>
 zab t90 false H (fun K' => zbE t91 t94 (K' · H)) fun t95 H =>
 zab t90 false H (fun K' => ACalls tP zfw [t95] H K') fun t96 H =>
 zab t82 true H (fun K' => zah t90 (.bool true) t96 (K' · H)) fun t97 H =>
 zab t82 true H (fun K' => K' t97 H) fun t98 H =>
 zab t98 false H (fun K' => K' t0 H) fun t99 H =>
 zab t98 false H (fun K' => K' t6 H) fun t100 H =>
 zab t98 false H (fun K' => K' t8 H) fun t101 H =>
 zab t98 false H (fun K' => zad .add false t100 t101 (K' · H)) fun t102 H =>
 zab t98 false H (fun K' => zbE t99 t102 (K' · H)) fun t103 H =>
 zab t98 false H (fun K' => ACalls tP zgq [t103] H K') fun t104 H =>
 zab t82 true H (fun K' => zah t98 (.bool true) t104 (K' · H)) fun t105 H =>
 zab t82 true H (fun K' => K' t105 H) fun t106 H =>
 zab t106 false H (fun K' => K' t0 H) fun t107 H =>
 zab t106 false H (fun K' => K' t6 H) fun t108 H =>
 zab t106 false H (fun K' => K' t8 H) fun t109 H =>
 zab t106 false H (fun K' => zad .add false t108 t109 (K' · H)) fun t110 H =>
 zab t106 false H (fun K' => zbE t107 t110 (K' · H)) fun t111 H =>
 zab t106 false H (fun K' => zad .eql false t111 (.int .u8 95) (K' · H)) fun t112 H =>
 zab t82 true H (fun K' => zah t106 (.bool true) t112 (K' · H)) fun t113 H =>
 zah t82 t113 (.bool false) fun t114 =>
 zag t114
 (zad .add false t8 (.int .i64 1) fun t116 =>
 Kb18 (zhd t0 t5 t6 t7 t116) H)
 (zad .gtr false t8 (.int .i64 24) fun t118 =>
 zag t118
 (zaV [.snil, t6, (.int .i64 9)] (K · H))
 (ACalls tP zfw [t7] H fun t121 H =>
 zag t121
 (zeA t0 t5 t6 t8 (.int .i64 2) H K Kb5)
 (zad .add false t6 t8 fun t126 =>
 zaY 0 0 t0 (some t6) (some t126) fun t127 =>
 ACalls tP zhH [t127] H fun t128 H =>
 zag t128
 (zeA t0 t5 t6 t8 (.int .i64 4) H K Kb5)
 (zeA t0 t5 t6 t8 (.int .i64 1) H K Kb5))))
def zk9 (t0 t5 t6 t7 t8 : AV) : List AV := t0 :: ux 4 (t5 :: t6 :: t7 :: t8 :: ux 191 [])
def zKx : List Bool := zcT 29
noncomputable def zKq : Code := zao [1, 0, 1, 1, 1, 1, 0, 0, 1, 1, 1, 0, 0, 0, 0] zfi
def zKn (K : Kt) (Kb5 : Lt) : AExit → List AV → zaa → Prop := zap tP zcT [1, 0, 1, 1, 1, 1, 0, 0, 1, 1, 1, 0, 0, 0] zfi (zbK zlb Kb5 (zk5 K))
def zp0 (t0 t5 t6 t7 t8 : AV) (H : zaa) (K : Kt) (Kb5 : Lt) : Prop := ALoop tP zKq (zKn K Kb5) (zk9 t0 t5 t6 t7 t8) H
def zpX (t0 t5 t6 t7 t8 : AV) (H : zaa) (K : Kt) (Kb5 : Lt) (Kb29 : Lt) : Prop :=
 zad .add false t6 t8 fun t146 =>
 zaj 0 t0 fun t148 =>
 zad .lss false t146 t148 fun t149 =>
 zab t149 true H (fun K' => K' t0 H) fun t151 H =>
 zab t149 true H (fun K' => K' t6 H) fun t152 H =>
 zab t149 true H (fun K' => K' t8 H) fun t153 H =>
 zab t149 true H (fun K' => zad .add false t152 t153 (K' · H)) fun t154 H =>
 zab t149 true H (fun K' => zbE t151 t154 (K' · H)) fun t155 H =>
 zab t149 true H (fun K' => ACalls tP zgq [t155] H K') fun t156 H =>
 zah t149 t156 (.bool false) fun t157 =>
 zag t157
 (zad .add false t8 (.int .i64 1) fun t159 =>
 Kb29 (zk9 t0 t5 t6 t7 t159) H)
 (zad .gtr false t8 (.int .i64 1) fun t161 =>
 zab t161 true H (fun K' => K' t7 H) fun t163 H =>
 zab t161 true H (fun K' => zad .eql false t163 (.int .u8 48) (K' · H)) fun t164 H =>
 zah t161 t164 (.bool false) fun t165 =>
 zag t165
 (zaV [.snil, t6, (.int .i64 2)] (K · H))
 (zad .add false t6 t8 fun t172 =>
 zaY 0 0 t0 (some t6) (some t172) fun t173 =>
 ACalls tP zfy [t173] H fun t174 H =>
 za1 t174 0 fun t175 =>
 za1 t174 1 fun t176 =>
 aUn .not t176 fun t178 =>
 zag t178
 (zaV [.snil, t6, (.int .i64 9)] (K · H))
 (zad .add false t6 t8 fun t185 =>
 zaY 0 0 t0 (some t6) (some t185) fun t186 =>
 zaI [(.int .i64 0), (.str []), (.int .i64 0)] [(0, 1), (1, 1), (2, 1)] [(0, (.int .i64 3)), (1, t186), (2, t6)] fun t188 =>
 zay 3 [(.int .i64 0), (.str []), (.int .i64 0)] 1 [(0, t188)] fun t189 =>
 zaH zbh 3 32 t5 t189 H fun t190 H =>
 zeB t0 t190 t6 t8 H K Kb5)))
def zk6 (t0 t5 t6 : AV) (H : zaa) (K : Kt) (Kb5 : Lt) : Prop :=
 zaj 0 t0 fun t17 =>
 zad .lss false t6 t17 fun t18 =>
 zag t18
 (zbE t0 t6 fun t21 =>
 zad .eql false t21 (.int .u8 9) fun t23 =>
 zab t23 false H (fun K' => K' t21 H) fun t25 H =>
 zab t23 false H (fun K' => zad .eql false t25 (.int .u8 10) (K' · H)) fun t26 H =>
 zah t23 (.bool true) t26 fun t27 =>
 zab t27 false H (fun K' => K' t21 H) fun t29 H =>
 zab t27 false H (fun K' => zad .eql false t29 (.int .u8 13) (K' · H)) fun t30 H =>
 zah t27 (.bool true) t30 fun t31 =>
 zab t31 false H (fun K' => K' t21 H) fun t33 H =>
 zab t31 false H (fun K' => zad .eql false t33 (.int .u8 32) (K' · H)) fun t34 H =>
 zah t31 (.bool true) t34 fun t35 =>
 zag t35
 (zad .add false t6 (.int .i64 1) fun t37 =>
 zez t0 t5 t37 H K Kb5)
 (zad .eql false t21 (.int .u8 35) fun t39 =>
 zag t39
 (zwe t0 t5 t6 H K Kb5)
 (ACalls tP zhG [t21] H fun t72 H =>
 zab t72 false H (fun K' => K' t21 H) fun t74 H =>
 zab t72 false H (fun K' => ACalls tP zfw [t74] H K') fun t75 H =>
 zah t72 (.bool true) t75 fun t76 =>
 zag t76
 (zpZ t0 t5 t6 t21 (.int .i64 1) H K Kb5)
 (ACalls tP zgq [t21] H fun t143 H =>
 zag t143
 (zp0 t0 t5 t6 t21 (.int .i64 1) H K Kb5)
 (zaY 0 0 t0 (some t6) none fun t54 =>
 ACalls tP zl0 [t54] H fun t55 H =>
 zad .eql false t55 (.int .i64 0) fun t57 =>
 zag t57
 (zaV [.snil, t6, (.int .i64 2)] (K · H))
 (zad .add false t6 t55 fun t64 =>
 zaY 0 0 t0 (some t6) (some t64) fun t65 =>
 zaI [(.int .i64 0), (.str []), (.int .i64 0)] [(0, 1), (1, 1), (2, 1)] [(0, (.int .i64 5)), (1, t65), (2, t6)] fun t67 =>
 zay 3 [(.int .i64 0), (.str []), (.int .i64 0)] 1 [(0, t67)] fun t68 =>
 zaH zbh 3 32 t5 t68 H fun t69 H =>
 zeB t0 t69 t6 t55 H K Kb5))))))
 (zaj 0 t0 fun t196 =>
 zaI [(.int .i64 0), (.str []), (.int .i64 0)] [(0, 1), (1, 1), (2, 1)] [(0, (.int .i64 6)), (1, (.str [])), (2, t196)] fun t197 =>
 zay 3 [(.int .i64 0), (.str []), (.int .i64 0)] 1 [(0, t197)] fun t198 =>
 zaH zbh 3 32 t5 t198 H fun t199 H =>
 zaV [t199, (.int .i64 0), (.int .i64 0)] (K · H))
def zpU (t0 : AV) (H : zaa) (K : Kt) : Prop :=
 zaj 0 t0 fun t13 =>
 zad .gtr false t13 (.int .i64 16384) fun t14 =>
 zag t14
 (zaV [.snil, (.int .i64 0), (.int .i64 9)] (K · H))
 (zla t0 .snil (.int .i64 0) H K)
theorem zKr {t0 t5 t6 : AV} {H : zaa} {K : Kt} {Kb5 : Lt} (Inv : Nat → AV → zaa → Prop) (n : Nat) (h0 : HSc H → Inv n t6 H)
  (round : Rd1 (fun t6 => zk8 t0 t5 t6) (fun t6 => fun H Kb10 => zpV t0 t5 t6 H K Kb5 Kb10) H Inv) : zwe t0 t5 t6 H K Kb5 :=
 lp1 (M := zcT) zKv t6 (by kernel_rfl) Inv n h0 round
theorem zKs {t0 t5 t6 t7 t8 : AV} {H : zaa} {K : Kt} {Kb5 : Lt} (Inv : Nat → AV → zaa → Prop) (n : Nat) (h0 : HSc H → Inv n t8 H)
  (round : Rd1 (fun t8 => zhd t0 t5 t6 t7 t8) (fun t8 => fun H Kb18 => zpW t0 t5 t6 t7 t8 H K Kb5 Kb18) H Inv) : zpZ t0 t5 t6 t7 t8 H K Kb5 :=
 lp1 (M := zcT) zKw t8 (by kernel_rfl) Inv n h0 round
theorem zKt {t0 t5 t6 t7 t8 : AV} {H : zaa} {K : Kt} {Kb5 : Lt} (Inv : Nat → AV → zaa → Prop) (n : Nat) (h0 : HSc H → Inv n t8 H)
  (round : Rd1 (fun t8 => zk9 t0 t5 t6 t7 t8) (fun t8 => fun H Kb29 => zpX t0 t5 t6 t7 t8 H K Kb5 Kb29) H Inv) : zp0 t0 t5 t6 t7 t8 H K Kb5 :=
 lp1 (M := zcT) zKx t8 (by kernel_rfl) Inv n h0 round
theorem zKu {t0 t5 t6 : AV} {H : zaa} {K : Kt} (Inv : Nat → AV → AV → zaa → Prop) (n : Nat) (h0 : HSc H → Inv n t5 t6 H)
  (round : Rd2 (fun t5 => fun t6 => zfj t0 t5 t6) (fun t5 => fun t6 => fun H Kb5 => zk6 t0 t5 t6 H K Kb5) H Inv) : zla t0 t5 t6 H K :=
 lp2 (M := zcT) zlb t5 t6 (by kernel_rfl) Inv n h0 round
theorem zKy {t0 : AV} {H : zaa} {K : Kt} (h : HSc H → zpU t0 H K) : ACalls tP zms [t0] H K :=
 zaw (M := zcT) Try.func99 (c := zpY) (by kernel_rfl) (fun hs => Eq.mpr (by kernel_rfl) (h hs))
def zKH (_ : Nat) : List Bool := []
noncomputable def zKI : Code := Try.f101.body.getD .skip
def zwf (t0 : AV) (H : zaa) (K : Kt) : Prop :=
 zad .eql false t0 (.int .u8 9) fun t4 =>
 zab t4 false H (fun K' => K' t0 H) fun t6 H =>
 zab t4 false H (fun K' => zad .eql false t6 (.int .u8 10) (K' · H)) fun t7 H =>
 zah t4 (.bool true) t7 fun t8 =>
 zab t8 false H (fun K' => K' t0 H) fun t10 H =>
 zab t8 false H (fun K' => zad .eql false t10 (.int .u8 13) (K' · H)) fun t11 H =>
 zah t8 (.bool true) t11 fun t12 =>
 zab t12 false H (fun K' => K' t0 H) fun t14 H =>
 zab t12 false H (fun K' => zad .eql false t14 (.int .u8 32) (K' · H)) fun t15 H =>
 zah t12 (.bool true) t15 fun t16 =>
 K t16 H
theorem zKJ {t0 : AV} {H : zaa} {K : Kt} (h : HSc H → zwf t0 H K) : ACalls tP zmt [t0] H K :=
 zaw (M := zKH) Try.func101 (c := zKI) (by kernel_rfl) (fun hs => Eq.mpr (by kernel_rfl) (h hs))
def zAs (_ : Nat) : List Bool := []
noncomputable def zAt : Code := Try.f102.body.getD .skip
def zsK (t4 t6 : AV) (H : zaa) (K : Kt) : Prop :=
 zae true 3 t6 H fun t74 =>
 zar 3 t4 t74 H fun H =>
 zae true 3 t4 H fun r0 =>
 zaV [r0, (.int .i64 0)] (K · H)
def zfR (t4 t6 : AV) (H : zaa) (K : Kt) : Prop :=
 zsK t4 t6 H K
def zfQ (t4 t6 : AV) (H : zaa) (K : Kt) : Prop :=
 zfR t4 t6 H K
def zni (t0 t1 : AV) (H : zaa) (K : Kt) : Prop :=
 zaz [(.int .i64 0), (.str []), (.int .i64 0)] H fun t4 H =>
 zaI [(.int .i64 0), (.str []), (.int .i64 0)] [(0, 1), (1, 1), (2, 1)] [(2, t1)] fun t9 =>
 zaz [(.int .i64 0), (.str []), (.int .i64 0)] H fun t6 H =>
 zar 3 t6 t9 H fun H =>
 zbE t0 t1 fun t12 =>
 ACalls tP zhJ [t12] H fun t25 H =>
 zab t25 false H (fun K' => K' t12 H) fun t27 H =>
 zab t25 false H (fun K' => ACalls tP zgr [t27] H K') fun t28 H =>
 zah t25 (.bool true) t28 fun t29 =>
 zag t29
 (zaY 0 0 t0 (some t1) none fun t32 =>
 ACalls tP zhK [t32, (.fn zgs [])] H fun t33 H =>
 zaf 1 t6 fun t34 =>
 zar 1 t34 t33 H fun H =>
 zaf 1 t6 fun t37 =>
 zae false 1 t37 H fun t38 =>
 zaj 0 t38 fun t39 =>
 zad .gtr false t39 (.int .i64 24) fun t40 =>
 zag t40
 (zaI [(.int .i64 0), (.str []), (.int .i64 0)] [(0, 1), (1, 1), (2, 1)] [] fun t41 =>
 zar 3 t4 t41 H fun H =>
 zae true 3 t4 H fun r0 =>
 zaV [r0, (.int .i64 9)] (K · H))
 (ACalls tP zgr [t12] H fun t44 H =>
 zag t44
 (zaf 0 t6 fun t45 =>
 zar 1 t45 (.int .i64 2) H fun H =>
 zfQ t4 t6 H K)
 (zaf 1 t6 fun t47 =>
 zae false 1 t47 H fun t48 =>
 ACalls tP zl1 [t48] H fun t49 H =>
 zag t49
 (zaf 0 t6 fun t50 =>
 zar 1 t50 (.int .i64 4) H fun H =>
 zfQ t4 t6 H K)
 (zaf 0 t6 fun t35 =>
 zar 1 t35 (.int .i64 1) H fun H =>
 zfQ t4 t6 H K))))
 (ACalls tP zeP [t12] H fun t53 H =>
 zag t53
 (zaf 0 t6 fun t54 =>
 zar 1 t54 (.int .i64 3) H fun H =>
 zaY 0 0 t0 (some t1) none fun t57 =>
 ACalls tP zhK [t57, (.fn zeP [])] H fun t58 H =>
 zaf 1 t6 fun t59 =>
 zar 1 t59 t58 H fun H =>
 zad .eql false t12 (.int .u8 48) fun t61 =>
 zab t61 true H (fun K' => zaf 1 t6 (K' · H)) fun t63 H =>
 zab t61 true H (fun K' => zae false 1 t63 H (K' · H)) fun t64 H =>
 zab t61 true H (fun K' => zaj 0 t64 (K' · H)) fun t65 H =>
 zab t61 true H (fun K' => zad .gtr false t65 (.int .i64 1) (K' · H)) fun t66 H =>
 zah t61 t66 (.bool false) fun t67 =>
 zag t67
 (zaI [(.int .i64 0), (.str []), (.int .i64 0)] [(0, 1), (1, 1), (2, 1)] [] fun t68 =>
 zar 3 t4 t68 H fun H =>
 zae true 3 t4 H fun r0 =>
 zaV [r0, (.int .i64 2)] (K · H))
 (zaf 1 t6 fun t69 =>
 zae false 1 t69 H fun t70 =>
 ACalls tP zgt [t70] H fun t71 H =>
 aUn .not t71 fun t72 =>
 zag t72
 (zaI [(.int .i64 0), (.str []), (.int .i64 0)] [(0, 1), (1, 1), (2, 1)] [] fun t73 =>
 zar 3 t4 t73 H fun H =>
 zae true 3 t4 H fun r0 =>
 zaV [r0, (.int .i64 9)] (K · H))
 (zfR t4 t6 H K)))
 (zaf 0 t6 fun t13 =>
 zar 1 t13 (.int .i64 5) H fun H =>
 zaY 0 0 t0 (some t1) none fun t16 =>
 ACalls tP zl2 [t16] H fun t17 H =>
 zaf 1 t6 fun t18 =>
 zar 1 t18 t17 H fun H =>
 zaf 1 t6 fun t19 =>
 zae false 1 t19 H fun t20 =>
 zad .eql false t20 (.str []) fun t21 =>
 zag t21
 (zaI [(.int .i64 0), (.str []), (.int .i64 0)] [(0, 1), (1, 1), (2, 1)] [] fun t22 =>
 zar 3 t4 t22 H fun H =>
 zae true 3 t4 H fun r0 =>
 zaV [r0, (.int .i64 2)] (K · H))
 (zfR t4 t6 H K)))
theorem zAu {t0 t1 : AV} {H : zaa} {K : Kt} (h : HSc H → zni t0 t1 H K) : ACalls tP zlZ [t0, t1] H K :=
 zaw (M := zAs) Try.func102 (c := zAt) (by kernel_rfl) (fun hs => Eq.mpr (by kernel_rfl) (h hs))
def zA1 (_ : Nat) : List Bool := []
noncomputable def zA2 : Code := Try.f109.body.getD .skip
def zsU (t0 : AV) (H : zaa) (K : Kt) : Prop :=
 zad .geq false t0 (.int .u8 97) fun t4 =>
 zab t4 true H (fun K' => K' t0 H) fun t6 H =>
 zab t4 true H (fun K' => zad .leq false t6 (.int .u8 122) (K' · H)) fun t7 H =>
 zah t4 t7 (.bool false) fun t8 =>
 K t8 H
theorem zA3 {t0 : AV} {H : zaa} {K : Kt} (h : HSc H → zsU t0 H K) : ACalls tP zhG [t0] H K :=
 zaw (M := zA1) Try.func109 (c := zA2) (by kernel_rfl) (fun hs => Eq.mpr (by kernel_rfl) (h hs))
def zA4 (_ : Nat) : List Bool := []
noncomputable def zA5 : Code := Try.f110.body.getD .skip
def zsV (t0 : AV) (H : zaa) (K : Kt) : Prop :=
 zad .geq false t0 (.int .u8 65) fun t4 =>
 zab t4 true H (fun K' => K' t0 H) fun t6 H =>
 zab t4 true H (fun K' => zad .leq false t6 (.int .u8 90) (K' · H)) fun t7 H =>
 zah t4 t7 (.bool false) fun t8 =>
 K t8 H
theorem zA6 {t0 : AV} {H : zaa} {K : Kt} (h : HSc H → zsV t0 H K) : ACalls tP zfw [t0] H K :=
 zaw (M := zA4) Try.func110 (c := zA5) (by kernel_rfl) (fun hs => Eq.mpr (by kernel_rfl) (h hs))
def zA7 (_ : Nat) : List Bool := []
noncomputable def zA8 : Code := Try.f111.body.getD .skip
def zsW (t0 : AV) (H : zaa) (K : Kt) : Prop :=
 zad .geq false t0 (.int .u8 48) fun t4 =>
 zab t4 true H (fun K' => K' t0 H) fun t6 H =>
 zab t4 true H (fun K' => zad .leq false t6 (.int .u8 57) (K' · H)) fun t7 H =>
 zah t4 t7 (.bool false) fun t8 =>
 K t8 H
theorem zA9 {t0 : AV} {H : zaa} {K : Kt} (h : HSc H → zsW t0 H K) : ACalls tP zgq [t0] H K :=
 zaw (M := zA7) Try.func111 (c := zA8) (by kernel_rfl) (fun hs => Eq.mpr (by kernel_rfl) (h hs))
def ziD : Nat → List Bool
 | 3 => rl false [0,1,2,2,13]
 | _ => []
noncomputable def znt : Code := Try.f112.body.getD .skip
noncomputable def zBq : List ResultVar := Try.f112.results.toList
def ziF (t0 t3 t4 : AV) : List AV := t0 :: ux 2 (t3 :: t4 :: ux 13 [])
def zBo : List Bool := ziD 3
noncomputable def zBm : Code := zao [1, 1, 0, 1, 0, 0] znt
def zBl (K : Kt) : AExit → List AV → zaa → Prop := zap tP ziD [1, 1, 0, 1, 0] znt (zat tP zBq K)
def znu (t0 t3 t4 : AV) (H : zaa) (K : Kt) : Prop := ALoop tP zBm (zBl K) (ziF t0 t3 t4) H
def ziE (t0 t3 t4 : AV) (H : zaa) (K : Kt) (Kb3 : Lt) : Prop :=
 zaj 1 t3 fun t8 =>
 zad .lss false t4 t8 fun t9 =>
 zag t9
 (zak 1 t3 t4 fun t14 =>
 zae false 1 t14 H fun t15 =>
 zad .eql false t15 t0 fun t17 =>
 zag t17
 (K (.bool true) H)
 (zad .add false t4 (.int .i64 1) fun t11 =>
 Kb3 (ziF t0 t3 t11) H))
 (K (.bool false) H)
def zs4 (t0 : AV) (H : zaa) (K : Kt) : Prop :=
 zay 1 [(.str [])] 28 [(0, (.str [97, 114, 114, 97, 121])), (1, (.str [98, 111, 111, 108])), (2, (.str [99, 97, 116, 99, 104])), (3, (.str [100, 97, 116, 97])), (4, (.str [101, 108, 115, 101])), (5, (.str [101, 110, 100])), (6, (.str [102, 97, 108, 115, 101])), (7, (.str [102, 110])), (8, (.str [102, 117, 110])), (9, (.str [103, 101, 116])), (10, (.str [105, 102])), (11, (.str [105, 110])), (12, (.str [105, 110, 116])), (13, (.str [108, 101, 110])), (14, (.str [108, 101, 116])), (15, (.str [109, 97, 116, 99, 104])), (16, (.str [110, 101, 119])), (17, (.str [114, 97, 105, 115, 101])), (18, (.str [114, 101, 97, 100])), (19, (.str [114, 101, 102])), (20, (.str [115, 101, 116])), (21, (.str [116, 104, 101, 110])), (22, (.str [116, 105, 99, 107])), (23, (.str [116, 114, 117, 101])), (24, (.str [116, 114, 121])), (25, (.str [117, 110, 105, 116])), (26, (.str [119, 105, 116, 104])), (27, (.str [119, 114, 105, 116, 101]))] fun t5 =>
 znu t0 t5 (.int .i64 0) H K
theorem zBn {t0 t3 t4 : AV} {H : zaa} {K : Kt} (Inv : Nat → AV → zaa → Prop) (n : Nat) (h0 : HSc H → Inv n t4 H)
  (round : Rd1 (fun t4 => ziF t0 t3 t4) (fun t4 => fun H Kb3 => ziE t0 t3 t4 H K Kb3) H Inv) : znu t0 t3 t4 H K :=
 lp1 (M := ziD) zBo t4 (by kernel_rfl) Inv n h0 round
theorem zBp {t0 : AV} {H : zaa} {K : Kt} (h : HSc H → zs4 t0 H K) : ACalls tP zhH [t0] H K :=
 zaw (M := ziD) Try.func112 (c := znt) (by kernel_rfl) (fun hs => Eq.mpr (by kernel_rfl) (h hs))
def ziG : Nat → List Bool
 | 3 => rl false [0,1,3,2,17]
 | _ => []
noncomputable def znw : Code := Try.f113.body.getD .skip
noncomputable def zBw : List ResultVar := Try.f113.results.toList
def ziH (t0 t4 t5 : AV) : List AV := t0 :: ux 3 (t4 :: t5 :: ux 17 [])
def zBu : List Bool := ziG 3
noncomputable def zBs : Code := zao [1, 1, 0, 1, 0, 0] znw
def zBr (K : Kt) : AExit → List AV → zaa → Prop := zap tP ziG [1, 1, 0, 1, 0] znw (zat tP zBw K)
def zs6 (t0 t4 t5 : AV) (H : zaa) (K : Kt) : Prop := ALoop tP zBs (zBr K) (ziH t0 t4 t5) H
def znv (t0 t4 t5 : AV) (H : zaa) (K : Kt) (Kb3 : Lt) : Prop :=
 zaj 0 t0 fun t8 =>
 zad .lss false t5 t8 fun t9 =>
 zag t9
 (zad .mul false t4 (.int .i64 10) fun t13 =>
 zbE t0 t5 fun t16 =>
 zad .sub false t16 (.int .u8 48) fun t17 =>
 zcU .i64 t17 fun t18 =>
 zad .add false t13 t18 fun t19 =>
 zad .gtr false t19 (.int .i64 1000000) fun t21 =>
 zag t21
 (zaV [(.int .i64 0), (.bool false)] (K · H))
 (zad .add false t5 (.int .i64 1) fun t11 =>
 Kb3 (ziH t0 t19 t11) H))
 (zaV [t4, (.bool true)] (K · H))
def zs5 (t0 : AV) (H : zaa) (K : Kt) : Prop :=
 zs6 t0 (.int .i64 0) (.int .i64 0) H K
theorem zBt {t0 t4 t5 : AV} {H : zaa} {K : Kt} (Inv : Nat → AV → AV → zaa → Prop) (n : Nat) (h0 : HSc H → Inv n t4 t5 H)
  (round : Rd2 (fun t4 => fun t5 => ziH t0 t4 t5) (fun t4 => fun t5 => fun H Kb3 => znv t0 t4 t5 H K Kb3) H Inv) : zs6 t0 t4 t5 H K :=
 lp2 (M := ziG) zBu t4 t5 (by kernel_rfl) Inv n h0 round
theorem zBv {t0 : AV} {H : zaa} {K : Kt} (h : HSc H → zs5 t0 H K) : ACalls tP zfy [t0] H K :=
 zaw (M := ziG) Try.func113 (c := znw) (by kernel_rfl) (fun hs => Eq.mpr (by kernel_rfl) (h hs))
def ziI : Nat → List Bool
 | 5 => rl false [0,1,2,2,30]
 | _ => []
noncomputable def znx : Code := Try.f114.body.getD .skip
noncomputable def zBC : List ResultVar := Try.f114.results.toList
def ziK (t0 t3 t4 : AV) : List AV := t0 :: ux 2 (t3 :: t4 :: ux 30 [])
def zBA : List Bool := ziI 5
noncomputable def zBy : Code := zao [1, 1, 1, 0, 1, 0, 0] znx
def zBx (K : Kt) : AExit → List AV → zaa → Prop := zap tP ziI [1, 1, 1, 0, 1, 0] znx (zat tP zBC K)
def zny (t0 t3 t4 : AV) (H : zaa) (K : Kt) : Prop := ALoop tP zBy (zBx K) (ziK t0 t3 t4) H
def ziJ (t0 t3 t4 : AV) (H : zaa) (K : Kt) (Kb5 : Lt) : Prop :=
 zaj 0 t3 fun t25 =>
 zad .lss false t4 t25 fun t26 =>
 zag t26
 (zac H (fun K' => K' t0 H) fun t29 =>
 zac H (fun K' => zbE t29 (.int .i64 0) (K' · H)) fun t30 =>
 zac H (fun K' => K' t3 H) fun t31 =>
 zac H (fun K' => K' t4 H) fun t32 =>
 zac H (fun K' => zbE t31 t32 (K' · H)) fun t33 =>
 zac H (fun K' => zad .eql false t30 t33 (K' · H)) fun t34 =>
 zag t34
 (K (.int .i64 1) H)
 (zad .add false t4 (.int .i64 1) fun t28 =>
 Kb5 (ziK t0 t3 t28) H))
 (K (.int .i64 0) H)
def zfS (t0 : AV) (H : zaa) (K : Kt) : Prop :=
 zaj 0 t0 fun t6 =>
 zad .geq false t6 (.int .i64 2) fun t7 =>
 zab t7 true H (fun K' => K' t0 H) fun t9 H =>
 zab t7 true H (fun K' => zaY 0 0 t9 none (some (.int .i64 2)) (K' · H)) fun t10 H =>
 zab t7 true H (fun K' => zad .eql false t10 (.str [45, 62]) (K' · H)) fun t11 H =>
 zab t7 true H (fun K' => K' t11 H) fun t12 H =>
 zab t12 false H (fun K' => K' t0 H) fun t13 H =>
 zab t12 false H (fun K' => zaY 0 0 t13 none (some (.int .i64 2)) (K' · H)) fun t14 H =>
 zab t12 false H (fun K' => zad .eql false t14 (.str [60, 61]) (K' · H)) fun t15 H =>
 zab t7 true H (fun K' => zah t12 (.bool true) t15 (K' · H)) fun t16 H =>
 zab t7 true H (fun K' => K' t16 H) fun t17 H =>
 zab t17 false H (fun K' => K' t0 H) fun t18 H =>
 zab t17 false H (fun K' => zaY 0 0 t18 none (some (.int .i64 2)) (K' · H)) fun t19 H =>
 zab t17 false H (fun K' => zad .eql false t19 (.str [61, 61]) (K' · H)) fun t20 H =>
 zab t7 true H (fun K' => zah t17 (.bool true) t20 (K' · H)) fun t21 H =>
 zah t7 t21 (.bool false) fun t22 =>
 zag t22
 (K (.int .i64 2) H)
 (zny t0 (.str [40, 41, 44, 61, 124, 43, 45, 42, 47, 37, 60, 59, 95]) (.int .i64 0) H K)
theorem zBz {t0 t3 t4 : AV} {H : zaa} {K : Kt} (Inv : Nat → AV → zaa → Prop) (n : Nat) (h0 : HSc H → Inv n t4 H)
  (round : Rd1 (fun t4 => ziK t0 t3 t4) (fun t4 => fun H Kb5 => ziJ t0 t3 t4 H K Kb5) H Inv) : zny t0 t3 t4 H K :=
 lp1 (M := ziI) zBA t4 (by kernel_rfl) Inv n h0 round
theorem zBB {t0 : AV} {H : zaa} {K : Kt} (h : HSc H → zfS t0 H K) : ACalls tP zl0 [t0] H K :=
 zaw (M := ziI) Try.func114 (c := znx) (by kernel_rfl) (fun hs => Eq.mpr (by kernel_rfl) (h hs))
def zBJ (_ : Nat) : List Bool := []
noncomputable def zBK : Code := Try.f116.body.getD .skip
def zs9 (t0 : AV) (H : zaa) (K : Kt) : Prop :=
 zad .geq false t0 (.int .u8 97) fun t4 =>
 zab t4 true H (fun K' => K' t0 H) fun t6 H =>
 zab t4 true H (fun K' => zad .leq false t6 (.int .u8 122) (K' · H)) fun t7 H =>
 zah t4 t7 (.bool false) fun t8 =>
 K t8 H
theorem zBL {t0 : AV} {H : zaa} {K : Kt} (h : HSc H → zs9 t0 H K) : ACalls tP zhJ [t0] H K :=
 zaw (M := zBJ) Try.func116 (c := zBK) (by kernel_rfl) (fun hs => Eq.mpr (by kernel_rfl) (h hs))
def zBM (_ : Nat) : List Bool := []
noncomputable def zBN : Code := Try.f117.body.getD .skip
def zta (t0 : AV) (H : zaa) (K : Kt) : Prop :=
 zad .geq false t0 (.int .u8 65) fun t4 =>
 zab t4 true H (fun K' => K' t0 H) fun t6 H =>
 zab t4 true H (fun K' => zad .leq false t6 (.int .u8 90) (K' · H)) fun t7 H =>
 zah t4 t7 (.bool false) fun t8 =>
 K t8 H
theorem zBO {t0 : AV} {H : zaa} {K : Kt} (h : HSc H → zta t0 H K) : ACalls tP zgr [t0] H K :=
 zaw (M := zBM) Try.func117 (c := zBN) (by kernel_rfl) (fun hs => Eq.mpr (by kernel_rfl) (h hs))
def ziN : Nat → List Bool
 | 2 => rl false [0,2,3,1,16]
 | _ => []
noncomputable def znC : Code := Try.f118.body.getD .skip
noncomputable def zBU : List ResultVar := Try.f118.results.toList
def ziO (t0 t1 t5 : AV) : List AV := t0 :: t1 :: ux 3 (t5 :: ux 16 [])
def zBS : List Bool := ziN 2
noncomputable def zBQ : Code := zao [1, 1, 0, 0, 0] znC
def zBP (K : Kt) : AExit → List AV → zaa → Prop := zap tP ziN [1, 1, 0, 0] znC (zat tP zBU K)
def ztc (t0 t1 t5 : AV) (H : zaa) (K : Kt) : Prop := ALoop tP zBQ (zBP K) (ziO t0 t1 t5) H
def znB (t0 t1 t5 : AV) (H : zaa) (K : Kt) (Kb2 : Lt) : Prop :=
 zaj 0 t0 fun t8 =>
 zad .lss false t5 t8 fun t9 =>
 zab t9 true H (fun K' => K' t1 H) fun t11 H =>
 zab t9 true H (fun K' => K' t0 H) fun t12 H =>
 zab t9 true H (fun K' => K' t5 H) fun t13 H =>
 zab t9 true H (fun K' => zbE t12 t13 (K' · H)) fun t14 H =>
 zab t9 true H (fun K' => aCallV tP t11 [t14] H K') fun t15 H =>
 zah t9 t15 (.bool false) fun t16 =>
 zag t16
 (zad .add false t5 (.int .i64 1) fun t18 =>
 Kb2 (ziO t0 t1 t18) H)
 (zaY 0 0 t0 none (some t5) fun t21 =>
 K t21 H)
def ztb (t0 t1 : AV) (H : zaa) (K : Kt) : Prop :=
 ztc t0 t1 (.int .i64 0) H K
theorem zBR {t0 t1 t5 : AV} {H : zaa} {K : Kt} (Inv : Nat → AV → zaa → Prop) (n : Nat) (h0 : HSc H → Inv n t5 H)
  (round : Rd1 (fun t5 => ziO t0 t1 t5) (fun t5 => fun H Kb2 => znB t0 t1 t5 H K Kb2) H Inv) : ztc t0 t1 t5 H K :=
 lp1 (M := ziN) zBS t5 (by kernel_rfl) Inv n h0 round
theorem zBT {t0 t1 : AV} {H : zaa} {K : Kt} (h : HSc H → ztb t0 t1 H K) : ACalls tP zhK [t0, t1] H K :=
 zaw (M := ziN) Try.func118 (c := znC) (by kernel_rfl) (fun hs => Eq.mpr (by kernel_rfl) (h hs))
def zBV (_ : Nat) : List Bool := []
noncomputable def zBW : Code := Try.f119.body.getD .skip
def ztd (t0 : AV) (H : zaa) (K : Kt) : Prop :=
 ACalls tP zhJ [t0] H fun t4 H =>
 zab t4 false H (fun K' => K' t0 H) fun t6 H =>
 zab t4 false H (fun K' => ACalls tP zgr [t6] H K') fun t7 H =>
 zah t4 (.bool true) t7 fun t8 =>
 zab t8 false H (fun K' => K' t0 H) fun t10 H =>
 zab t8 false H (fun K' => ACalls tP zeP [t10] H K') fun t11 H =>
 zah t8 (.bool true) t11 fun t12 =>
 zab t12 false H (fun K' => K' t0 H) fun t14 H =>
 zab t12 false H (fun K' => zad .eql false t14 (.int .u8 95) (K' · H)) fun t15 H =>
 zah t12 (.bool true) t15 fun t16 =>
 K t16 H
theorem zBX {t0 : AV} {H : zaa} {K : Kt} (h : HSc H → ztd t0 H K) : ACalls tP zgs [t0] H K :=
 zaw (M := zBV) Try.func119 (c := zBW) (by kernel_rfl) (fun hs => Eq.mpr (by kernel_rfl) (h hs))
def zBY (_ : Nat) : List Bool := []
noncomputable def zBZ : Code := Try.f120.body.getD .skip
def zbd (t4 : AV) (H : zaa) (K : Kt) : Prop :=
 zag t4
 (K (.bool true) H)
 (K (.bool false) H)
def zte (t0 : AV) (H : zaa) (K : Kt) : Prop :=
 zad .eql false t0 (.str [97, 114, 114, 97, 121]) fun t5 =>
 zag t5
 (zbd t5 H K)
 (zad .eql false t0 (.str [98, 111, 111, 108]) fun t6 =>
 zag t6
 (zbd t6 H K)
 (zad .eql false t0 (.str [99, 97, 116, 99, 104]) fun t7 =>
 zag t7
 (zbd t7 H K)
 (zad .eql false t0 (.str [100, 97, 116, 97]) fun t8 =>
 zag t8
 (zbd t8 H K)
 (zad .eql false t0 (.str [101, 108, 115, 101]) fun t9 =>
 zag t9
 (zbd t9 H K)
 (zad .eql false t0 (.str [101, 110, 100]) fun t10 =>
 zag t10
 (zbd t10 H K)
 (zad .eql false t0 (.str [102, 97, 108, 115, 101]) fun t11 =>
 zag t11
 (zbd t11 H K)
 (zad .eql false t0 (.str [102, 110]) fun t12 =>
 zag t12
 (zbd t12 H K)
 (zad .eql false t0 (.str [102, 117, 110]) fun t13 =>
 zag t13
 (zbd t13 H K)
 (zad .eql false t0 (.str [103, 101, 116]) fun t14 =>
 zag t14
 (zbd t14 H K)
 (zad .eql false t0 (.str [105, 102]) fun t15 =>
 zag t15
 (zbd t15 H K)
 (zad .eql false t0 (.str [105, 110]) fun t16 =>
 zag t16
 (zbd t16 H K)
 (zad .eql false t0 (.str [105, 110, 116]) fun t17 =>
 zag t17
 (zbd t17 H K)
 (zad .eql false t0 (.str [108, 101, 110]) fun t18 =>
 zag t18
 (zbd t18 H K)
 (zad .eql false t0 (.str [108, 101, 116]) fun t19 =>
 zag t19
 (zbd t19 H K)
 (zad .eql false t0 (.str [109, 97, 116, 99, 104]) fun t20 =>
 zag t20
 (zbd t20 H K)
 (zad .eql false t0 (.str [110, 101, 119]) fun t21 =>
 zag t21
 (zbd t21 H K)
 (zad .eql false t0 (.str [114, 97, 105, 115, 101]) fun t22 =>
 zag t22
 (zbd t22 H K)
 (zad .eql false t0 (.str [114, 101, 97, 100]) fun t23 =>
 zag t23
 (zbd t23 H K)
 (zad .eql false t0 (.str [114, 101, 102]) fun t24 =>
 zag t24
 (zbd t24 H K)
 (zad .eql false t0 (.str [115, 101, 116]) fun t25 =>
 zag t25
 (zbd t25 H K)
 (zad .eql false t0 (.str [116, 104, 101, 110]) fun t26 =>
 zag t26
 (zbd t26 H K)
 (zad .eql false t0 (.str [116, 105, 99, 107]) fun t27 =>
 zag t27
 (zbd t27 H K)
 (zad .eql false t0 (.str [116, 114, 117, 101]) fun t28 =>
 zag t28
 (zbd t28 H K)
 (zad .eql false t0 (.str [116, 114, 121]) fun t29 =>
 zag t29
 (zbd t29 H K)
 (zad .eql false t0 (.str [117, 110, 105, 116]) fun t30 =>
 zag t30
 (zbd t30 H K)
 (zad .eql false t0 (.str [119, 105, 116, 104]) fun t31 =>
 zag t31
 (zbd t31 H K)
 (zad .eql false t0 (.str [119, 114, 105, 116, 101]) fun t32 =>
 zbd t32 H K)))))))))))))))))))))))))))
theorem zB0 {t0 : AV} {H : zaa} {K : Kt} (h : HSc H → zte t0 H K) : ACalls tP zl1 [t0] H K :=
 zaw (M := zBY) Try.func120 (c := zBZ) (by kernel_rfl) (fun hs => Eq.mpr (by kernel_rfl) (h hs))
def zB1 (_ : Nat) : List Bool := []
noncomputable def zB2 : Code := Try.f121.body.getD .skip
def ztf (t0 : AV) (H : zaa) (K : Kt) : Prop :=
 zad .geq false t0 (.int .u8 48) fun t4 =>
 zab t4 true H (fun K' => K' t0 H) fun t6 H =>
 zab t4 true H (fun K' => zad .leq false t6 (.int .u8 57) (K' · H)) fun t7 H =>
 zah t4 t7 (.bool false) fun t8 =>
 K t8 H
theorem zB3 {t0 : AV} {H : zaa} {K : Kt} (h : HSc H → ztf t0 H K) : ACalls tP zeP [t0] H K :=
 zaw (M := zB1) Try.func121 (c := zB2) (by kernel_rfl) (fun hs => Eq.mpr (by kernel_rfl) (h hs))
def ziP : Nat → List Bool
 | 3 => rl false [0,1,2,1,2,2,13]
 | _ => []
noncomputable def znF : Code := Try.f122.body.getD .skip
noncomputable def zCd : List ResultVar := Try.f122.results.toList
def ziQ (t0 t3 t6 t7 : AV) : List AV := t0 :: ux 2 (t3 :: ux 2 (t6 :: t7 :: ux 13 []))
def zCb : List Bool := ziP 3
noncomputable def zB9 : Code := zao [1, 1, 0, 1, 0, 0] znF
def zB8 (K : Kt) : AExit → List AV → zaa → Prop := zap tP ziP [1, 1, 0, 1, 0] znF (zat tP zCd K)
def zti (t0 t3 t6 t7 : AV) (H : zaa) (K : Kt) : Prop := ALoop tP zB9 (zB8 K) (ziQ t0 t3 t6 t7) H
def znE (t0 t3 t6 t7 : AV) (H : zaa) (K : Kt) (Kb3 : Lt) : Prop :=
 zad .lss false t7 t6 fun t8 =>
 zag t8
 (zad .mul false t3 (.int .i64 10) fun t11 =>
 zbE t0 t7 fun t14 =>
 zad .sub false t14 (.int .u8 48) fun t15 =>
 zcU .i64 t15 fun t16 =>
 zad .add false t11 t16 fun t17 =>
 zad .gtr false t17 (.int .i64 1000000) fun t19 =>
 zag t19
 (K (.bool false) H)
 (zad .add false t7 (.int .i64 1) fun t20 =>
 Kb3 (ziQ t0 t17 t6 t20) H))
 (K (.bool true) H)
def zth (t0 : AV) (H : zaa) (K : Kt) : Prop :=
 zaj 0 t0 fun t6 =>
 zti t0 (.int .i64 0) t6 (.int .i64 0) H K
theorem zCa {t0 t3 t6 t7 : AV} {H : zaa} {K : Kt} (Inv : Nat → AV → AV → zaa → Prop) (n : Nat) (h0 : HSc H → Inv n t3 t7 H)
  (round : Rd2 (fun t3 => fun t7 => ziQ t0 t3 t6 t7) (fun t3 => fun t7 => fun H Kb3 => znE t0 t3 t6 t7 H K Kb3) H Inv) : zti t0 t3 t6 t7 H K :=
 lp2 (M := ziP) zCb t3 t7 (by kernel_rfl) Inv n h0 round
theorem zCc {t0 : AV} {H : zaa} {K : Kt} (h : HSc H → zth t0 H K) : ACalls tP zgt [t0] H K :=
 zaw (M := ziP) Try.func122 (c := znF) (by kernel_rfl) (fun hs => Eq.mpr (by kernel_rfl) (h hs))
def zCe (_ : Nat) : List Bool := []
noncomputable def zCf : Code := Try.f123.body.getD .skip
def zcg (t0 t16 : AV) (H : zaa) (K : Kt) : Prop :=
 zag t16
 (zaY 0 0 t0 none (some (.int .i64 1)) fun t31 =>
 K t31 H)
 (K (.str []) H)
def ziR (t0 : AV) (H : zaa) (K : Kt) : Prop :=
 zaY 0 0 t0 none (some (.int .i64 1)) fun t15 =>
 zad .eql false t15 (.str [40]) fun t17 =>
 zag t17
 (zcg t0 t17 H K)
 (zad .eql false t15 (.str [41]) fun t18 =>
 zag t18
 (zcg t0 t18 H K)
 (zad .eql false t15 (.str [44]) fun t19 =>
 zag t19
 (zcg t0 t19 H K)
 (zad .eql false t15 (.str [61]) fun t20 =>
 zag t20
 (zcg t0 t20 H K)
 (zad .eql false t15 (.str [124]) fun t21 =>
 zag t21
 (zcg t0 t21 H K)
 (zad .eql false t15 (.str [43]) fun t22 =>
 zag t22
 (zcg t0 t22 H K)
 (zad .eql false t15 (.str [45]) fun t23 =>
 zag t23
 (zcg t0 t23 H K)
 (zad .eql false t15 (.str [42]) fun t24 =>
 zag t24
 (zcg t0 t24 H K)
 (zad .eql false t15 (.str [47]) fun t25 =>
 zag t25
 (zcg t0 t25 H K)
 (zad .eql false t15 (.str [37]) fun t26 =>
 zag t26
 (zcg t0 t26 H K)
 (zad .eql false t15 (.str [60]) fun t27 =>
 zag t27
 (zcg t0 t27 H K)
 (zad .eql false t15 (.str [59]) fun t28 =>
 zag t28
 (zcg t0 t28 H K)
 (zad .eql false t15 (.str [95]) fun t29 =>
 zcg t0 t29 H K))))))))))))
def ze2 (t0 t8 : AV) (H : zaa) (K : Kt) : Prop :=
 zag t8
 (zaY 0 0 t0 none (some (.int .i64 2)) fun t13 =>
 K t13 H)
 (ziR t0 H K)
def zfT (t0 : AV) (H : zaa) (K : Kt) : Prop :=
 zaj 0 t0 fun t4 =>
 zad .geq false t4 (.int .i64 2) fun t5 =>
 zag t5
 (zaY 0 0 t0 none (some (.int .i64 2)) fun t7 =>
 zad .eql false t7 (.str [45, 62]) fun t9 =>
 zag t9
 (ze2 t0 t9 H K)
 (zad .eql false t7 (.str [60, 61]) fun t10 =>
 zag t10
 (ze2 t0 t10 H K)
 (zad .eql false t7 (.str [61, 61]) fun t11 =>
 ze2 t0 t11 H K)))
 (ziR t0 H K)
theorem zCg {t0 : AV} {H : zaa} {K : Kt} (h : HSc H → zfT t0 H K) : ACalls tP zl2 [t0] H K :=
 zaw (M := zCe) Try.func123 (c := zCf) (by kernel_rfl) (fun hs => Eq.mpr (by kernel_rfl) (h hs))
def zHp (_ : Nat) : List Bool := []
noncomputable def zHq : Code := Try.f66.body.getD .skip
def zvc (t0 : AV) (H : zaa) (K : Kt) : Prop :=
 ACalls tP zmm [t0] H fun t8 H =>
 za1 t8 0 fun t9 =>
 za1 t8 1 fun t10 =>
 za1 t8 2 fun t11 =>
 zad .eql false t11 (.int .i64 0) fun t13 =>
 zab t13 true H (fun K' => K' t9 H) fun t15 H =>
 zab t13 true H (fun K' => zaj 1 t15 (K' · H)) fun t16 H =>
 zab t13 true H (fun K' => zad .eql false t16 (.int .i64 2) (K' · H)) fun t17 H =>
 zah t13 t17 (.bool false) fun t18 =>
 zab t18 true H (fun K' => K' t9 H) fun t20 H =>
 zab t18 true H (fun K' => zak 3 t20 (.int .i64 0) (K' · H)) fun t21 H =>
 zab t18 true H (fun K' => zaf 0 t21 (K' · H)) fun t22 H =>
 zab t18 true H (fun K' => zae false 1 t22 H (K' · H)) fun t23 H =>
 zab t18 true H (fun K' => zad .eql false t23 (.int .i64 2) (K' · H)) fun t24 H =>
 zah t18 t24 (.bool false) fun t25 =>
 zab t25 true H (fun K' => K' t9 H) fun t27 H =>
 zab t25 true H (fun K' => zak 3 t27 (.int .i64 0) (K' · H)) fun t28 H =>
 zab t25 true H (fun K' => zaf 1 t28 (K' · H)) fun t29 H =>
 zab t25 true H (fun K' => zae false 1 t29 H (K' · H)) fun t30 H =>
 zab t25 true H (fun K' => K' t0 H) fun t31 H =>
 zab t25 true H (fun K' => zad .eql false t30 t31 (K' · H)) fun t32 H =>
 zah t25 t32 (.bool false) fun t33 =>
 K t33 H
theorem zHr {t0 : AV} {H : zaa} {K : Kt} (h : HSc H → zvc t0 H K) : ACalls tP zhR [t0] H K :=
 zaw (M := zHp) Try.func66 (c := zHq) (by kernel_rfl) (fun hs => Eq.mpr (by kernel_rfl) (h hs))
def zIj (_ : Nat) : List Bool := []
noncomputable def zIk : Code := Try.f77.body.getD .skip
def zvx (t0 : AV) (H : zaa) (K : Kt) : Prop :=
 ACalls tP zms [t0] H fun t8 H =>
 za1 t8 0 fun t9 =>
 za1 t8 1 fun t10 =>
 za1 t8 2 fun t11 =>
 zad .eql false t11 (.int .i64 0) fun t13 =>
 zab t13 true H (fun K' => K' t9 H) fun t15 H =>
 zab t13 true H (fun K' => zaj 1 t15 (K' · H)) fun t16 H =>
 zab t13 true H (fun K' => zad .eql false t16 (.int .i64 2) (K' · H)) fun t17 H =>
 zah t13 t17 (.bool false) fun t18 =>
 zab t18 true H (fun K' => K' t9 H) fun t20 H =>
 zab t18 true H (fun K' => zak 3 t20 (.int .i64 0) (K' · H)) fun t21 H =>
 zab t18 true H (fun K' => zaf 0 t21 (K' · H)) fun t22 H =>
 zab t18 true H (fun K' => zae false 1 t22 H (K' · H)) fun t23 H =>
 zab t18 true H (fun K' => zad .eql false t23 (.int .i64 2) (K' · H)) fun t24 H =>
 zah t18 t24 (.bool false) fun t25 =>
 zab t25 true H (fun K' => K' t9 H) fun t27 H =>
 zab t25 true H (fun K' => zak 3 t27 (.int .i64 0) (K' · H)) fun t28 H =>
 zab t25 true H (fun K' => zaf 1 t28 (K' · H)) fun t29 H =>
 zab t25 true H (fun K' => zae false 1 t29 H (K' · H)) fun t30 H =>
 zab t25 true H (fun K' => K' t0 H) fun t31 H =>
 zab t25 true H (fun K' => zad .eql false t30 t31 (K' · H)) fun t32 H =>
 zah t25 t32 (.bool false) fun t33 =>
 K t33 H
theorem zIl {t0 : AV} {H : zaa} {K : Kt} (h : HSc H → zvx t0 H K) : ACalls tP zhU [t0] H K :=
 zaw (M := zIj) Try.func77 (c := zIk) (by kernel_rfl) (fun hs => Eq.mpr (by kernel_rfl) (h hs))
end Go.Proofs.Ytkdmpbhbmmhijaa
