import Derived.Test.YtddlhljflggenaaGreatDoorKY4
set_option linter.unusedSimpArgs false
set_option linter.unusedVariables false
namespace Go.Proofs.YtddlhljflggenaaGreatDoor
open Go Go.Abs
set_option maxRecDepth 8000
theorem zKJ (data : List Dat) (hdl : data.length ≤ 1000000) (vars : Int) : ∀ (m : Nat) (v : VT), v.nodes ≤ m → v.nodes ≤ 1000000000 → ∀ (H : zaa) (K : AV → zaa → Prop), K (.bool (zaN data vars v)) H → ACalls tP zif [.sl (data.map Dat.cs) .none, .agg v.cs, .int .i64 vars] H K := by
 intro m
 induction m with
 | zero => intro v h; have := v.nodes_pos; omega
 | succ m ih =>
  intro v hv hb H K hK
  obtain ⟨k, n, ks⟩ := v
  have hnl : VT.nodesL ks + 1 ≤ 1000000000 := by simpa [VT.nodes] using hb
  have hll := VT.len_le ks
  refine ACalls.out (zKH fun hs => ?_)
  have hO : ∀ J, Out H.length K (.bool (zaV data vars k n ks.length && zaS data vars ks)) (H ++ J) := fun J => Out.bool rfl (Nat.le_refl _) hs (by simpa [zaN] using hK)
  have hF : zaV data vars k n ks.length = false → ∀ J, Out H.length K (.bool false) (H ++ J) := fun h J => by have := hO J; rwa [h, Bool.false_and] at this
  have loop : zaV data vars k n ks.length = true → zqj (.sl (data.map Dat.cs) .none) (.int .i64 vars) (.ptr H.length 0) (.int .i64 ks.length) (.int .i64 0) (H ++ [.cells [.int .i64 k, .int .i64 n, .sl (VT.css ks) .none]]) (Out H.length K) := by
   intro hsh
   rw [hsh] at hO
   simp only [Bool.true_and] at hO
   refine zKF (Inv := fun q t8 H' => ∃ i : Nat, i ≤ ks.length ∧ q = ks.length - i ∧ t8 = .int .i64 i ∧ zaS data vars (ks.drop i) = zaS data vars ks ∧ H' = H ++ [.cells [.int .i64 k, .int .i64 n, .sl (VT.css ks) .none]]) ks.length ?_ ?_
   ·intro _; exact ⟨0, by omega, by omega, rfl, by simp, rfl⟩
   ·rintro q t8 H' ⟨i, hi, rfl, rfl, ho, rfl⟩ hsc hlen hsF Kb hKb
    by_cases hlt : i < ks.length
    ·have hki := VT.kid_lt (k := k) (n := n) hlt
     rw [List.drop_eq_getElem_cons hlt, zaS] at ho
     simp [zqh, hlt]
     refine ih ks[i] (by omega) (by omega) _ _ ?_
     cases hb : zaN data vars ks[i] with
     | false =>
      rw [hb, Bool.false_and] at ho
      rw [← ho] at hO
      simp
      exact hO _
     | true =>
      rw [hb, Bool.true_and] at ho
      simp
      rw [zam (by omega) (by omega)]
      refine hKb _ _ ⟨ks.length - (i + 1), by omega, Back.here (by simp) hsc ?_ ⟨_, rfl, i + 1, by omega, rfl, by simp, ho, rfl⟩⟩
      simp [zkO, AV.sc, AV.scV, AV.scA, AV.scB]
    ·obtain rfl : i = ks.length := by omega
     rw [List.drop_length, zaS] at ho
     rw [← ho] at hO
     simp [zqh]
     exact hO _
  have prim : (k = 1 ∨ k = 2 ∨ k = 3) → Out H.length K (.bool (n == 0 && ks.length == 0)) (H ++ [.cells [.int .i64 k, .int .i64 n, .sl (VT.css ks) .none]]) := by
   intro h
   have hsh : zaV data vars k n ks.length = (n == 0 && ks.length == 0) := by rcases h with rfl | rfl | rfl <;> rfl
   have := hO [.cells [.int .i64 k, .int .i64 n, .sl (VT.css ks) .none]]
   rw [hsh] at this
   cases ks with
   | nil => simpa [zaS] using this
   | cons x l => simpa using this
  by_cases h123 : k = 1 ∨ k = 2 ∨ k = 3
  ·have := prim h123
   cases hn : (n == 0) with
   | false => rw [hn, Bool.false_and] at this; rcases h123 with rfl | rfl | rfl <;> simp [zbX, VT.cs, zbl, hn] <;> exact this
   | true =>
    rw [hn, Bool.true_and] at this
    have e : ((ks.length : Int) == 0) = (ks.length == 0) := by rw [Bool.eq_iff_iff]; simp
    rw [← e] at this
    rcases h123 with rfl | rfl | rfl <;> simp only [zbX, VT.cs] <;> simp [zbl, hn] <;> simpa using this
  by_cases h4 : k = 4
  ·subst h4
   have hsh : zaV data vars 4 n ks.length = (decide (0 ≤ n) && decide (n < vars) && ks.length == 0) := rfl
   have hO' : ∀ J, Out H.length K (.bool (decide (0 ≤ n) && decide (n < vars) && ks.length == 0)) (H ++ J) := fun J => by
    have := hO J
    rw [hsh] at this
    cases ks with
    | nil => simpa [zaS] using this
    | cons x l => simpa using this
   have e : ((ks.length : Int) == 0) = (ks.length == 0) := by rw [Bool.eq_iff_iff]; simp
   rw [← e] at hO'
   by_cases g1 : 0 ≤ n
   ·by_cases g2 : n < vars
    ·simp only [zbX, VT.cs]
     simp [zbl, g1, g2]
     simpa [g1, g2] using hO' _
    ·simp only [zbX, VT.cs]
     simp [zbl, g1, g2]
     simpa [g1, g2] using hO' _
   ·simp only [zbX, VT.cs]
    simp [zbl, g1]
    simpa [g1] using hO' _
  by_cases h5 : k = 5
  ·subst h5
   have hsh : zaV data vars 5 n ks.length = (decide (0 ≤ n) && (match data[n.toNat]? with | some d => (ks.length : Int) == d.vars | none => false)) := rfl
   by_cases g1 : 0 ≤ n
   ·have g1' : ¬ n < 0 := by omega
    by_cases g2 : n < data.length
    ·have hnl : n.toNat < data.length := by omega
     have g2' : ¬ (data.length : Int) ≤ n := by omega
     have hat : (data.map Dat.cs)[n.toNat]?.getD [] = [.str data[n.toNat].name, .int .i64 data[n.toNat].vars, .sl (data[n.toNat].cons.map Con.cs) .none] := by simp [hnl, Dat.cs]
     rw [List.getElem?_eq_getElem hnl] at hsh
     simp only [g1, decide_true, Bool.true_and] at hsh
     cases hv : ((ks.length : Int) == data[n.toNat].vars) with
     | false =>
      rw [hv] at hsh
      have hv' : ((ks.length : Int) != data[n.toNat].vars) = true := by simp [bne, hv]
      simp only [zbX, VT.cs]
      simp [zbl, g1', g2', g1, g2, hnl, Dat.cs, hv']
      exact hF hsh _
     | true =>
      rw [hv] at hsh
      have hv' : ((ks.length : Int) != data[n.toNat].vars) = false := by simp [bne, hv]
      simp only [zbX, VT.cs]
      simp [zbl, g1', g2', g1, g2, hnl, Dat.cs, hv', zea, zhh]
      exact loop hsh
    ·have g2' : (data.length : Int) ≤ n := by omega
     rw [List.getElem?_eq_none (by omega)] at hsh
     simp only [zbX, VT.cs]
     simp [zbl, g1', g2']
     exact hF (by rw [hsh]; simp) _
   ·have g1' : n < 0 := by omega
    simp only [zbX, VT.cs]
    simp [zbl, g1']
    exact hF (by rw [hsh]; simp [g1]) _
  by_cases h6 : k = 6
  ·subst h6
   have hsh : zaV data vars 6 n ks.length = (n == 0 && decide (2 ≤ ks.length) && decide (ks.length ≤ 6)) := rfl
   simp only [zbX, VT.cs]
   cases hn : (n == 0) with
   | false =>
    have : (n != 0) = true := by simp [bne, hn]
    simp [zbl, this]
    exact hF (by rw [hsh, hn]; rfl) _
   | true =>
    have hn' : (n != 0) = false := by simp [bne, hn]
    by_cases g1 : ks.length < 2
    ·have : (ks.length : Int) < 2 := by omega
     simp [zbl, hn', this]
     exact hF (by rw [hsh]; simp; omega) _
    ·have g1' : ¬ (ks.length : Int) < 2 := by omega
     by_cases g2 : 6 < ks.length
     ·have : (6 : Int) < ks.length := by omega
      simp [zbl, hn', g1', this]
      exact hF (by rw [hsh]; simp; omega) _
     ·have : ¬ (6 : Int) < ks.length := by omega
      simp [zbl, hn', g1', this, zea, zhh]
      exact loop (by rw [hsh, hn]; simp; omega)
  by_cases h78 : k = 7 ∨ k = 8
  ·have hsh : zaV data vars k n ks.length = (n == 0 && ks.length == 1) := by rcases h78 with rfl | rfl <;> rfl
   cases hn : (n == 0) with
   | false =>
    have : (n != 0) = true := by simp [bne, hn]
    have fin := hF (by rw [hsh, hn]; rfl)
    simp only [zbX, VT.cs]
    rcases h78 with rfl | rfl <;> simp [zbl, zdi, this] <;> exact fin _
   | true =>
    have hn' : (n != 0) = false := by simp [bne, hn]
    by_cases g1 : ks.length = 1
    ·have g1' : ((ks.length : Int) != 1) = false := by simp [g1]
     have fin := loop (by rw [hsh, hn, g1]; rfl)
     simp only [zbX, VT.cs]
     rcases h78 with rfl | rfl <;> simp [zbl, zdi, hn', g1', zea, zhh] <;> exact fin
    ·have g1' : ((ks.length : Int) != 1) = true := by simp; omega
     have fin := hF (by rw [hsh]; simp [g1])
     simp only [zbX, VT.cs]
     rcases h78 with rfl | rfl <;> simp [zbl, zdi, hn', g1'] <;> exact fin _
  have b1 : (k == 1) = false := by simp; omega
  have b2 : (k == 2) = false := by simp; omega
  have b3 : (k == 3) = false := by simp; omega
  have b4 : (k == 4) = false := by simp; omega
  have b5 : (k == 5) = false := by simp; omega
  have b6 : (k == 6) = false := by simp; omega
  have b7 : (k == 7) = false := by simp; omega
  have b8 : (k == 8) = false := by simp; omega
  by_cases h9 : k = 9
  ·subst h9
   have hsh : zaV data vars 9 n ks.length = (n == 0 && decide (1 ≤ ks.length) && decide (ks.length ≤ 7)) := rfl
   simp only [zbX, VT.cs]
   cases hn : (n == 0) with
   | false =>
    have : (n != 0) = true := by simp [bne, hn]
    simp [zbl, zdi, this]
    exact hF (by rw [hsh, hn]; rfl) _
   | true =>
    have hn' : (n != 0) = false := by simp [bne, hn]
    by_cases g1 : ks.length < 1
    ·have : (ks.length : Int) < 1 := by omega
     simp [zbl, zdi, hn', this]
     exact hF (by rw [hsh]; simp; omega) _
    ·have g1' : ¬ (ks.length : Int) < 1 := by omega
     by_cases g2 : 7 < ks.length
     ·have : (7 : Int) < ks.length := by omega
      simp [zbl, zdi, hn', g1', this]
      exact hF (by rw [hsh]; simp; omega) _
     ·have : ¬ (7 : Int) < ks.length := by omega
      simp [zbl, zdi, hn', g1', this, zea, zhh]
      exact loop (by rw [hsh, hn]; simp; omega)
  ·have b9 : (k == 9) = false := by simp; omega
   simp only [zbX, VT.cs]
   simp [zbl, zdi, b1, b2, b3, b4, b5, b6, b7, b8, b9]
   exact hF (by unfold zaV; simp [b1, b2, b3, b4, b5, b6, b7, b8, b9]) _
theorem zwy (data : List Dat) (hdl : data.length ≤ 1000000) (vars : Int) (v : VT) (hb : v.nodes ≤ 1000000000) (H : zaa) (K : AV → zaa → Prop) (hK : K (.bool (zaT data vars v)) H) : ACalls tP zh7 [.sl (data.map Dat.cs) .none, .agg v.cs, .int .i64 vars] H K := by
 refine ACalls.out (zHZ fun hs => ?_)
 have hO : ∀ J, Out H.length K (.bool (zaT data vars v)) (H ++ J) := fun J => Out.bool rfl (Nat.le_refl _) hs hK
 unfold zaT at hO
 simp [zwx]
 refine zxQ _ v (Nat.le_refl _) hb _ _ ?_
 by_cases h : v.nodes ≤ 200
 ·have h' : (v.nodes : Int) ≤ 200 := by omega
  simp [h']
  refine zKJ data hdl vars _ v (Nat.le_refl _) hb _ _ ?_
  simpa [h] using hO _
 ·have h' : ¬ (v.nodes : Int) ≤ 200 := by omega
  simp [h']
  simpa [h] using hO _
def zbq (es : List (List AV)) (id : Nat) : AV := match es with | [] => .snil | _ => .sl es (.own id)
def zcd (e s : Nat) (n : Nat) : zaa := match n with | 0 => [] | n => [.perm e s n]
theorem zyB (es : List (List AV)) (id : Nat) : WkA (zbq es id) (.sl es .none) := by
 cases es with
 | nil => exact .snil
 | cons e es => exact .sl _ _
theorem zqZ (es : List (List AV)) {id n : Nat} (h : es = [] ∨ id < n) : (zbq es id).scA n = true := by
 cases es with
 | nil => rfl
 | cons e es =>
  rcases h with h | h
  ·cases h
  ·simpa [zbq, AV.scA, AV.scB] using h
theorem zyA (es : List (List AV)) (id : Nat) : (zbq es id).known = true := by cases es <;> rfl
theorem zyz (es : List (List AV)) (id : Nat) : (zbq es id).cs? = some [zbq es id] := by cases es <;> rfl
theorem zyC {e s bytes : Nat} {es : List (List AV)} {y : List AV} {t : Tok} {H : zaa} {K : AV → zaa → Prop} (hy : y.length = s) (hb : (es.length + 1) * bytes ≤ 140737488355328) (hl : es.length + 1 ≤ 9223372036854775807)
  (hk : K (zbq (es ++ [y]) H.length) (H ++ zcd e s (es.length + 1))) : zat e s bytes (zbq es H.length) (.sl [y] t) (H ++ zcd e s es.length) K := by
 unfold zat zaI
 refine ⟨by simpa using hy, ?_⟩
 cases es with
 | nil =>
  unfold zaE
  simp [zbq, zcd] at *
  exact ⟨by omega, hk⟩
 | cons x es =>
  unfold zaE
  simp [zbq, zcd] at *
  refine ⟨⟨by omega, by omega⟩, hk⟩
theorem zq0 {e s bytes id n : Nat} {es : List (List AV)} {y : List AV} {t : Tok} {H0 Hh : zaa} {K : AV → zaa → Prop} (hn : n = es.length) (he : Hh = H0 ++ zcd e s n) (hid : id = H0.length) (hy : y.length = s) (hb : (es.length + 1) * bytes ≤ 140737488355328) (hl : es.length + 1 ≤ 9223372036854775807)
  (hk : K (zbq (es ++ [y]) id) (H0 ++ zcd e s (n + 1))) : zat e s bytes (zbq es id) (.sl [y] t) Hh K := by
 subst he hid hn
 exact zyC hy hb hl hk
@[simp] theorem zOu (es : List (List AV)) (id : Nat) : (zbq es id).cs? = some [zbq es id] := zyz es id
@[simp] theorem zOv (es : List (List AV)) (id : Nat) : (zbq es id).known = true := zyA es id
theorem zeg {v : VT} {k : AV → Prop} : zay 3 [.int .i64 0, .int .i64 0, .snil] 1 [(0, .agg v.cs)] k = k (.sl [v.cs] .full) := by
 cases v
 exact propext Iff.rfl
theorem zfS {l : List VT} {i : Nat} (h : i < l.length) : VT.css (l.take (i + 1)) = VT.css (l.take i) ++ [(l[i]).cs] := by
 rw [VT.css_map, VT.css_map, List.take_succ_eq_append_getElem h, List.map_append]
 rfl
theorem zs0 {H J : zaa} {K : AV → zaa → Prop} {k n : Int} {ks : List VT} {id : Nat} (hs : HSc H) (hK : K (.agg (VT.mk k n ks).cs) H) : Out H.length K (.agg [.int .i64 k, .int .i64 n, zbq (VT.css ks) id]) (H ++ J) :=
 Out.at rfl (Nat.le_refl _) hs (WkV.agg (ds := [.int .i64 k, .int .i64 n, .sl (VT.css ks) .none]) ⟨.refl _, .refl _, zyB _ _, trivial⟩) rfl (by simp [AV.scV, AV.scA, AV.scB]) (by simpa [VT.cs] using hK)
theorem zzg : ∀ (m : Nat) (v : VT), v.nodes ≤ m → v.nodes ≤ 1000000 → ∀ (H : zaa) (K : AV → zaa → Prop), K (.agg v.cs) H → ACalls tP zhR [.agg v.cs] H K := by
 intro m
 induction m with
 | zero => intro v h; have := v.nodes_pos; omega
 | succ m ih =>
  intro v hv hb H K hK
  obtain ⟨k, n, ks⟩ := v
  have hnl : VT.nodesL ks + 1 ≤ 1000000 := by simpa [VT.nodes] using hb
  have hll := VT.len_le ks
  refine ACalls.out (zDA fun hs => ?_)
  simp [VT.cs, zuD, zau, zaH, Nat.add_assoc]
  refine zDy (Inv := fun q t4 H' => ∃ i : Nat, i ≤ ks.length ∧ q = ks.length - i ∧ t4 = .int .i64 i ∧ H' = H ++ [.cells [.int .i64 k, .int .i64 n, .sl (VT.css ks) .none], .cells [.int .i64 0, .int .i64 0, .snil], .cells [.int .i64 k, .int .i64 n, zbq (VT.css (ks.take i)) (H.length + 3)]] ++ zcd zaO 3 i) ks.length ?_ ?_
  ·intro _; exact ⟨0, by omega, by omega, rfl, by simp [zcd, zbq, VT.css]⟩
  ·rintro q t4 H' ⟨i, hi, rfl, rfl, rfl⟩ hsc hlen hsF Kb hKb
   by_cases hlt : i < ks.length
   ·have hki := VT.kid_lt (k := k) (n := n) hlt
    simp [znH, hlt]
    refine zbH (.agg (ks[i]).cs) (fun J => ih ks[i] (by omega) (by omega) _ _ ⟨rfl, rfl⟩) ?_
    rw [zeg]
    refine zq0 (H0 := H ++ [.cells [.int .i64 k, .int .i64 n, .sl (VT.css ks) .none], .cells [.int .i64 0, .int .i64 0, .snil], .cells [.int .i64 k, .int .i64 n, zbq (VT.css (ks.take i)) (H.length + 3)]]) (n := i) (by simp; omega) (by simp) (by simp) (by simp) (by simp; omega) (by simp; omega) ?_
    rw [← zfS hlt]
    simp
    rw [zam (by omega) (by omega)]
    refine hKb _ _ ⟨ks.length - (i + 1), by omega, Back.here (by simp [zcd]) ?_ ?_ ⟨_, rfl, i + 1, by omega, rfl, by simp, by simp⟩⟩
    ·refine hs.append ?_
     simp [AB.sc, zcd, AV.scA, AV.scB]
     exact zqZ _ (.inr (by omega))
    ·simp [zi4, AV.sc, AV.scV, AV.scA, AV.scB]
   ·obtain rfl : i = ks.length := by omega
    rw [List.take_length] at *
    simp [znH]
    exact zs0 hs hK
theorem zdx (args : List VT) : ∀ l : List VT, zaG args l = l.map (subst args)
 | [] => rfl
 | t :: ts => by rw [zaG, zdx args ts]; rfl
theorem zLy (args : List VT) (ha : ∀ x ∈ args, x.nodes ≤ 1000000) (hal : args.length ≤ 1000000) : ∀ (m : Nat) (v : VT), v.nodes ≤ m → v.nodes ≤ 1000000 → ∀ (H : zaa) (K : AV → zaa → Prop), K (.agg (subst args v).cs) H → ACalls tP zii [.agg v.cs, .sl (VT.css args) .none] H K := by
 intro m
 induction m with
 | zero => intro v h; have := v.nodes_pos; omega
 | succ m ih =>
  intro v hv hb H K hK
  obtain ⟨k, n, ks⟩ := v
  have hnl : VT.nodesL ks + 1 ≤ 1000000 := by simpa [VT.nodes] using hb
  have hll := VT.len_le ks
  refine ACalls.out (zLw fun hs => ?_)
  by_cases hvar : k = 4 ∧ 0 ≤ n ∧ n < args.length
  ·obtain ⟨rfl, h0, h1⟩ := hvar
   have hn : n.toNat < args.length := by omega
   have hK' : K (.agg (args[n.toNat]).cs) H := by
    rw [subst, if_pos ⟨rfl, h0, h1⟩, List.getElem?_eq_getElem hn] at hK
    exact hK
   simp [VT.cs, zqz, h0, h1, hn]
   refine zzg _ _ (Nat.le_refl _) (ha _ (List.getElem_mem hn)) _ _ ?_
   generalize args[n.toNat] = x at *
   obtain ⟨k', n', ks'⟩ := x
   simp [VT.cs]
   exact Out.at rfl (Nat.le_refl _) hs .rfl' rfl rfl hK'
  ·have hK' : K (.agg (VT.mk k n (zaG args ks)).cs) H := by
    rw [subst, if_neg hvar] at hK
    exact hK
   have go : ∀ H1, H1 = H ++ [.cells [.int .i64 k, .int .i64 n, .sl (VT.css ks) .none], .cells [.int .i64 0, .int .i64 0, .snil], .cells [.int .i64 k, .int .i64 n, .snil]] → zqC (.sl (VT.css args) .none) (.ptr H.length 0) (.ptr (H.length + 1) 0) (.ptr (H.length + 2) 0) (.int .i64 0) H1 (Out H.length K) := by
    rintro _ rfl
    refine zLu (Inv := fun q t6 H' => ∃ i : Nat, i ≤ ks.length ∧ q = ks.length - i ∧ t6 = .int .i64 i ∧ H' = H ++ [.cells [.int .i64 k, .int .i64 n, .sl (VT.css ks) .none], .cells [.int .i64 0, .int .i64 0, .snil], .cells [.int .i64 k, .int .i64 n, zbq (VT.css ((zaG args ks).take i)) (H.length + 3)]] ++ zcd zaO 3 i) ks.length ?_ ?_
    ·intro _; exact ⟨0, by omega, by omega, rfl, by simp [zcd, zbq, VT.css]⟩
    ·rintro q t6 H' ⟨i, hi, rfl, rfl, rfl⟩ hsc hlen hsF Kb hKb
     by_cases hlt : i < ks.length
     ·have hki := VT.kid_lt (k := k) (n := n) hlt
      have hlt' : i < (zaG args ks).length := by rw [zdx]; simpa using hlt
      have hsi : (zaG args ks)[i] = subst args ks[i] := by simp [zdx]
      simp [zqA, hlt]
      refine zbH (.agg (subst args ks[i]).cs) (fun J => ih ks[i] (by omega) (by omega) _ _ ⟨rfl, rfl⟩) ?_
      rw [zeg, ← hsi]
      refine zq0 (H0 := H ++ [.cells [.int .i64 k, .int .i64 n, .sl (VT.css ks) .none], .cells [.int .i64 0, .int .i64 0, .snil], .cells [.int .i64 k, .int .i64 n, zbq (VT.css ((zaG args ks).take i)) (H.length + 3)]]) (n := i) (by simp; omega) (by simp) (by simp) (by simp) (by simp; omega) (by simp; omega) ?_
      rw [← zfS hlt']
      simp
      rw [zam (by omega) (by omega)]
      refine hKb _ _ ⟨ks.length - (i + 1), by omega, Back.here (by simp [zcd]) ?_ ?_ ⟨_, rfl, i + 1, by omega, rfl, by simp, by simp⟩⟩
      ·refine hs.append ?_
       simp [AB.sc, zcd, AV.scA, AV.scB]
       exact zqZ _ (.inr (by omega))
      ·simp [zk1, AV.sc, AV.scV, AV.scA, AV.scB]
     ·obtain rfl : i = ks.length := by omega
      have e : (zaG args ks).take ks.length = zaG args ks := List.take_of_length_le (by rw [zdx]; simp)
      rw [e]
      simp [zqA]
      exact zs0 hs hK'
   simp only [VT.cs, zqz]
   by_cases h4 : k = 4
   ·subst h4
    by_cases h0 : 0 ≤ n
    ·have h1 : ¬ n < args.length := fun h => hvar ⟨rfl, h0, h⟩
     simp [h0, h1, zau, zaH, Nat.add_assoc]
     exact go _ rfl
    ·simp [h0, zau, zaH, Nat.add_assoc]
     exact go _ rfl
   ·have h4' : (k == 4) = false := by simpa using h4
    simp [h4', zau, zaH, Nat.add_assoc]
    exact go _ rfl
mutual
theorem ztZ {args : List VT} {M : Nat} (h1 : 1 ≤ M) (ha : ∀ x ∈ args, x.nodes ≤ M) : ∀ v : VT, (subst args v).nodes ≤ v.nodes * M
 | .mk k n ks => by
  unfold subst
  split
  ·rename_i h
   have hn : n.toNat < args.length := by omega
   rw [List.getElem?_eq_getElem hn]
   have := ha _ (List.getElem_mem hn)
   have h2 : M ≤ (VT.mk k n ks).nodes * M := by
    have := (VT.mk k n ks).nodes_pos
    exact Nat.le_mul_of_pos_left M this
   simp only [Option.getD_some]
   omega
  ·have := ztW h1 ha ks
   simp only [VT.nodes, Nat.succ_mul]
   omega
theorem ztW {args : List VT} {M : Nat} (h1 : 1 ≤ M) (ha : ∀ x ∈ args, x.nodes ≤ M) : ∀ l : List VT, VT.nodesL (zaG args l) ≤ VT.nodesL l * M
 | [] => by simp [zaG, VT.nodesL]
 | t :: ts => by
  have h2 := ztZ h1 ha t
  have h3 := ztW h1 ha ts
  simp only [zaG, VT.nodesL, Nat.add_mul]
  omega
end
theorem zhK {k n : Int} {ks : List VT} : ∀ x ∈ ks, x.nodes ≤ (VT.mk k n ks).nodes := by
 intro x hx
 obtain ⟨i, hi, rfl⟩ := List.mem_iff_getElem.1 hx
 exact Nat.le_of_lt (VT.kid_lt hi)
theorem zua {H : zaa} {x y : AB} : H ++ [x, y] = (H ++ [x]) ++ [y] := by simp
theorem zcr (data : List Dat) (k n : Int) (ks : List VT) (c : Int) : za7 data (.mk k n ks) c = (if k = 5 ∧ 0 ≤ n ∧ 0 ≤ c then
  match data[n.toNat]? with
  | some d => if (ks.length : Int) = d.vars then
    match d.cons[c.toNat]? with
    | some co => if (co.args.map (subst ks)).all (fun x => decide (x.nodes ≤ 200)) = true then some (co.args.map (subst ks)) else none
    | none => none
   else none
  | none => none
 else none) := rfl
def zbL (o : Option (List VT)) : AV := match o with
 | some l => .tup [.sl (VT.css l) .none, .bool true]
 | none => .tup [.sl [] .none, .bool false]
theorem zsB {α : Type} {l : List α} {i : Nat} (h : i < l.length) {p : α → Prop} (h1 : ∀ x ∈ l.take i, p x) (h2 : p l[i]) : ∀ x ∈ l.take (i + 1), p x := by
 rw [List.take_succ_eq_append_getElem h]
 intro x hx
 rcases List.mem_append.1 hx with hx | hx
 ·exact h1 x hx
 ·simp at hx; subst hx; exact h2
theorem zaX (v : VT) : ∃ a b c, v.cs = [a, b, c] ∧ a.known = true ∧ b.known = true ∧ c.known = true := by
 obtain ⟨k, n, ks⟩ := v; exact ⟨_, _, _, rfl, rfl, rfl, rfl⟩
theorem zwO (data : List Dat) (hdl : data.length ≤ 1000000) (hda : ∀ d ∈ data, ∀ c ∈ d.cons, c.args.length ≤ 1000 ∧ ∀ x ∈ c.args, x.nodes ≤ 1000) (hdc : ∀ d ∈ data, d.cons.length ≤ 1000000) (t : VT) (ht : t.nodes ≤ 1000) (c : Int) (H : zaa) (K : AV → zaa → Prop) (hK : K (zbL (za7 data t c)) H) :
  ACalls tP zib [.sl (data.map Dat.cs) .none, .agg t.cs, .int .i64 c] H K := by
 refine ACalls.out (zIE fun hs => ?_)
 obtain ⟨k, n, ks⟩ := t
 have hkn : VT.nodesL ks + 1 ≤ 1000 := by simpa [VT.nodes] using ht
 have hkl := VT.len_le ks
 have hF : za7 data (.mk k n ks) c = none → ∀ J, Out H.length K (.tup [.snil, .bool false]) (H ++ J) := fun h J => by
  rw [h] at hK
  exact Out.tup hs hK ⟨zdY, zaC rfl rfl, trivial⟩
 have hFF : ∀ J, za7 data (.mk k n ks) c = none → Out H.length K (.tup [.snil, .bool false]) (H ++ J) := fun J h => hF h J
 simp only [VT.cs, zwN]
 by_cases h5 : k = 5
 case neg =>
  have : (k != 5) = true := by simpa using h5
  simp [this, AV.isV]
  exact hF (by rw [zcr, if_neg (fun h => h5 h.1)]) _
 subst h5
 by_cases h0 : n < 0
 ·simp [h0, AV.isV]
  exact hF (by rw [zcr, if_neg (fun h => by have := h.2.1; omega)]) _
 by_cases h1 : (data.length : Int) ≤ n
 ·simp [h0, h1, AV.isV]
  exact hF (by
   rw [zcr]
   split
   ·rw [List.getElem?_eq_none (by omega)]
   ·rfl) _
 have hn : n.toNat < data.length := by omega
 have h1' : n < data.length := by omega
 have h0' : 0 ≤ n := by omega
 generalize hdd : data[n.toNat] = d at *
 have hd : d ∈ data := by rw [← hdd]; exact List.getElem_mem hn
 have hget : data[n.toNat]? = some d := by rw [List.getElem?_eq_getElem hn, hdd]
 cases hv : ((ks.length : Int) == d.vars) with
 | false =>
  have hv' : ((ks.length : Int) != d.vars) = true := by simp [bne, hv]
  simp [h0, h1, h0', h1', hn, hdd, Dat.cs, hv', AV.isV, hget]
  exact hF (by
   rw [zcr]
   split
   ·rw [hget]
    simp only
    rw [if_neg (by simpa using hv)]
   ·rfl) _
 | true =>
 have hv' : ((ks.length : Int) != d.vars) = false := by simp [bne, hv]
 have hve : (ks.length : Int) = d.vars := by simpa using hv
 by_cases hc0 : c < 0
 ·simp [h0, h1, h0', h1', hn, hdd, Dat.cs, hv', AV.isV, hget, hc0]
  exact hF (by rw [zcr, if_neg (fun h => by have := h.2.2; omega)]) _
 have hfe : ∀ o, (match d.cons[c.toNat]? with | some k => if (k.args.map (subst ks)).all (fun x => decide (x.nodes ≤ 200)) = true then some (k.args.map (subst ks)) else none | none => none) = o → za7 data (.mk 5 n ks) c = o := fun o h => by
  rw [zcr, if_pos ⟨rfl, h0', by omega⟩, hget]
  simp only
  rw [if_pos hve]
  exact h
 by_cases hc1 : (d.cons.length : Int) ≤ c
 ·simp [h0, h1, h0', h1', hn, hdd, Dat.cs, hv', AV.isV, hget, hc0, hc1]
  exact hF (hfe none (by rw [List.getElem?_eq_none (by omega)])) _
 have hcn : c.toNat < d.cons.length := by omega
 have hc1' : c < d.cons.length := by omega
 have hc0' : 0 ≤ c := by omega
 generalize hcc : d.cons[c.toNat] = co at *
 have hco : co ∈ d.cons := by rw [← hcc]; exact List.getElem_mem hcn
 have hgc : d.cons[c.toNat]? = some co := by rw [List.getElem?_eq_getElem hcn, hcc]
 obtain ⟨hal, han⟩ := hda d hd co hco
 have hfe' := fun o => hfe o
 rw [hgc] at hfe'
 simp only at hfe'
 have hsub : ∀ x ∈ co.args, (subst ks x).nodes ≤ 1000000 := fun x hx => by
  have h2 := ztZ (M := 1000) (by omega) (fun y hy => Nat.le_trans (zhK (k := 5) (n := n) y hy) ht) x
  have h3 := han x hx
  have : x.nodes * 1000 ≤ 1000 * 1000 := Nat.mul_le_mul_right _ h3
  omega
 simp [h0, h1, h0', h1', hn, hdd, Dat.cs, hv', AV.isV, hget, hc0, hc1, hc0', hc1', hcn, hcc, Con.cs, hgc]
 have hperm : ∀ m, HSc (H ++ [.cells [.int .i64 5, .int .i64 n, .sl (VT.css ks) .none], .perm zaO 3 m]) := fun m => hs.append rfl
 unfold zkm
 refine ALoop.own 8 zaO 3 rfl ?_
 have hlen1 : (H ++ [AB.cells [.int .i64 5, .int .i64 n, .sl (VT.css ks) .none]]).length = H.length + 1 := by simp
 rw [hlen1, List.append_assoc]
 show zkm (.ptr H.length 0) (.sl [] (.own (H.length + 1))) (.sl (VT.css co.args) .none) (.int .i64 co.args.length) (.int .i64 0) (H ++ [.cells [.int .i64 5, .int .i64 n, .sl (VT.css ks) .none], .perm zaO 3 0]) (Out H.length K)
 refine zIC (Inv := fun q t8 t65 H' => ∃ i : Nat, i ≤ co.args.length ∧ q = co.args.length - i ∧ t65 = .int .i64 i ∧ t8 = .sl (VT.css ((co.args.map (subst ks)).take i)) (.own (H.length + 1)) ∧ (∀ x ∈ co.args.take i, (subst ks x).nodes ≤ 200) ∧ H' = H ++ [.cells [.int .i64 5, .int .i64 n, .sl (VT.css ks) .none], .perm zaO 3 i]) co.args.length ?_ ?_
 ·intro _; exact ⟨0, by omega, by omega, rfl, by simp [VT.css], by simp, rfl⟩
 ·rintro q t8 t65 H' ⟨i, hi, rfl, rfl, rfl, hall, rfl⟩ hsc hlen hsF Kb hKb
  by_cases hlt : i < co.args.length
  ·have hmem := List.getElem_mem hlt
   have hx3 := hsub _ hmem
   obtain ⟨x, y, z, hvx, hx, hy, hz⟩ := zaX co.args[i]
   simp [zpE, hlt, hvx, hx, hy, hz]
   rw [← hvx]
   refine zLy ks (fun y hy => by have := zhK (k := 5) (n := n) y hy; omega) (by omega) _ co.args[i] (Nat.le_refl _) (by have := han _ hmem; omega) _ _ ?_
   obtain ⟨x', y', z', hvx', hx', hy', hz'⟩ := zaX (subst ks co.args[i])
   simp [hvx', hx', hy', hz']
   rw [← hvx']
   refine zxQ _ _ (Nat.le_refl _) (by omega) _ _ ?_
   by_cases h200 : (subst ks co.args[i]).nodes ≤ 200
   ·have h200' : ¬ (200 : Int) < (subst ks co.args[i]).nodes := by omega
    simp [h200']
    rw [zeg]
    simp [zat, zaI, zaE]
    refine ⟨by omega, by omega, ?_⟩
    rw [zam (by omega) (by omega), show min i co.args.length = i by omega]
    refine hKb _ _ ⟨co.args.length - (i + 1), by omega, Back.at (H2 := H ++ [.cells [.int .i64 5, .int .i64 n, .sl (VT.css ks) .none], .perm zaO 3 (i + 1)]) (J := [_, _]) (by simp; exact ⟨rfl, rfl⟩) (by simp) (hperm _) ?_ ⟨_, _, rfl, i + 1, by omega, rfl, by simp, ?_, zsB hlt hall h200, rfl⟩⟩
    ·simp [zkl, AV.sc, AV.scV, AV.scA, AV.scB]
    ·rw [zfS (by simpa using hlt)]; simp
   ·have h200' : (200 : Int) < (subst ks co.args[i]).nodes := by omega
    simp [h200', AV.isV]
    refine hF (hfe' none ?_) _
    rw [if_neg]
    intro hal2
    have := List.all_eq_true.1 hal2 (subst ks co.args[i]) (List.mem_map.2 ⟨_, hmem, rfl⟩)
    exact h200 (of_decide_eq_true this)
  ·obtain rfl : i = co.args.length := by omega
   rw [List.take_length] at hall
   rw [List.take_of_length_le (by simp)]
   simp [zpE, AV.isV]
   have hfs := hfe' (some (co.args.map (subst ks))) (if_pos (List.all_eq_true.2 fun y hy => by
    obtain ⟨x, hx, rfl⟩ := List.mem_map.1 hy
    exact decide_eq_true (hall x hx)))
   rw [hfs] at hK
   exact Out.tup hs hK ⟨slV, zaC rfl rfl, trivial⟩
end Go.Proofs.YtddlhljflggenaaGreatDoor
