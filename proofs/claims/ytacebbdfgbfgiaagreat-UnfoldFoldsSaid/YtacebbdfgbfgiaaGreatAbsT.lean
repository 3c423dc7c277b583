import Derived.Test.YtacebbdfgbfgiaaGreatKUK
import Derived.Test.YtacebbdfgbfgiaaGreatVO
import Derived.Deep.Slices
import Derived.DataReads
set_option linter.unusedSimpArgs false
set_option linter.unusedVariables false
namespace Go.Proofs.YtacebbdfgbfgiaaGreat
open Go Go.Abs
set_option maxRecDepth 8000
def zaI (data : List Dat) (l : List VT) (row : List IT) (j : Nat) : Int := zaP data (l.getD j tz) (row.getD j d0)
def zcP (data : List Dat) (t : VT) (c : Int) : Nat := (((data.getD t.num.toNat ⟨[], 0, []⟩).cons.getD c.toNat ⟨[], []⟩).args).length
open Classical in
noncomputable def zbi (data : List Dat) (t : VT) (c : Int) (row : List IT) : Int :=
 if zaX data t = false then 1 else if t.kind ≠ 5 then 6 else if c < 0 ∨ ((data.getD t.num.toNat ⟨[], 0, []⟩).cons.length : Int) ≤ c then 8
 else if row.length ≠ zcP data t c then 5 else match zaJ data t c with
  | none => 1
  | some l => if ∃ j, j < row.length ∧ zaI data l row j < 0 then 1 else if 1 + ((List.range row.length).map (zaI data l row)).sum > 6 then 13 else 0
theorem zwV (data : List Dat) (hk : zaZ data) (t : VT) (ht : t.nodes ≤ 1000) (H : zaa) (K : Kt) (hK : K (.tup [.agg (if zaX data t = true then zbp t else d0).cs, .bool (zaX data t)]) H) :
  ACalls tP zfB [.sl (data.map Dat.cs) .none, .agg t.cs] H K := by
 cases hf : zaX data t with
 | true => exact zr0 data hk t ht H K (fun _ => by simpa [hf] using hK) hf
 | false =>
  rw [hf] at hK
  refine ACalls.out (zrZ fun hs => ?_)
  obtain ⟨x, y, z, hvx, hx, hy, hz⟩ := zbd t
  simp [zmn, hvx, hx, hy, hz]
  rw [← hvx]
  refine ziU data hk t (by omega) _ _ ?_
  simp [hf, zal, zaB, AV.known]
  refine ⟨⟨rfl, rfl⟩, ?_⟩
  exact Out.tup (bs := [.agg [.int .i64 0, .sl [] .none], .bool false]) hs (by simpa [d0, IT.cs, IT.css] using hK) ⟨⟨WkV.agg ⟨.refl _, .snil, trivial⟩, rfl, rfl⟩, zaR rfl rfl, trivial⟩
theorem zbV {H J : zaa} {K : Kt} {e : Int} (hs : HSc H) (hK : K (.tup [.agg d0.cs, .int .i64 e]) H) : Out H.length K (.tup [.agg [.int .i64 0, .snil], .int .i64 e]) (H ++ J) :=
 Out.tup (bs := [.agg [.int .i64 0, .sl [] .none], .int .i64 e]) hs (by simpa [d0, IT.cs, IT.css] using hK) ⟨⟨WkV.agg ⟨.refl _, .snil, trivial⟩, rfl, rfl⟩, zaR rfl rfl, trivial⟩
theorem zgt {data : List Dat} (t : VT) (v : IT) : -1 ≤ zaP data t v ∧ zaP data t v ≤ 6 := by
 unfold zaP
 split
 ·rename_i hf
  exact zvK (h8 := zfm hf) v t
 ·omega
theorem zle (f : Nat → Int) (hf : ∀ j, f j ≤ 6) (hf0 : ∀ j, -1 ≤ f j) : ∀ i : Nat, -(i : Int) ≤ ((List.range i).map f).sum ∧ ((List.range i).map f).sum ≤ 6 * i
 | 0 => by simp
 | i + 1 => by
  have := zle f hf hf0 i
  have h1 := hf i
  have h2 := hf0 i
  rw [List.range_succ, List.map_append, List.sum_append]
  simp; omega
theorem zpW (a b : List IT) : zaA (a ++ b) = zaA a ++ zaA b := by simp [zaA, IT.css_map]
theorem zg6 {f : Nat → List IT} : ∀ (R : List Nat), (∀ j ∈ R, IT.nodesL (f j) ≤ 40) → IT.nodesL (R.map f).flatten ≤ 40 * R.length
 | [], _ => by simp [IT.nodesL]
 | r :: R, h => by
  have h1 := h r (by simp)
  have h2 := zg6 R (fun j hj => h j (by simp [hj]))
  rw [List.map_cons, List.flatten_cons, IT.nodesL_app, List.length_cons]; omega
theorem zg7 {f : Nat → IT} : ∀ (R : List Nat), (∀ j ∈ R, (f j).nodes ≤ 40) → IT.nodesL (R.map f) ≤ 40 * R.length
 | [], _ => by simp [IT.nodesL]
 | r :: R, h => by
  have h1 := h r (by simp)
  have h2 := zg7 R (fun j hj => h j (by simp [hj]))
  rw [List.map_cons, IT.nodesL, List.length_cons]; omega
theorem zuU {H X : zaa} {c : Int} {P R : List Nat} {row : List IT} (hs : HSc H) (hX : H <+: X) (hsx : HSc X) (hr : X[H.length + 1]? = some (.cells [.int .i64 0, .snil])) (hPl : ∀ j ∈ P, j < row.length) (hRl : ∀ j ∈ R, j < row.length) (hP8 : P.length ≤ 8) (hR8 : R.length ≤ 8)
  (hrn : ∀ v ∈ row, v.nodes ≤ 40) (K : Kt) (hK : K (.tup [.agg (zbu c P R row).cs, .int .i64 0]) H) :
  zf1 (.sl (IT.css row) .none) (.ptr (H.length + 1) 0) (.sl (zaz R) .none) (.ptr X.length 0) (.sl (zaz P) .none) (.int .i64 P.length) (.int .i64 0) (X ++ [.cells [.int .i64 c, .snil]]) (Out H.length K) := by
 have hXl : H.length + 1 < X.length := (List.getElem?_eq_some_iff.1 hr).1
 have hgd : ∀ j (hj : j < row.length), row.getD j d0 = row[j] := fun j hj => by simp [List.getD_eq_getElem?_getD, hj]
 unfold zf1
 refine ALoop.ownC X.length 1 zaw 2 (cs := [.int .i64 c, .snil]) (by simp) rfl ?_
 have hset : (X ++ [AB.cells [.int .i64 c, .snil]]).set X.length (.cells ([AV.int .i64 c, .snil].set 1 (.sl [] (.own (X ++ [AB.cells [.int .i64 c, .snil]]).length)))) ++ [.perm zaw 2 0] = X ++ [.cells [.int .i64 c, .sl [] (.own (X.length + 1))], .perm zaw 2 0] := by simp [List.set_append_right]
 rw [hset]
 show zf1 (.sl (IT.css row) .none) (.ptr (H.length + 1) 0) (.sl (zaz R) .none) (.ptr X.length 0) (.sl (zaz P) .none) (.int .i64 P.length) (.int .i64 0) _ (Out H.length K)
 have hscD : ∀ i (es : List (List AV)), HSc (X ++ [.cells [.int .i64 c, .sl es (.own (X.length + 1))], .perm zaw 2 i]) := fun i es => hsx.append (by simp [AB.sc, AV.scA, AV.scB])
 refine zzu (Inv := fun q t115 H' => ∃ i : Nat, i ≤ P.length ∧ q = P.length - i ∧ t115 = .int .i64 i ∧ H' = X ++ [.cells [.int .i64 c, .sl (IT.css ((P.take i).map fun j => row.getD j d0)) (.own (X.length + 1))], .perm zaw 2 i]) P.length ?_ ?_
 ·intro _; exact ⟨0, by omega, by omega, rfl, by simp [IT.css]⟩
 ·rintro q t115 H' ⟨i, hi, rfl, rfl, rfl⟩ hsc' hlen' hsF Kb hKb
  by_cases hlt : i < P.length
  ·have hPi := hPl _ (List.getElem_mem hlt)
   obtain ⟨x, y, hvx, hx, hy⟩ := zb2 row[P[i]]
   simp [zl0, zbo, zd3, hlt, hPi, hvx]
   rw [← hvx, zfc]
   simp [zat, zaW, zaK, Nat.min_eq_left hi, AV.known, List.set_append_right]
   refine ⟨⟨by omega, by omega⟩, ?_⟩
   rw [zan (by omega) (by omega)]
   have hst : IT.css ((P.take i).map fun j => row[j]?.getD d0) ++ [(row[P[i]]).cs] = IT.css ((P.take (i + 1)).map fun j => row.getD j d0) := by
    rw [List.take_succ_eq_append_getElem hlt, List.map_append, IT.css_map, IT.css_map, List.map_append]
    simp [List.getD_eq_getElem?_getD, hPi]
   refine hKb _ _ ⟨P.length - (i + 1), by omega, Back.at (J := []) (H2 := X ++ [.cells [.int .i64 c, .sl (IT.css ((P.take (i + 1)).map fun j => row.getD j d0)) (.own (X.length + 1))], .perm zaw 2 (i + 1)]) ?_ (by simp) (hscD _ _) ?_ ⟨_, rfl, i + 1, by omega, rfl, by simp, rfl⟩⟩
   ·rw [← hst]; simp [IT.css_map]
   ·simp [zh9, AV.sc, AV.scV, AV.scA, AV.scB]; omega
  ·obtain rfl : i = P.length := by omega
   rw [List.take_length]
   simp [zl0, zbo, zal, zaB, zcL, AV.oneK]
   have hpr : (P.map fun j => row[j]?.getD d0) = P.map fun j => row.getD j d0 := by simp [List.getD_eq_getElem?_getD]
   rw [hpr]
   generalize hprow : (P.map fun j => row.getD j d0) = prow at *
   have hkn : ∀ v ∈ row, v.nodes ≤ 40 := hrn
   have hkl : ∀ j ∈ R, (zaC (row.getD j d0)).length ≤ 40 := fun j hj => by
    rw [hgd j (hRl j hj)]
    have h1 := hrn _ (List.getElem_mem (hRl j hj))
    generalize row[j]'(hRl j hj) = x at *
    obtain ⟨m, kk⟩ := x
    have := IT.len_le kk
    simp only [IT.nodes, zaC] at *; omega
   have hflen : ∀ i, i ≤ R.length → (((R.take i).map fun j => zaC (row.getD j d0)).flatten).length ≤ 40 * i := fun i hi => by
    induction i with
    | zero => simp
    | succ i ih =>
     have := ih (by omega)
     rw [List.take_succ_eq_append_getElem (by omega), List.map_append, List.flatten_append, List.length_append]
     have h2 := hkl _ (List.getElem_mem (show i < R.length by omega))
     simp only [List.map_cons, List.map_nil, List.flatten_cons, List.flatten_nil, List.append_nil]
     omega
   have hscF : ∀ (fl : List IT), HSc (X ++ [AB.cells [.int .i64 c, .sl (IT.css prow) (.own (X.length + 1))], .perm zaw 2 P.length, .vec zaw 2 (1 + fl.length) ([.int .i64 c, .sl (IT.css prow) (.own (X.length + 1))] ++ zaA fl), .cells [.int .i64 0, .ov (X.length + 2) (1 + fl.length)]]) := fun fl => hsx.append (by simp [AB.sc, AV.scA, AV.scB, zhi])
   refine zzv (Inv := fun q t134 H' => ∃ i : Nat, i ≤ R.length ∧ q = R.length - i ∧ t134 = .int .i64 i ∧ H' = X ++ [AB.cells [.int .i64 c, .sl (IT.css prow) (.own (X.length + 1))], .perm zaw 2 P.length, .vec zaw 2 (1 + ((R.take i).map fun j => zaC (row.getD j d0)).flatten.length) ([.int .i64 c, .sl (IT.css prow) (.own (X.length + 1))] ++ zaA ((R.take i).map fun j => zaC (row.getD j d0)).flatten), .cells [.int .i64 0, .ov (X.length + 2) (1 + ((R.take i).map fun j => zaC (row.getD j d0)).flatten.length)]]) R.length ?_ ?_
   ·intro _; exact ⟨0, by omega, by omega, rfl, by simp [zaA, IT.css]⟩
   ·rintro q t134 H' ⟨i, hi, rfl, rfl, rfl⟩ hsc2 hlen2 hsF2 Kb2 hKb2
    have hfl := hflen i hi
    by_cases hlt : i < R.length
    ·have hRi := hRl _ (List.getElem_mem hlt)
     have hki := hkl _ (List.getElem_mem hlt)
     have hfs : ((R.take (i + 1)).map fun j => zaC (row.getD j d0)).flatten = ((R.take i).map fun j => zaC (row.getD j d0)).flatten ++ zaC (row.getD R[i] d0) := by
      rw [List.take_succ_eq_append_getElem hlt, List.map_append, List.flatten_append]; simp
     generalize ((R.take i).map fun j => zaC (row.getD j d0)).flatten = fl at *
     rw [hgd _ hRi] at hfs hki
     cases hx : row[R[i]] with
     | mk m kk =>
      rw [hx] at hfs hki
      rw [show zaC (IT.mk m kk) = kk from rfl] at hfs hki
      simp [zl1, zbo, zd3, hlt, hRi, hx, IT.cs]
      refine zn5 (cs := .int .i64 c :: .sl (IT.css prow) (.own (X.length + 1)) :: zaA fl) (by simp) (fun c hc => zdr hc) (by simp; omega) (by simp; omega) ?_
      simp [AV.known, List.set_append_right]
      rw [zan (by omega) (by omega)]
      refine hKb2 _ _ ⟨R.length - (i + 1), by omega, Back.at (J := []) (H2 := X ++ [AB.cells [.int .i64 c, .sl (IT.css prow) (.own (X.length + 1))], .perm zaw 2 P.length, .vec zaw 2 (1 + (fl ++ kk).length) ([.int .i64 c, .sl (IT.css prow) (.own (X.length + 1))] ++ zaA (fl ++ kk)), .cells [.int .i64 0, .ov (X.length + 2) (1 + (fl ++ kk).length)]]) ?_ (by simp) (hscF _) ?_ ⟨_, rfl, i + 1, by omega, rfl, by simp, by rw [hfs]⟩⟩
      ·simp [zpW, zgq, Nat.add_assoc]
      ·simp [zia, AV.sc, AV.scV, AV.scA, AV.scB]; omega
    ·obtain rfl : i = R.length := by omega
     rw [List.take_length]
     have hout : zbu c P R row = .mk 0 (.mk c prow :: (R.map fun j => zaC (row.getD j d0)).flatten) := by rw [← hprow]; rfl
     have hnF : IT.nodesL (R.map fun j => zaC (row.getD j d0)).flatten ≤ 40 * R.length := zg6 _ fun j hj => by
      rw [hgd j (hRl j hj)]
      have h1 := hrn _ (List.getElem_mem (hRl j hj))
      generalize row[j]'(hRl j hj) = x at *
      obtain ⟨m, kk⟩ := x
      simp only [IT.nodes, zaC] at *; omega
     have hnP : IT.nodesL prow ≤ 40 * P.length := by
      rw [← hprow]
      exact zg7 _ fun j hj => by rw [hgd j (hPl j hj)]; exact hrn _ (List.getElem_mem (hPl j hj))
     rw [hout] at hK
     generalize (R.map fun j => zaC (row.getD j d0)).flatten = fl at *
     simp [zl1, zbo]
     have hplain : zaD (AV.int .i64 c :: .sl (IT.css prow) (.own (X.length + 1)) :: zaA fl) = some (IT.css (.mk c prow :: fl)).flatten := by
      simp [zaD, AV.pd, zhe, IT.css, IT.cs, zgq]
     refine ACalls.frzV (X.length + 2) zaw 2 (1 + fl.length) (.int .i64 c :: .sl (IT.css prow) (.own (X.length + 1)) :: zaA fl) (IT.css (.mk c prow :: fl)) (by simp) hplain (by simp; omega) (fun c hc => zdr hc) ?_
     refine zsb _ (.mk 0 (.mk c prow :: fl)) (Nat.le_refl _) (by simp only [IT.nodes, IT.nodesL]; omega) _ _ ?_
     have hne : H.length + 1 < X.length := hXl
     simp [IT.cs, List.getElem?_append_left hne, hr, List.set_append_right]
     rw [List.getElem?_set_self (by simp; omega)]
     simp
     refine ⟨⟨rfl, rfl⟩, ?_⟩
     obtain ⟨J, hJ⟩ := zd5 (i := H.length + 1) (b := .cells [.int .i64 0, .sl (IT.css (.mk c prow :: fl)) .none]) (hX.trans (⟨_, rfl⟩ : X <+: X ++ [AB.cells [.int .i64 c, .sl (IT.css prow) (.own (X.length + 1))], .perm zaw 2 P.length, .dead, .cells [.int .i64 0, .ov (X.length + 2) (1 + fl.length)]])) (by omega)
     rw [← hJ]
     exact Out.tup (bs := [.agg [.int .i64 0, .sl (IT.css (.mk c prow :: fl)) .none], .int .i64 0]) hs hK ⟨zaR rfl (by simp [AV.scV, AV.scA, AV.scB]), zaR rfl rfl, trivial⟩
theorem zuQ {data : List Dat} {n : Int} {ks : List VT} {c : Int} {row : List IT} (hfine : zaX data (.mk 5 n ks) = true) (hnl : n.toNat < data.length) (h : ¬ (c < 0 ∨ (data[n.toNat].cons.length : Int) ≤ c)) :
  zbi data (.mk 5 n ks) c row = (if row.length ≠ zcP data (.mk 5 n ks) c then 5 else match zaJ data (.mk 5 n ks) c with
     | none => 1
     | some l => if ∃ j, j < row.length ∧ zaI data l row j < 0 then 1 else if 1 + ((List.range row.length).map (zaI data l row)).sum > 6 then 13 else 0) := by
 simp only [zbi, hfine, VT.kind, VT.num, Bool.true_eq_false, if_false, ne_eq, not_true_eq_false, List.getD_eq_getElem?_getD, List.getElem?_eq_getElem hnl, Option.getD_some]
 rw [if_neg h]
theorem zl3 (data : List Dat) (hk : zaZ data) (t : VT) (ht : t.nodes ≤ 1000) (c : Int) (row : List IT) (hrl : row.length ≤ 8) (hrn : ∀ v ∈ row, v.nodes ≤ 40) (H : zaa) (K : Kt)
  (hbad : ∀ e, e ≠ 0 → zbi data t c row = e → K (.tup [.agg d0.cs, .int .i64 e]) H)
  (hgood : zbi data t c row = 0 → ∃ l bs, zaJ data t c = some l ∧ l.length = bs.length ∧ l.length ≤ 8 ∧
   (∀ H K, K (.sl (za0 bs) .none) H → ACalls tP zcD [.sl (data.map Dat.cs) .none, .int .i64 t.num, .int .i64 c] H K) ∧
   K (.tup [.agg (zbu c (pos false bs bs.length) (pos true bs bs.length) row).cs, .int .i64 0]) H) :
  ACalls tP zfA [.sl (data.map Dat.cs) .none, .agg t.cs, .int .i64 c, .sl (IT.css row) .none] H K := by
 refine ACalls.out (zzz fun hs => ?_)
 obtain ⟨f1, f2, f3⟩ := zc8 hk
 obtain ⟨k, n, ks⟩ := t
 simp [zrB, VT.cs, Nat.add_assoc]
 refine zwV data hk (.mk k n ks) ht _ _ ?_
 obtain ⟨tx, ty, htv, htx, hty⟩ := zb2 (if zaX data (.mk k n ks) = true then zbp (.mk k n ks) else d0)
 have htsc : tx.scA (H.length + 3) = true ∧ ty.scA (H.length + 3) = true := by
  have := (if zaX data (.mk k n ks) = true then zbp (.mk k n ks) else d0).cs_scA (H.length + 3)
  rw [htv] at this
  simpa using this
 rw [htv]
 cases hfine : zaX data (.mk k n ks) with
 | false =>
  simp [htx, hty, zal, zaB]
  exact ⟨⟨rfl, rfl⟩, zbV hs (hbad 1 (by decide) (by simp [zbi, hfine]))⟩
 | true =>
  simp [htx, hty, zal, zaB]
  by_cases h5 : k = 5
  ·subst h5
   obtain ⟨hn0, hnl⟩ := zlo (by unfold zaX at hfine; rw [Bool.and_eq_true] at hfine; exact hfine.2)
   have hnl2 : n < (data.length : Int) := by omega
   have hbad8 : (c < 0 ∨ (data[n.toNat].cons.length : Int) ≤ c) → K (.tup [.agg d0.cs, .int .i64 8]) H := fun h => hbad 8 (by decide) (by
    simp only [zbi, hfine, VT.kind, VT.num, Bool.true_eq_false, if_false, ne_eq, not_true_eq_false, List.getD_eq_getElem?_getD, List.getElem?_eq_getElem hnl, Option.getD_some]
    rw [if_pos h])
   by_cases hc0 : c < 0
   ·simp [hc0, zal, zaB]
    exact ⟨⟨rfl, rfl⟩, zbV hs (hbad8 (.inl hc0))⟩
   by_cases hc8 : (data[n.toNat].cons.length : Int) ≤ c
   ·simp [hc0, hn0, hnl2, List.getElem?_eq_getElem hnl, Dat.cs, hc8, zal, zaB]
    exact ⟨⟨rfl, rfl⟩, zbV hs (hbad8 (.inr hc8))⟩
   have hcl : c.toNat < data[n.toNat].cons.length := by omega
   have hc0' : 0 ≤ c := by omega
   have hcl2 : c < (data[n.toNat].cons.length : Int) := by omega
   have hN : zcP data (.mk 5 n ks) c = (data[n.toNat].cons[c.toNat]).args.length := by
    simp [zcP, VT.num, List.getD_eq_getElem?_getD, hnl, hcl]
   simp [hc0, hc0', hcl2, hn0, hnl2, List.getElem?_eq_getElem hnl, List.getElem?_eq_getElem hcl, Dat.cs, Con.cs, hc8]
   have hF : zbi data (.mk 5 n ks) c row = (if row.length ≠ zcP data (.mk 5 n ks) c then 5 else match zaJ data (.mk 5 n ks) c with
     | none => 1
     | some l => if ∃ j, j < row.length ∧ zaI data l row j < 0 then 1 else if 1 + ((List.range row.length).map (zaI data l row)).sum > 6 then 13 else 0) := by
    simp only [zbi, hfine, VT.kind, VT.num, Bool.true_eq_false, if_false, ne_eq, not_true_eq_false, List.getD_eq_getElem?_getD, List.getElem?_eq_getElem hnl, Option.getD_some]
    rw [if_neg (by omega)]
   by_cases hra : row.length = (data[n.toNat].cons[c.toNat]).args.length
   ·simp [hra]
    rw [if_neg (by rw [hN]; exact fun h => h hra)] at hF
    refine zin data f1 f2 f3 (.mk 5 n ks) ht c _ _ ?_
    cases hf : zaJ data (.mk 5 n ks) c with
    | none =>
     rw [hf] at hF
     simp [zbB, zal, zaB]
     exact ⟨⟨rfl, rfl⟩, zbV hs (hbad 1 (by decide) hF)⟩
    | some l =>
     rw [hf] at hF
     simp only at hF
     obtain ⟨bs0, hlb0, _, _, h200, _, _, _, _, _, hnl3, hcl3, hla⟩ := zhc hk hf
     have hlr : l.length = row.length := by rw [hla, hra]
     rw [← hra]
     simp [zbB]
     have hD6 : ∀ j, zaI data l row j ≤ 6 := fun j => (zgt _ _).2
     have hD1 : ∀ j, -1 ≤ zaI data l row j := fun j => (zgt _ _).1
     have hSl := zle (zaI data l row) hD6 hD1
     refine zzt (Inv := fun q t14 t81 H' => ∃ i : Nat, i ≤ row.length ∧ q = row.length - i ∧ t14 = .int .i64 (1 + ((List.range i).map (zaI data l row)).sum) ∧ t81 = .int .i64 i ∧ (∀ j, j < i → 0 ≤ zaI data l row j) ∧ H' = H ++ [AB.cells [.int .i64 5, .int .i64 n, .sl (VT.css ks) .none], .cells [.int .i64 0, .snil], .cells [tx, ty]]) row.length ?_ ?_
     ·intro _; exact ⟨0, by omega, by omega, by simp, rfl, fun j hj => by omega, rfl⟩
     ·rintro q t14 t81 H' ⟨i, hi, rfl, rfl, rfl, hval, rfl⟩ hsc hlen' hsF Kb hKb
      have hSi := hSl i
      by_cases hlt : i < row.length
      ·have hil : i < l.length := by omega
       obtain ⟨x, y, hvx, hx, hy⟩ := zb2 row[i]
       have hdj : zaI data l row i = zaP data l[i] row[i] := by simp [zaI, List.getD_eq_getElem?_getD, hil, hlt]
       have hmr := List.getElem_mem hlt
       simp [zh7, hlt, hil, hvx, hx, hy]
       rw [← hvx]
       refine zbF (.int .i64 (zaP data l[i] row[i])) (fun J => zsl data hk _ (by have := h200 _ (List.getElem_mem hil); omega) _ (by have := hrn _ hmr; omega) _ _ ⟨rfl, rfl⟩) ?_
       rw [← hdj]
       by_cases hneg : zaI data l row i < 0
       ·simp [hneg, zal, zaB, List.set_append_right]
        exact ⟨⟨rfl, rfl⟩, zbV hs (hbad 1 (by decide) (by rw [hF, if_pos ⟨i, hlt, hneg⟩]))⟩
       ·simp [hneg]
        have hd6 := hD6 i
        rw [zan (by omega) (by omega), zan (by omega) (by omega)]
        have hsum : 1 + ((List.range i).map (zaI data l row)).sum + zaI data l row i = 1 + ((List.range (i + 1)).map (zaI data l row)).sum := by
         rw [List.range_succ, List.map_append, List.sum_append]; simp; omega
        rw [hsum]
        refine hKb _ _ ⟨row.length - (i + 1), by omega, Back.at (J := [.cells (row[i]).cs]) (H2 := H ++ [AB.cells [.int .i64 5, .int .i64 n, .sl (VT.css ks) .none], .cells [.int .i64 0, .snil], .cells [tx, ty]]) (by simp) (by simp) (hs.append (by simp [AB.sc, AV.scA, AV.scB]; exact htsc)) ?_ ⟨_, _, rfl, i + 1, by omega, rfl, rfl, by simp, fun j hj => ?_, rfl⟩⟩
        ·simp [zh8, AV.sc, AV.scV, AV.scA, AV.scB]
        ·by_cases hji : j = i
         ·subst hji; omega
         ·exact hval j (by omega)
      ·obtain rfl : i = row.length := by omega
       have hno : ¬ ∃ j, j < row.length ∧ zaI data l row j < 0 := fun ⟨j, hj, h⟩ => by have := hval j hj; omega
       rw [if_neg hno] at hF
       by_cases h6 : 1 + ((List.range row.length).map (zaI data l row)).sum > 6
       ·have h6' : decide (6 < 1 + ((List.range row.length).map (zaI data l row)).sum) = true := by simpa using h6
        simp [zh7, h6', zal, zaB, List.set_append_right]
        exact ⟨⟨rfl, rfl⟩, zbV hs (hbad 13 (by decide) (by rw [hF, if_pos h6]))⟩
       ·have h6' : decide (6 < 1 + ((List.range row.length).map (zaI data l row)).sum) = false := by simpa using h6
        rw [if_neg h6] at hF
        obtain ⟨l', bs, hf', hlb, hl8, hrec, hK⟩ := hgood hF
        rw [hf] at hf'
        cases hf'
        simp [zh7, h6']
        refine zrY data hk 5 n ks ht c hf hlb hl8 hfine hrec _ _ ?_
        have hPl : ∀ j ∈ pos false bs bs.length, j < row.length := fun j hj => by have := zcH hj; omega
        have hRl : ∀ j ∈ pos true bs bs.length, j < row.length := fun j hj => by have := zcH hj; omega
        have hP8 := zca false bs bs.length
        have hR8 := zca true bs bs.length
        generalize pos false bs bs.length = P at *
        generalize pos true bs bs.length = R at *
        simp [zbo, zal, zaB, Nat.add_assoc]
        have := zuU (X := H ++ [AB.cells [.int .i64 5, .int .i64 n, .sl (VT.css ks) .none], .cells [.int .i64 0, .snil], .cells [tx, ty]]) (c := c) (P := P) (R := R) (row := row) hs ⟨_, rfl⟩ (hs.append (by simp [AB.sc, AV.scA, AV.scB]; exact htsc)) (by simp) hPl hRl (by omega) (by omega) hrn K hK
        simpa using this
   ·have hb5 : ((row.length : Int) != (data[n.toNat].cons[c.toNat]).args.length) = true := by simp; omega
    simp [hb5, zal, zaB]
    exact ⟨⟨rfl, rfl⟩, zbV hs (hbad 5 (by decide) (by rw [hF, if_pos (by rw [hN]; exact hra)]))⟩
  ·have hb : (k != 5) = true := by simpa using h5
   simp [hb, zal, zaB]
   exact ⟨⟨rfl, rfl⟩, zbV hs (hbad 6 (by decide) (by simp [zbi, hfine, VT.kind, h5]))⟩
theorem zBA (data : List Dat) (hk : zaZ data) (k n : Int) (ks : List VT) (ht : (VT.mk k n ks).nodes ≤ 1000) (c : Int) {l : List VT} {bs : List Bool} (hf : zaJ data (.mk k n ks) c = some l)
  (hlb : l.length = bs.length) (hl8 : l.length ≤ 8) (hfine : zaX data (.mk k n ks) = true) (hrec : ∀ H K, K (.sl (za0 bs) .none) H → ACalls tP zdA [.sl (data.map Dat.cs) .none, .int .i64 n, .int .i64 c] H K) (H : zaa) (K : Kt)
  (hK : K (.tup [.sl (zaz (pos false bs bs.length)) .none, .sl (zaz (pos true bs bs.length)) .none, .bool true]) H) :
  ACalls tP zkH [.sl (data.map Dat.cs) .none, .agg (VT.mk k n ks).cs, .int .i64 c] H K := by
 refine ACalls.out (zBz fun hs => ?_)
 simp [zsm, VT.cs]
 refine zmx data hk (.mk k n ks) (by omega) _ _ ?_
 simp [hfine]
 refine zsT data hk k n ks ht c hf hlb hl8 hrec _ _ ?_
 simp
 try refine ⟨⟨rfl, rfl, rfl⟩, ?_⟩
 exact Out.tup (bs := [.sl (zaz (pos false bs bs.length)) .none, .sl (zaz (pos true bs bs.length)) .none, .bool true]) hs hK ⟨slV, slV, zaR rfl rfl, trivial⟩
theorem zvM {data : List Dat} (hk : zaZ data) {t : VT} (ht : t.nodes ≤ 1000) {H X : zaa} {c : Int} {P R : List Nat} {row : List IT} (hs : HSc H) (hX : H <+: X) (hsx : HSc X) (hrt : X[H.length]? = some (.cells t.cs)) (hr : X[H.length + 1]? = some (.cells [.int .i64 0, .snil])) (hPl : ∀ j ∈ P, j < row.length) (hRl : ∀ j ∈ R, j < row.length) (hP8 : P.length ≤ 8) (hR8 : R.length ≤ 8)
  (hrn : ∀ v ∈ row, v.nodes ≤ 40) (K : Kt) (hK : zaP data t (zbu c P R row) < 0 → K (.tup [.agg d0.cs, .int .i64 13]) H) (hK2 : 0 ≤ zaP data t (zbu c P R row) → K (.tup [.agg (zbu c P R row).cs, .int .i64 0]) H) :
  zf2 (.sl (data.map Dat.cs) .none) (.sl (IT.css row) .none) (.ptr H.length 0) (.ptr (H.length + 1) 0) (.sl (zaz R) .none) (.ptr X.length 0) (.sl (zaz P) .none) (.int .i64 P.length) (.int .i64 0) (X ++ [.cells [.int .i64 c, .snil]]) (Out H.length K) := by
 have hXl : H.length + 1 < X.length := (List.getElem?_eq_some_iff.1 hr).1
 have hgd : ∀ j (hj : j < row.length), row.getD j d0 = row[j] := fun j hj => by simp [List.getD_eq_getElem?_getD, hj]
 unfold zf2
 refine ALoop.ownC X.length 1 zaw 2 (cs := [.int .i64 c, .snil]) (by simp) rfl ?_
 have hset : (X ++ [AB.cells [.int .i64 c, .snil]]).set X.length (.cells ([AV.int .i64 c, .snil].set 1 (.sl [] (.own (X ++ [AB.cells [.int .i64 c, .snil]]).length)))) ++ [.perm zaw 2 0] = X ++ [.cells [.int .i64 c, .sl [] (.own (X.length + 1))], .perm zaw 2 0] := by simp [List.set_append_right]
 rw [hset]
 show zf2 (.sl (data.map Dat.cs) .none) (.sl (IT.css row) .none) (.ptr H.length 0) (.ptr (H.length + 1) 0) (.sl (zaz R) .none) (.ptr X.length 0) (.sl (zaz P) .none) (.int .i64 P.length) (.int .i64 0) _ (Out H.length K)
 have hscD : ∀ i (es : List (List AV)), HSc (X ++ [.cells [.int .i64 c, .sl es (.own (X.length + 1))], .perm zaw 2 i]) := fun i es => hsx.append (by simp [AB.sc, AV.scA, AV.scB])
 refine zzH (Inv := fun q t100 H' => ∃ i : Nat, i ≤ P.length ∧ q = P.length - i ∧ t100 = .int .i64 i ∧ H' = X ++ [.cells [.int .i64 c, .sl (IT.css ((P.take i).map fun j => row.getD j d0)) (.own (X.length + 1))], .perm zaw 2 i]) P.length ?_ ?_
 ·intro _; exact ⟨0, by omega, by omega, rfl, by simp [IT.css]⟩
 ·rintro q t100 H' ⟨i, hi, rfl, rfl, rfl⟩ hsc' hlen' hsF Kb hKb
  by_cases hlt : i < P.length
  ·have hPi := hPl _ (List.getElem_mem hlt)
   obtain ⟨x, y, hvx, hx, hy⟩ := zb2 row[P[i]]
   simp [zl5, zbo, zd3, hlt, hPi, hvx]
   rw [← hvx, zfc]
   simp [zat, zaW, zaK, Nat.min_eq_left hi, AV.known, List.set_append_right]
   refine ⟨⟨by omega, by omega⟩, ?_⟩
   rw [zan (by omega) (by omega)]
   have hst : IT.css ((P.take i).map fun j => row[j]?.getD d0) ++ [(row[P[i]]).cs] = IT.css ((P.take (i + 1)).map fun j => row.getD j d0) := by
    rw [List.take_succ_eq_append_getElem hlt, List.map_append, IT.css_map, IT.css_map, List.map_append]
    simp [List.getD_eq_getElem?_getD, hPi]
   refine hKb _ _ ⟨P.length - (i + 1), by omega, Back.at (J := []) (H2 := X ++ [.cells [.int .i64 c, .sl (IT.css ((P.take (i + 1)).map fun j => row.getD j d0)) (.own (X.length + 1))], .perm zaw 2 (i + 1)]) ?_ (by simp) (hscD _ _) ?_ ⟨_, rfl, i + 1, by omega, rfl, by simp, rfl⟩⟩
   ·rw [← hst]; simp [IT.css_map]
   ·simp [zic, AV.sc, AV.scV, AV.scA, AV.scB]; omega
  ·obtain rfl : i = P.length := by omega
   rw [List.take_length]
   simp [zl5, zbo, zal, zaB, zcL, AV.oneK]
   have hpr : (P.map fun j => row[j]?.getD d0) = P.map fun j => row.getD j d0 := by simp [List.getD_eq_getElem?_getD]
   rw [hpr]
   generalize hprow : (P.map fun j => row.getD j d0) = prow at *
   have hkn : ∀ v ∈ row, v.nodes ≤ 40 := hrn
   have hkl : ∀ j ∈ R, (zaC (row.getD j d0)).length ≤ 40 := fun j hj => by
    rw [hgd j (hRl j hj)]
    have h1 := hrn _ (List.getElem_mem (hRl j hj))
    generalize row[j]'(hRl j hj) = x at *
    obtain ⟨m, kk⟩ := x
    have := IT.len_le kk
    simp only [IT.nodes, zaC] at *; omega
   have hflen : ∀ i, i ≤ R.length → (((R.take i).map fun j => zaC (row.getD j d0)).flatten).length ≤ 40 * i := fun i hi => by
    induction i with
    | zero => simp
    | succ i ih =>
     have := ih (by omega)
     rw [List.take_succ_eq_append_getElem (by omega), List.map_append, List.flatten_append, List.length_append]
     have h2 := hkl _ (List.getElem_mem (show i < R.length by omega))
     simp only [List.map_cons, List.map_nil, List.flatten_cons, List.flatten_nil, List.append_nil]
     omega
   have hscF : ∀ (fl : List IT), HSc (X ++ [AB.cells [.int .i64 c, .sl (IT.css prow) (.own (X.length + 1))], .perm zaw 2 P.length, .vec zaw 2 (1 + fl.length) ([.int .i64 c, .sl (IT.css prow) (.own (X.length + 1))] ++ zaA fl), .cells [.int .i64 0, .ov (X.length + 2) (1 + fl.length)]]) := fun fl => hsx.append (by simp [AB.sc, AV.scA, AV.scB, zhi])
   refine zzI (Inv := fun q t119 H' => ∃ i : Nat, i ≤ R.length ∧ q = R.length - i ∧ t119 = .int .i64 i ∧ H' = X ++ [AB.cells [.int .i64 c, .sl (IT.css prow) (.own (X.length + 1))], .perm zaw 2 P.length, .vec zaw 2 (1 + ((R.take i).map fun j => zaC (row.getD j d0)).flatten.length) ([.int .i64 c, .sl (IT.css prow) (.own (X.length + 1))] ++ zaA ((R.take i).map fun j => zaC (row.getD j d0)).flatten), .cells [.int .i64 0, .ov (X.length + 2) (1 + ((R.take i).map fun j => zaC (row.getD j d0)).flatten.length)]]) R.length ?_ ?_
   ·intro _; exact ⟨0, by omega, by omega, rfl, by simp [zaA, IT.css]⟩
   ·rintro q t119 H' ⟨i, hi, rfl, rfl, rfl⟩ hsc2 hlen2 hsF2 Kb2 hKb2
    have hfl := hflen i hi
    by_cases hlt : i < R.length
    ·have hRi := hRl _ (List.getElem_mem hlt)
     have hki := hkl _ (List.getElem_mem hlt)
     have hfs : ((R.take (i + 1)).map fun j => zaC (row.getD j d0)).flatten = ((R.take i).map fun j => zaC (row.getD j d0)).flatten ++ zaC (row.getD R[i] d0) := by
      rw [List.take_succ_eq_append_getElem hlt, List.map_append, List.flatten_append]; simp
     generalize ((R.take i).map fun j => zaC (row.getD j d0)).flatten = fl at *
     rw [hgd _ hRi] at hfs hki
     cases hx : row[R[i]] with
     | mk m kk =>
      rw [hx] at hfs hki
      rw [show zaC (IT.mk m kk) = kk from rfl] at hfs hki
      simp [zl6, zbo, zd3, hlt, hRi, hx, IT.cs]
      refine zn5 (cs := .int .i64 c :: .sl (IT.css prow) (.own (X.length + 1)) :: zaA fl) (by simp) (fun c hc => zdr hc) (by simp; omega) (by simp; omega) ?_
      simp [AV.known, List.set_append_right]
      rw [zan (by omega) (by omega)]
      refine hKb2 _ _ ⟨R.length - (i + 1), by omega, Back.at (J := []) (H2 := X ++ [AB.cells [.int .i64 c, .sl (IT.css prow) (.own (X.length + 1))], .perm zaw 2 P.length, .vec zaw 2 (1 + (fl ++ kk).length) ([.int .i64 c, .sl (IT.css prow) (.own (X.length + 1))] ++ zaA (fl ++ kk)), .cells [.int .i64 0, .ov (X.length + 2) (1 + (fl ++ kk).length)]]) ?_ (by simp) (hscF _) ?_ ⟨_, rfl, i + 1, by omega, rfl, by simp, by rw [hfs]⟩⟩
      ·simp [zpW, zgq, Nat.add_assoc]
      ·simp [zid, AV.sc, AV.scV, AV.scA, AV.scB]; omega
    ·obtain rfl : i = R.length := by omega
     rw [List.take_length]
     have hout : zbu c P R row = .mk 0 (.mk c prow :: (R.map fun j => zaC (row.getD j d0)).flatten) := by rw [← hprow]; rfl
     have hnF : IT.nodesL (R.map fun j => zaC (row.getD j d0)).flatten ≤ 40 * R.length := zg6 _ fun j hj => by
      rw [hgd j (hRl j hj)]
      have h1 := hrn _ (List.getElem_mem (hRl j hj))
      generalize row[j]'(hRl j hj) = x at *
      obtain ⟨m, kk⟩ := x
      simp only [IT.nodes, zaC] at *; omega
     have hnP : IT.nodesL prow ≤ 40 * P.length := by
      rw [← hprow]
      exact zg7 _ fun j hj => by rw [hgd j (hPl j hj)]; exact hrn _ (List.getElem_mem (hPl j hj))
     rw [hout] at hK hK2
     generalize (R.map fun j => zaC (row.getD j d0)).flatten = fl at *
     have hne : H.length + 1 < X.length := hXl
     have hne0 : H.length < X.length := by omega
     obtain ⟨x, y, z, hvx, hx, hy, hz⟩ := zbd t
     have hnT : (IT.mk 0 (.mk c prow :: fl)).nodes ≤ 900 := by simp only [IT.nodes, IT.nodesL]; omega
     have hplain : zaD (AV.int .i64 c :: .sl (IT.css prow) (.own (X.length + 1)) :: zaA fl) = some (IT.css (.mk c prow :: fl)).flatten := by
      simp [zaD, AV.pd, zhe, IT.css, IT.cs, zgq]
     simp [zl6, zbo, List.getElem?_append_left hne0, hrt, hvx, hx, hy, hz]
     rw [← hvx]
     have hrd : All2 (RdT (X ++ [AB.cells [.int .i64 c, .sl (IT.css prow) (.own (X.length + 1))], .perm zaw 2 P.length, .vec zaw 2 (1 + fl.length) (.int .i64 c :: .sl (IT.css prow) (.own (X.length + 1)) :: zaA fl), .cells [.int .i64 0, .ov (X.length + 2) (1 + fl.length)]])) [.sl (data.map Dat.cs) .none, .agg t.cs, .agg [.int .i64 0, .ov (X.length + 2) (1 + fl.length)]] [.sl (data.map Dat.cs) .none, .agg t.cs, .agg (IT.mk 0 (.mk c prow :: fl)).cs] := by
      refine ⟨.one (.sl _), .agg ?_, .agg ⟨.int _ _, .ov (X.length + 2) zaw 2 _ (.int .i64 c :: .sl (IT.css prow) (.own (X.length + 1)) :: zaA fl) (IT.css (.mk c prow :: fl)) (by simp) hplain (by simp; omega) (fun c hc => zdr hc), trivial⟩, trivial⟩
      obtain ⟨k, n, ks⟩ := t
      exact ⟨.int _ _, .int _ _, .sl _, trivial⟩
     refine ACalls.pureR (zsd data hk t ht (.mk 0 (.mk c prow :: fl)) hnT [] _ rfl) trivial hrd ?_
     by_cases hd : zaP data t (.mk 0 (.mk c prow :: fl)) < 0
     ·have hd' : decide (0 ≤ zaP data t (.mk 0 (.mk c prow :: fl))) = false := by simpa using hd
      simp [hd', zal, zaB, List.getElem?_append_left hne, hr]
      rw [List.getElem?_set_self (by simp; omega)]
      simp
      refine ⟨⟨rfl, rfl⟩, ?_⟩
      obtain ⟨J, hJ⟩ := zd5 (i := H.length + 1) (b := .cells [.int .i64 0, .snil]) (hX.trans (⟨_, rfl⟩ : X <+: X ++ [AB.cells [.int .i64 c, .sl (IT.css prow) (.own (X.length + 1))], .perm zaw 2 P.length, .vec zaw 2 (1 + fl.length) (.int .i64 c :: .sl (IT.css prow) (.own (X.length + 1)) :: zaA fl), .cells [.int .i64 0, .ov (X.length + 2) (1 + fl.length)]])) (by omega)
      rw [← hJ]
      exact zbV hs (hK hd)
     ·have hd' : decide (0 ≤ zaP data t (.mk 0 (.mk c prow :: fl))) = true := by simpa using hd
      have hK := hK2 (by omega)
      simp [hd']
      refine ACalls.frzV (X.length + 2) zaw 2 (1 + fl.length) (.int .i64 c :: .sl (IT.css prow) (.own (X.length + 1)) :: zaA fl) (IT.css (.mk c prow :: fl)) (by simp) hplain (by simp; omega) (fun c hc => zdr hc) ?_
      refine zBt _ (.mk 0 (.mk c prow :: fl)) (Nat.le_refl _) (by omega) _ _ ?_
      simp [IT.cs, List.getElem?_append_left hne, hr, List.set_append_right]
      rw [List.getElem?_set_self (by simp; omega)]
      simp
      refine ⟨⟨rfl, rfl⟩, ?_⟩
      obtain ⟨J, hJ⟩ := zd5 (i := H.length + 1) (b := .cells [.int .i64 0, .sl (IT.css (.mk c prow :: fl)) .none]) (hX.trans (⟨_, rfl⟩ : X <+: X ++ [AB.cells [.int .i64 c, .sl (IT.css prow) (.own (X.length + 1))], .perm zaw 2 P.length, .dead, .cells [.int .i64 0, .ov (X.length + 2) (1 + fl.length)]])) (by omega)
      rw [← hJ]
      exact Out.tup (bs := [.agg [.int .i64 0, .sl (IT.css (.mk c prow :: fl)) .none], .int .i64 0]) hs hK ⟨zaR rfl (by simp [AV.scV, AV.scA, AV.scB]), zaR rfl rfl, trivial⟩
theorem zl8 (data : List Dat) (hk : zaZ data) (t : VT) (ht : t.nodes ≤ 1000) (c : Int) (row : List IT) (hrl : row.length ≤ 8) (hrn : ∀ v ∈ row, v.nodes ≤ 40) (H : zaa) (K : Kt)
  (hbad : ∀ e, e ≠ 0 → zbi data t c row = e → K (.tup [.agg d0.cs, .int .i64 e]) H)
  (hgood : ∀ l, zaJ data t c = some l → ∃ bs, l.length = bs.length ∧ l.length ≤ 8 ∧
   (∀ H K, K (.sl (za0 bs) .none) H → ACalls tP zdA [.sl (data.map Dat.cs) .none, .int .i64 t.num, .int .i64 c] H K) ∧
   zbg data t c = some (pick l bs) ∧ (∀ j, bs.getD j false = true → l.getD j tz = .mk 5 t.num t.kids) ∧
   (zbi data t c row = 0 → K (.tup [.agg (zbu c (pos false bs bs.length) (pos true bs bs.length) row).cs, .int .i64 0]) H)) :
  ACalls tP zgF [.sl (data.map Dat.cs) .none, .agg t.cs, .int .i64 c, .sl (IT.css row) .none] H K := by
 refine ACalls.out (zzM fun hs => ?_)
 obtain ⟨f1, f2, f3⟩ := zc8 hk
 obtain ⟨k, n, ks⟩ := t
 simp [zrE, VT.cs, Nat.add_assoc]
 refine zmx data hk (.mk k n ks) (by omega) _ _ ?_
 cases hfine : zaX data (.mk k n ks) with
 | false =>
  simp [zal, zaB]
  exact ⟨⟨rfl, rfl⟩, zbV hs (hbad 1 (by decide) (by simp [zbi, hfine]))⟩
 | true =>
  simp [zal, zaB]
  by_cases h5 : k = 5
  ·subst h5
   obtain ⟨hn0, hnl⟩ := zlo (by unfold zaX at hfine; rw [Bool.and_eq_true] at hfine; exact hfine.2)
   have hnl2 : n < (data.length : Int) := by omega
   have hbad8 : (c < 0 ∨ (data[n.toNat].cons.length : Int) ≤ c) → K (.tup [.agg d0.cs, .int .i64 8]) H := fun h => hbad 8 (by decide) (by
    simp only [zbi, hfine, VT.kind, VT.num, Bool.true_eq_false, if_false, ne_eq, not_true_eq_false, List.getD_eq_getElem?_getD, List.getElem?_eq_getElem hnl, Option.getD_some]
    rw [if_pos h])
   by_cases hc0 : c < 0
   ·simp [hc0, zal, zaB]
    exact ⟨⟨rfl, rfl⟩, zbV hs (hbad8 (.inl hc0))⟩
   by_cases hc8 : (data[n.toNat].cons.length : Int) ≤ c
   ·simp [hc0, hn0, hnl2, List.getElem?_eq_getElem hnl, Dat.cs, hc8, zal, zaB]
    exact ⟨⟨rfl, rfl⟩, zbV hs (hbad8 (.inr hc8))⟩
   have hcl : c.toNat < data[n.toNat].cons.length := by omega
   have hc0' : 0 ≤ c := by omega
   have hcl2 : c < (data[n.toNat].cons.length : Int) := by omega
   have hN : zcP data (.mk 5 n ks) c = (data[n.toNat].cons[c.toNat]).args.length := by
    simp [zcP, VT.num, List.getD_eq_getElem?_getD, hnl, hcl]
   simp [hc0, hc0', hcl2, hn0, hnl2, List.getElem?_eq_getElem hnl, List.getElem?_eq_getElem hcl, Dat.cs, Con.cs, hc8]
   have hF := zuQ (row := row) hfine hnl (c := c) (by omega)
   by_cases hra : row.length = (data[n.toNat].cons[c.toNat]).args.length
   ·simp [hra]
    rw [if_neg (by rw [hN]; exact fun h => h hra)] at hF
    refine zlT data f1 f2 f3 (.mk 5 n ks) ht c _ _ ?_
    cases hf : zaJ data (.mk 5 n ks) c with
    | none =>
     rw [hf] at hF
     simp [zbB, zal, zaB]
     exact ⟨⟨rfl, rfl⟩, zbV hs (hbad 1 (by decide) hF)⟩
    | some l =>
     rw [hf] at hF
     simp only at hF
     obtain ⟨bs0, hlb0, _, _, h200, _, _, _, _, _, hnl3, hcl3, hla⟩ := zhc hk hf
     have hlr : l.length = row.length := by rw [hla, hra]
     rw [← hra]
     simp [zbB]
     have hD6 : ∀ j, zaI data l row j ≤ 6 := fun j => (zgt _ _).2
     have hD1 : ∀ j, -1 ≤ zaI data l row j := fun j => (zgt _ _).1
     have hSl := zle (zaI data l row) hD6 hD1
     refine zzG (Inv := fun q t72 H' => ∃ i : Nat, i ≤ row.length ∧ q = row.length - i ∧ t72 = .int .i64 i ∧ (∀ j, j < i → 0 ≤ zaI data l row j) ∧ H' = H ++ [AB.cells [.int .i64 5, .int .i64 n, .sl (VT.css ks) .none], .cells [.int .i64 0, .snil]]) row.length ?_ ?_
     ·intro _; exact ⟨0, by omega, by omega, rfl, fun j hj => by omega, rfl⟩
     ·rintro q t72 H' ⟨i, hi, rfl, rfl, hval, rfl⟩ hsc hlen' hsF Kb hKb
      by_cases hlt : i < row.length
      ·have hil : i < l.length := by omega
       obtain ⟨x, y, hvx, hx, hy⟩ := zb2 row[i]
       have hdj : zaI data l row i = zaP data l[i] row[i] := by simp [zaI, List.getD_eq_getElem?_getD, hil, hlt]
       have hmr := List.getElem_mem hlt
       simp [zl4, hlt, hil]
       refine zbF (.bool (decide (0 ≤ zaP data l[i] row[i]))) (fun J => zsd data hk _ (by have := h200 _ (List.getElem_mem hil); omega) _ (by have := hrn _ hmr; omega) _ _ ⟨rfl, rfl⟩) ?_
       rw [← hdj]
       by_cases hneg : zaI data l row i < 0
       ·have hd' : decide (0 ≤ zaI data l row i) = false := by simpa using hneg
        simp [hd', zal, zaB, List.set_append_right]
        exact ⟨⟨rfl, rfl⟩, zbV hs (hbad 1 (by decide) (by rw [hF, if_pos ⟨i, hlt, hneg⟩]))⟩
       ·have hd' : decide (0 ≤ zaI data l row i) = true := by simpa using hneg
        simp [hd']
        rw [zan (by omega) (by omega)]
        refine hKb _ _ ⟨row.length - (i + 1), by omega, Back.at (J := []) (H2 := H ++ [AB.cells [.int .i64 5, .int .i64 n, .sl (VT.css ks) .none], .cells [.int .i64 0, .snil]]) (by simp) (by simp) hsc ?_ ⟨_, rfl, i + 1, by omega, rfl, by simp, fun j hj => ?_, rfl⟩⟩
        ·simp [zib, AV.sc, AV.scV, AV.scA, AV.scB]
        ·by_cases hji : j = i
         ·subst hji; omega
         ·exact hval j (by omega)
      ·obtain rfl : i = row.length := by omega
       have hno : ¬ ∃ j, j < row.length ∧ zaI data l row j < 0 := fun ⟨j, hj, h⟩ => by have := hval j hj; omega
       rw [if_neg hno] at hF
       obtain ⟨bs, hlb, hl8, hrec, hpay, hrt, hK⟩ := hgood l hf
       have h8 := zfm hfine
       have hrv : ∀ j, j < bs.length → zaI data l row j = rdV data (row.getD j d0) (l.getD j tz) := fun j hj => by
        have := hval j (by omega)
        unfold zaI zaP at this ⊢
        by_cases h : zaX data (l.getD j tz) = true
        ·rw [if_pos h]
        ·rw [if_neg h] at this; omega
       have hfd := zoU h8 hlb hpay hrt row (fun j hj => by rw [← hrv j hj]; exact hval j (by omega))
       have hsm : ((List.range bs.length).map fun j => rdV data (row.getD j d0) (l.getD j tz)).sum = ((List.range row.length).map (zaI data l row)).sum := by
        rw [show row.length = bs.length by omega]
        congr 1
        exact List.map_congr_left fun j hj => (hrv j (by simpa using hj)).symm
       rw [hsm] at hfd
       have hdo : zaP data (.mk 5 n ks) (zbu c (pos false bs bs.length) (pos true bs bs.length) row) = rdV data (zbu c (pos false bs bs.length) (pos true bs bs.length) row) (.mk 5 n ks) := by unfold zaP; rw [if_pos hfine]
       rw [← hdo] at hfd
       have hsn : 0 ≤ ((List.range row.length).map (zaI data l row)).sum := zeN _ _ (fun j hj => hval j (by simpa using hj))
       simp [zl4]
       refine zBA data hk 5 n ks ht c hf hlb hl8 hfine hrec _ _ ?_
       have hPl : ∀ j ∈ pos false bs bs.length, j < row.length := fun j hj => by have := zcH hj; omega
       have hRl : ∀ j ∈ pos true bs bs.length, j < row.length := fun j hj => by have := zcH hj; omega
       have hP8 := zca false bs bs.length
       have hR8 := zca true bs bs.length
       generalize pos false bs bs.length = P at *
       generalize pos true bs bs.length = R at *
       simp [zbo, zal, zaB, Nat.add_assoc]
       have := zvM hk ht (X := H ++ [AB.cells [.int .i64 5, .int .i64 n, .sl (VT.css ks) .none], .cells [.int .i64 0, .snil]]) (c := c) (P := P) (R := R) (row := row) hs ⟨_, rfl⟩ hsc (by simp [VT.cs]) (by simp) hPl hRl (by omega) (by omega) hrn K
        (fun h => hbad 13 (by decide) (by
         rw [hfd] at h
         by_cases h6 : 1 + ((List.range row.length).map (zaI data l row)).sum > 6
         ·rw [hF, if_pos h6]
         ·rw [if_neg h6] at h; omega))
        (fun h => hK (by
         rw [hfd] at h
         by_cases h6 : 1 + ((List.range row.length).map (zaI data l row)).sum > 6
         ·rw [if_pos h6] at h; omega
         ·rw [hF, if_neg h6]))
       simpa using this
   ·have hb5 : ((row.length : Int) != (data[n.toNat].cons[c.toNat]).args.length) = true := by simp; omega
    simp [hb5, zal, zaB]
    exact ⟨⟨rfl, rfl⟩, zbV hs (hbad 5 (by decide) (by rw [hF, if_pos (by rw [hN]; exact hra)]))⟩
  ·have hb : (k != 5) = true := by simpa using h5
   simp [hb, zal, zaB]
   exact ⟨⟨rfl, rfl⟩, zbV hs (hbad 6 (by decide) (by simp [zbi, hfine, VT.kind, h5]))⟩
theorem zrA (row : List IT) (hlen : row.length ≤ 9223372036854775807) (H : zaa) (K : Kt) (hK : ∀ b, (b = true → row.length ≤ 8 ∧ ∀ v ∈ row, v.nodes ≤ 40) → K (.bool b) H) : ACalls tP zgE [.sl (IT.css row) .none, .int .i64 8] H K := by
 refine ACalls.out (zzl fun hs => ?_)
 have hO : ∀ b, (b = true → row.length ≤ 8 ∧ ∀ v ∈ row, v.nodes ≤ 40) → Out H.length K (.bool b) H := fun b h => Out.bool (J := []) (by simp) (Nat.le_refl _) hs (hK b h)
 unfold zry
 refine zzj (Inv := fun q t5 H' => ∃ i : Nat, i ≤ row.length ∧ i ≤ 9 ∧ q = 9 - i ∧ t5 = .int .i64 i ∧ (∀ v ∈ row.take i, v.nodes ≤ 40) ∧ H' = H) 9 ?_ ?_
 ·intro _; exact ⟨0, by omega, by omega, by omega, rfl, by simp, rfl⟩
 ·rintro q t5 H' ⟨i, hi, hi9, rfl, rfl, hv, rfl⟩ hsc hlen' hsF Kb hKb
  by_cases hlt : i < row.length
  ·by_cases h8 : i ≤ 8
   ·have h8' : decide ((i : Int) ≤ 8) = true := by simp; omega
    simp [zh5, hlt, h8']
    refine zDz row[i] _ _ fun b hb => ?_
    cases b with
    | false =>
     simp
     exact hO _ (fun h => by cases h)
    | true =>
     simp
     rw [zan (by omega) (by omega)]
     refine hKb _ _ ⟨9 - (i + 1), by omega, Back.at (J := []) (H2 := H') (by simp) hlen' hsc ?_ ⟨_, rfl, i + 1, by omega, by omega, rfl, by simp, ?_, rfl⟩⟩
     ·simp [zh6, AV.sc, AV.scV, AV.scA, AV.scB]
     ·exact zez hlt hv (hb rfl)
   ·have h8' : decide ((i : Int) ≤ 8) = false := by simp; omega
    have h9 : decide ((row.length : Int) ≤ 8) = false := by simp; omega
    simp [zh5, hlt, h8', h9]
    exact hO _ (fun h => by cases h)
  ·obtain rfl : i = row.length := by omega
   simp [zh5]
   rw [List.take_length] at hv
   refine hO _ (fun h => ?_)
   have h' : (row.length : Int) ≤ 8 := by simpa using h
   exact ⟨by omega, hv⟩
theorem zoT (data : List Dat) (hk : zaZ data) (t : VT) (ht : t.nodes ≤ 1000) (c : Int) (row : List IT) (hrl : row.length ≤ 8) (hrn : ∀ v ∈ row, v.nodes ≤ 40) :
  ∃ v : IT, v.nodes ≤ 900 ∧
   (∀ H K, K (.tup [.agg v.cs, .int .i64 (zbi data t c row)]) H → ACalls tP zfA [.sl (data.map Dat.cs) .none, .agg t.cs, .int .i64 c, .sl (IT.css row) .none] H K) ∧
   (∀ H K, K (.tup [.agg v.cs, .int .i64 (zbi data t c row)]) H → ACalls tP zgF [.sl (data.map Dat.cs) .none, .agg t.cs, .int .i64 c, .sl (IT.css row) .none] H K) ∧
   (zbi data t c row = 0 → ∃ l bs, zaJ data t c = some l ∧ l.length = bs.length ∧ l.length ≤ 8 ∧ v = zbu c (pos false bs bs.length) (pos true bs bs.length) row ∧ zbg data t c = some (pick l bs) ∧ (∀ x ∈ l, x.nodes ≤ 200) ∧
    (∀ j, bs.getD j false = true → l.getD j tz = .mk 5 t.num t.kids) ∧ (∀ H K, K (.sl (za0 bs) .none) H → ACalls tP zcD [.sl (data.map Dat.cs) .none, .int .i64 t.num, .int .i64 c] H K)) := by
 cases hf : zaJ data t c with
 | none =>
  have hE : zbi data t c row ≠ 0 := by
   unfold zbi
   rw [hf]
   split
   ·decide
   ·split
    ·decide
    ·split
     ·decide
     ·split
      ·decide
      ·show (1 : Int) ≠ 0
       decide
  refine ⟨d0, by simp [d0, IT.nodes, IT.nodesL], fun H K hK => ?_, fun H K hK => ?_, fun h => absurd h hE⟩
  ·exact zl3 data hk t ht c row hrl hrn H K (fun e he h => by rw [h] at hK; exact hK) (fun h => absurd h hE)
  ·exact zl8 data hk t ht c row hrl hrn H K (fun e he h => by rw [h] at hK; exact hK) (fun l h => by rw [hf] at h; cases h)
 | some l =>
  obtain ⟨k, n, ks⟩ := t
  obtain ⟨bs, hlb, hl8, hpay, h200, k5, hsc, hrf, hrt, _⟩ := zhc hk hf
  by_cases hE : zbi data (.mk k n ks) c row = 0
  ·refine ⟨zbu c (pos false bs bs.length) (pos true bs bs.length) row, ?_, fun H K hK => ?_, fun H K hK => ?_, fun _ => ⟨l, bs, rfl, hlb, hl8, rfl, hpay, h200, hrt, hsc⟩⟩
   ·have hP8 := zca false bs bs.length
    have hR8 := zca true bs bs.length
    have hd : ∀ j, (row.getD j d0).nodes ≤ 40 := fun j => by
     rw [List.getD_eq_getElem?_getD]
     cases h : row[j]? with
     | none => simp [d0, IT.nodes, IT.nodesL]
     | some x => exact hrn x (List.mem_of_getElem? h)
    have h1 := zg7 (f := fun j => row.getD j d0) (pos false bs bs.length) (fun j _ => hd j)
    have h2 := zg6 (f := fun j => zaC (row.getD j d0)) (pos true bs bs.length) (fun j _ => by
     have := hd j
     generalize row.getD j d0 = x at *
     obtain ⟨m, kk⟩ := x
     simp only [IT.nodes, zaC] at *; omega)
    simp only [zbu, IT.nodes, IT.nodesL]
    omega
   ·exact zl3 data hk _ ht c row hrl hrn H K (fun e he h => absurd (h.symm.trans hE) he) (fun _ => ⟨l, bs, hf, hlb, hl8, hsc, by rw [hE] at hK; exact hK⟩)
   ·exact zl8 data hk _ ht c row hrl hrn H K (fun e he h => absurd (h.symm.trans hE) he) (fun l' h => by
     rw [hf] at h; cases h
     exact ⟨bs, hlb, hl8, hrf, hpay, hrt, fun _ => by rw [hE] at hK; exact hK⟩)
  ·refine ⟨d0, by simp [d0, IT.nodes, IT.nodesL], fun H K hK => ?_, fun H K hK => ?_, fun h => absurd h hE⟩
   ·exact zl3 data hk _ ht c row hrl hrn H K (fun e he h => by rw [h] at hK; exact hK) (fun h => absurd h hE)
   ·exact zl8 data hk _ ht c row hrl hrn H K (fun e he h => by rw [h] at hK; exact hK) (fun l' h => by
     rw [hf] at h; cases h
     exact ⟨bs, hlb, hl8, hrf, hpay, hrt, fun h => absurd h hE⟩)
theorem zt3 (data : List Dat) (hlen : data.length ≤ 9223372036854775807) (t : VT) (c : Int) (row : List IT) (hrow : row.length ≤ 9223372036854775807) (H : zaa) (K : Kt) (hK : K (.bool true) H) :
  ACalls tP zkG [.sl (data.map Dat.cs) .none, .agg t.cs, .int .i64 c, .sl (IT.css row) .none] H K := by
 refine ACalls.out (zB4 fun hs => ?_)
 have hO : ∀ J, Out H.length K (.bool true) (H ++ J) := fun J => Out.bool rfl (Nat.le_refl _) hs hK
 obtain ⟨x, y, z, hvx, hx, hy, hz⟩ := zbd t
 simp [zq4, hvx, Nat.add_assoc]
 rw [← hvx]
 refine zqf data hlen t _ _ fun b1 hb1 => ?_
 cases b1 with
 | false =>
  simp
  exact hO _
 | true =>
  obtain ⟨hk, ht⟩ := hb1 rfl
  simp [Nat.add_assoc]
  refine zrA row hrow _ _ fun b2 hb2 => ?_
  cases b2 with
  | false =>
   simp
   exact hO _
  | true =>
   obtain ⟨hrl, hrn⟩ := hb2 rfl
   obtain ⟨v, hvn, h1, h2, _⟩ := zoT data hk t (by omega) c row hrl hrn
   obtain ⟨p, q, hvv, hp, hq⟩ := zb2 v
   simp [hvx, Nat.add_assoc]
   rw [← hvx]
   refine h1 _ _ ?_
   rw [hvv]
   simp [hp, hq, hvx]
   rw [← hvx]
   refine h2 _ _ ?_
   rw [hvv]
   simp [hp, hq, Nat.add_assoc]
   rw [← hvv]
   refine zvZ v (by omega) _ _ ?_
   try simp
   refine zj0 _ _ ?_
   try simp
   exact hO _
end Go.Proofs.YtacebbdfgbfgiaaGreat
namespace Go.Abs
open Go Go.RowKit

def zbe (P : Program) : Nat → TypeId → List AV → Prop
 | 0, _, _ => False
 | n + 1, t, asx => match P.underlying t with
  | some .bool => ∃ b, asx = [.bool b]
  | some (.int k) => ∃ m, asx = [.int k m] ∧ (Lit.int k m).wf = true
  | some .string => ∃ s, asx = [.str s] ∧ s.length ≤ maxLen
  | some (.slice e) => ∃ es, asx = [.sl es .none] ∧ es.length ≤ maxLen ∧ ∀ c ∈ es, zbe P n e c
  | some (.struct fs) => asx.length = P.cellsOf t ∧ ∀ f ∈ fs.toList, zbe P n f.type ((asx.drop f.offset).take (P.cellsOf f.type))
  | _ => False

def zdH (P : Program) : List Field → Nat → Nat → Bool
 | [], at_, n => at_ == n
 | f :: fs, at_, n => f.offset == at_ && zdH P fs (at_ + P.cellsOf f.type) n
def zfN (P : Program) (S : List TypeId) : Bool :=
 S.all fun t => match P.underlying t with
  | some .bool | some (.int _) | some .string => P.cellsOf t == 1
  | some (.slice e) => S.contains e && decide (0 < P.cellsOf e) && P.cellsOf t == 1
  | some (.struct fs) => fs.toList.all (fun f => S.contains f.type) && zdH P fs.toList 0 (P.cellsOf t)
  | _ => false

section
variable {Hh : Type} {enc : TypeId × Value → Hh} {P : Program} {w : World} {base : Nat} {spare : Nat → Bool} {held : Bool}

theorem zqu {R : Value → AV → Prop} {cs : List Value} : ∀ (fs : List Field) (at_ n : Nat) (T : Field → List AV → Prop), zdH P fs at_ n = true → cs.length = n →
  (∀ f ∈ fs, ∃ asx, All2 R ((cs.drop f.offset).take (P.cellsOf f.type)) asx ∧ T f asx) → at_ ≤ n →
  ∃ asx, All2 R (cs.drop at_) asx ∧ ∀ f ∈ fs, T f ((asx.drop (f.offset - at_)).take (P.cellsOf f.type)) ∧ at_ ≤ f.offset
 | [], at_, n, T, ht, hl, hf, hle => by
  simp [zdH] at ht
  subst ht
  refine ⟨[], ?_, by simp⟩
  rw [List.drop_eq_nil_of_le (by omega)]
  trivial
 | f :: fs, at_, n, T, ht, hl, hf, hle => by
  simp only [zdH, Bool.and_eq_true, beq_iff_eq] at ht
  obtain ⟨h1, h2⟩ := ht
  have hbound : ∀ (fs : List Field) (k n : Nat), zdH P fs k n = true → k ≤ n := by
   intro fs
   induction fs with
   | nil => intro k n h; simp [zdH] at h; omega
   | cons g gs ih => intro k n h; simp only [zdH, Bool.and_eq_true] at h; have := ih _ _ h.2; omega
  have hb := hbound fs _ _ h2
  obtain ⟨as0, ha0, hT0⟩ := hf f (by simp)
  obtain ⟨as1, ha1, hT1⟩ := zqu fs (at_ + P.cellsOf f.type) n T h2 hl (fun g hg => hf g (by simp [hg])) hb
  have hl0 : as0.length = P.cellsOf f.type := by
   have := ha0.length
   rw [List.length_take, List.length_drop] at this
   omega
  refine ⟨as0 ++ as1, ?_, ?_⟩
  ·have : cs.drop at_ = (cs.drop f.offset).take (P.cellsOf f.type) ++ cs.drop (at_ + P.cellsOf f.type) := by
    rw [h1, ← List.drop_drop, List.take_append_drop]
   rw [this]
   exact ha0.append ha1
  ·intro g hg
   rcases List.mem_cons.1 hg with rfl | hg
   ·rw [h1, Nat.sub_self, List.drop_zero, ← hl0, List.take_left]
    exact ⟨hT0, Nat.le_refl _⟩
   ·obtain ⟨k1, k2⟩ := hT1 g hg
    refine ⟨?_, by omega⟩
    have : (as0 ++ as1).drop (g.offset - at_) = as1.drop (g.offset - (at_ + P.cellsOf f.type)) := by
     rw [List.drop_append, List.drop_eq_nil_of_le (by omega), List.nil_append]
     congr 1
     omega
    rw [this]
    exact k1

theorem zgp {a : Addr} {n : Nat} {cs : List Value} (h : w.cells? base a n = some cs) : cs.length = n ∧ ∀ j v, cs[j]? = some v → w.cell? (a.add j) = some v := by
 unfold World.cells? at h
 split at h
 ·have h1 := mapM_some_length h
  refine ⟨by simpa using h1, fun j v hj => ?_⟩
  have hjn : j < n := by
   have := (List.getElem?_eq_some_iff.1 hj).1
   simp at h1
   omega
  have := mapM_some_get h j j (by simp [hjn])
  rw [this]
  exact hj
 ·cases h

theorem zvd {b o : Nat} {v : Value} (h : w.cell? ⟨b, o, none⟩ = some v) : o < zbC w b := by
 unfold World.cell? at h
 unfold zbC
 split at h
 ·rename_i c t fr hb
  simp only [hb]
  simp at h
  exact (Array.getElem?_eq_some_iff.1 h).1
 ·cases h

theorem zqA {S : List TypeId} (hS : zfN P S = true) : ∀ (n : Nat) (t : TypeId) (cs : List Value) (x : DataW Hh × List MemPlace), t ∈ S → DataW.trod enc P w base spare held n t cs = some x →
  ∃ asx, All2 (DRel w (zbC w)) cs asx ∧ zbe P n t asx := by
 intro n
 induction n with
 | zero => intro t cs x _ h; simp [DataW.trod] at h
 | succ n ih =>
  intro t cs x ht h
  have hp := List.all_eq_true.1 hS t ht
  unfold zbe
  cases hu : P.underlying t with
  | none => simp [hu] at hp
  | some d =>
   rw [hu] at hp
   cases d <;> simp only [] at hp <;> try (cases hp; done)
   case bool =>
    obtain ⟨b, rfl, _⟩ := DataW.trod_bool hu h
    exact ⟨[.bool b], ⟨.bool b, trivial⟩, b, rfl⟩
   case int k =>
    obtain ⟨m, rfl, _, hw⟩ := DataW.trod_int hu h
    exact ⟨[.int k m], ⟨.int k m, trivial⟩, m, rfl, hw⟩
   case string =>
    obtain ⟨s, rfl, _, hw⟩ := DataW.trod_string hu h
    have hs : (⟨s.data.toList.toArray⟩ : ByteArray) = s := by simp
    refine ⟨[.str s.data.toList], ⟨?_, trivial⟩, s.data.toList, rfl, by rw [Array.length_toList]; exact hw⟩
    have := DRel.str (w := w) (L := zbC w) s.data.toList
    rwa [hs] at this
   case slice e =>
    simp only [Bool.and_eq_true, decide_eq_true_eq] at hp
    obtain ⟨⟨he, hpos⟩, _⟩ := hp
    have he : e ∈ S := by simpa using he
    rcases DataW.trod_slice hu h with ⟨rfl, _⟩ | ⟨a, len, cap, elems, rest, n', hn, rfl, _, hb, hl, hm, hlen, hel, _⟩
    ·exact ⟨[.sl [] .none], ⟨.slE _ _, trivial⟩, [], rfl, by simp, by simp⟩
    ·obtain rfl : n = n' := by omega
     have hat : ∀ i, i < len → ∃ cs asx, w.cells? base (a.add (i * P.cellsOf e)) (P.cellsOf e) = some cs ∧ All2 (DRel w (zbC w)) cs asx ∧ zbe P n e asx := by
      intro i hi
      have h1 := hel i hi
      rw [List.getElem?_eq_getElem (by omega)] at h1
      cases hc : w.cells? base (a.add (i * P.cellsOf e)) (P.cellsOf e) with
      | none => rw [hc] at h1; cases h1
      | some cs =>
       rw [hc] at h1
       obtain ⟨asx, h2, h3⟩ := ih e cs _ he h1
       exact ⟨cs, asx, rfl, h2, h3⟩
     by_cases h0 : len = 0
     ·subst h0
      exact ⟨[.sl [] .none], ⟨.slE _ _, trivial⟩, [], rfl, by simp, by simp⟩
     ·-- the address is a zaD one
      have hspot : a.spot = none := by
       obtain ⟨cs, asx, h1, h2, _⟩ := hat 0 (by omega)
       obtain ⟨h3, h4⟩ := zgp h1
       have h5 := h4 0 cs[0] (by simp)
       have := World.cell?_spot h5
       simpa [Addr.add] using this
      obtain ⟨b, off, sp⟩ := a
      simp only at hspot
      subst hspot
      obtain ⟨f, hf⟩ : ∃ f : Nat → List Value × List AV, ∀ i, i < len → w.cells? base ((⟨b, off, none⟩ : Addr).add (i * P.cellsOf e)) (P.cellsOf e) = some (f i).1 ∧ All2 (DRel w (zbC w)) (f i).1 (f i).2 ∧ zbe P n e (f i).2 :=
       Deep.choose_lt (p := fun i (y : List Value × List AV) => w.cells? base ((⟨b, off, none⟩ : Addr).add (i * P.cellsOf e)) (P.cellsOf e) = some y.1 ∧ All2 (DRel w (zbC w)) y.1 y.2 ∧ zbe P n e y.2)
        (fun i hi => by obtain ⟨cs, asx, h1, h2, h3⟩ := hat i hi; exact ⟨(cs, asx), h1, h2, h3⟩)
      have hcell : ∀ i, i < len → ∀ j v, (f i).1[j]? = some v → w.cell? ⟨b, off + i * P.cellsOf e + j, none⟩ = some v := by
       intro i hi j v hj
       have := (zgp (hf i hi).1).2 j v hj
       rw [add_lit, add_lit] at this
       exact this
      have hlen2 : ∀ i, i < len → (f i).2.length = P.cellsOf e := fun i hi => by
       rw [← (hf i hi).2.1.length]; exact (zgp (hf i hi).1).1
      refine ⟨[.sl ((List.range len).map fun i => (f i).2) .none], ⟨?_, trivial⟩, _, rfl, by simp; omega, ?_⟩
      ·have := DRel.sl (w := w) (L := zbC w) b off cap (P.cellsOf e) ((List.range len).map fun i => (f i).2) (fun i j => (f i).1.getD j undef) (by simp; exact h0) (by simpa using hl) ?_ ?_ ?_ ?_
       ·simpa using this
       ·-- the last cell is there
        have hi : len - 1 < len := by omega
        have hj : P.cellsOf e - 1 < (f (len - 1)).1.length := by rw [(zgp (hf _ hi).1).1]; omega
        have := zvd (hcell (len - 1) hi (P.cellsOf e - 1) _ (List.getElem?_eq_getElem hj))
        have hmul : (len - 1) * P.cellsOf e + P.cellsOf e = len * P.cellsOf e := by
         rw [← Nat.succ_mul]; congr 1; omega
        simp
        omega
       ·intro i hi
        simp at hi
        simpa using hlen2 i hi
       ·intro i j hi hj
        simp at hi hj
        have hjl : j < (f i).1.length := by rw [(hf i hi).2.1.length]; exact hj
        simp only [List.getD_eq_getElem?_getD, List.getElem?_eq_getElem hjl, Option.getD_some]
        exact hcell i hi j _ (List.getElem?_eq_getElem hjl)
       ·intro i j hi hj
        simp at hi hj
        have hjl : j < (f i).1.length := by rw [(hf i hi).2.1.length]; exact hj
        obtain ⟨c, h1, h2⟩ := (hf i hi).2.1.get' (List.getElem?_eq_getElem hjl)
        simp only [List.getD_eq_getElem?_getD, List.getElem?_eq_getElem hjl, Option.getD_some, List.getElem_map, List.getElem_range]
        have : (f i).2[j] = c := by rw [List.getElem?_eq_getElem hj] at h1; exact Option.some.inj h1
        rw [this]
        exact h2
      ·intro c hc
       obtain ⟨i, hi, rfl⟩ := List.mem_map.1 hc
       exact (hf i (by simpa using hi)).2.2
   case struct fs =>
    simp only [Bool.and_eq_true] at hp
    obtain ⟨hfs, htile⟩ := hp
    obtain ⟨xs, n', hn, _, hcl, hxl, hat⟩ := DataW.trod_struct hu h
    obtain rfl : n = n' := by omega
    obtain ⟨asx, h1, h2⟩ := zqu (P := P) (R := DRel w (zbC w)) (cs := cs) fs.toList 0 (P.cellsOf t) (fun f asx => zbe P n f.type asx) htile hcl (fun f hf => by
     obtain ⟨i, hi⟩ := List.mem_iff_getElem?.1 hf
     have hi' : fs[i]? = some f := by simpa using hi
     have h3 := hat i f hi'
     have hlt : i < xs.length := by rw [hxl]; exact (Array.getElem?_eq_some_iff.1 hi').1
     rw [List.getElem?_eq_getElem hlt] at h3
     exact ih f.type _ _ (by simpa using List.all_eq_true.1 hfs f hf) h3) (Nat.zero_le _)
    rw [List.drop_zero] at h1
    refine ⟨asx, h1, by rw [← h1.length]; exact hcl, fun f hf => ?_⟩
    simpa using (h2 f hf).1
end

theorem zpC {Hh : Type} {enc : TypeId × Value → Hh} {P : Program} {w : World} {base : Nat} {spare : Nat → Bool} {held : Bool} {S : List TypeId} (hS : zfN P S = true) {t : TypeId} (ht : t ∈ S) {cs : Array Value} {d : DataW Hh} {p : List MemPlace}
  (h : DataW.Trod enc P w base spare held t (.agg cs) d p) : ∃ n asx, zbe P n t asx ∧ TRel w (G0 w) (.agg cs) (.agg asx) := by
 obtain ⟨n, hn⟩ := h
 obtain ⟨asx, h1, h2⟩ := zqA hS n t _ _ ht hn
 exact ⟨n, asx, h2, cs, rfl, h1.mono fun _ _ hd => ARel.of_b (DRel.toB (G := G0 w) hd)⟩
theorem zeH {Hh : Type} {enc : TypeId × Value → Hh} {P : Program} {w : World} {base : Nat} {spare : Nat → Bool} {held : Bool} {S : List TypeId} (hS : zfN P S = true) {t : TypeId} (ht : t ∈ S) {v : Value} {d : DataW Hh} {p : List MemPlace} (hv : v.cells = #[v])
  (h : DataW.Trod enc P w base spare held t v d p) : ∃ n a, zbe P n t [a] ∧ TRel w (G0 w) v a := by
 obtain ⟨n, hn⟩ := h
 obtain ⟨asx, h1, h2⟩ := zqA hS n t _ _ ht hn
 rw [hv] at h1
 match asx, h1, h2 with
 | [a], h1, h2 => exact ⟨n, a, h2, TRel.of_v (VRel.of_a (ARel.of_b (DRel.toB (G := G0 w) h1.1)))⟩
section
variable {P : Program} {n : Nat} {t : TypeId} {l : List AV}
theorem zeP {k : IntKind} (hu : P.underlying t = some (.int k)) (h : zbe P n t l) : ∃ m, l = [.int k m] ∧ (Lit.int k m).wf = true := by
 cases n with
 | zero => exact h.elim
 | succ n => unfold zbe at h; rw [hu] at h; exact h
theorem zqH (hu : P.underlying t = some .string) (h : zbe P n t l) : ∃ s, l = [.str s] ∧ s.length ≤ maxLen := by
 cases n with
 | zero => exact h.elim
 | succ n => unfold zbe at h; rw [hu] at h; exact h
theorem zeQ {e : TypeId} (hu : P.underlying t = some (.slice e)) (h : zbe P n t l) : ∃ es n', n' < n ∧ l = [.sl es .none] ∧ es.length ≤ maxLen ∧ ∀ c ∈ es, zbe P n' e c := by
 cases n with
 | zero => exact h.elim
 | succ n => unfold zbe at h; rw [hu] at h; obtain ⟨es, h1, h2, h3⟩ := h; exact ⟨es, n, by omega, h1, h2, h3⟩
theorem zhs {fs : Array Field} (hu : P.underlying t = some (.struct fs)) (h : zbe P n t l) : ∃ n', n' < n ∧ l.length = P.cellsOf t ∧ ∀ f ∈ fs.toList, zbe P n' f.type ((l.drop f.offset).take (P.cellsOf f.type)) := by
 cases n with
 | zero => exact h.elim
 | succ n => unfold zbe at h; rw [hu] at h; exact ⟨n, by omega, h⟩
theorem zdZ {α : Type} {cs : α → List AV} : ∀ {es : List (List AV)}, (∀ c ∈ es, ∃ x, c = cs x) → ∃ xs : List α, es = xs.map cs
 | [], _ => ⟨[], rfl⟩
 | e :: es, h => by
  obtain ⟨x, hx⟩ := h e (by simp)
  obtain ⟨xs, hxs⟩ := zdZ (es := es) (fun c hc => h c (by simp [hc]))
  exact ⟨x :: xs, by simp [hx, hxs]⟩
end
end Go.Abs
