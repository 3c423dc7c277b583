import Derived.Test.YtjkkonpjecoieaaGreatKY2
set_option linter.unusedSimpArgs false
set_option linter.unusedVariables false
namespace Go.Proofs.YtjkkonpjecoieaaGreat
open Go Go.Abs
set_option maxRecDepth 8000
def zdK (data : List Dat) (d : Nat) (vars : Int) (t : VT) : Bool := zbD d vars t || zaQ (data.take d) vars t
structure RCon (data : List Dat) (d : Nat) (vars : Int) (c : Con) : Prop where
 up : zcJ c.name = true
 len : c.args.length ≤ 6
 args : ∀ x ∈ c.args, zdK data d vars x = true
structure RDat (data : List Dat) (d : Nat) (D : Dat) : Prop where
 v0 : 0 ≤ D.vars
 v6 : D.vars ≤ 6
 c1 : 1 ≤ D.cons.length
 c8 : D.cons.length ≤ 8
 up : zcJ D.name = true
 cons : ∀ c ∈ D.cons, RCon data d D.vars c
structure RData (data : List Dat) : Prop where
 len : data.length ≤ 12
 dats : ∀ d (h : d < data.length), RDat data d data[d]
 names : (zbn data).Nodup
 cons : (zaN data).Nodup
theorem zol {α : Type} {l : List α} {i : Nat} (h : i < l.length) : l.take (i + 1) = l.take i ++ [l[i]] := by rw [List.take_append_getElem h]
theorem zsB : ∀ l : List Dat, (∀ D ∈ l, D.cons.length ≤ 10) → (zaN l).length ≤ l.length * 10
 | [], _ => by simp [zaN]
 | D :: l, h => by
  have h1 := zsB l (fun D hD => h D (by simp [hD]))
  have h2 := h D (by simp)
  rw [zaN] at h1 ⊢
  rw [List.flatMap_cons, List.length_append, List.length_map, List.length_cons]; omega
theorem zAO {data : List Dat} {d : Nat} (h : d < data.length) : zbn (data.take (d + 1)) = zbn (data.take d) ++ [(data[d]).name] := by
 rw [zbn, zol h, List.map_append]; rfl
theorem zAB {data : List Dat} {d : Nat} (h : d < data.length) : zaN (data.take (d + 1)) = zaN (data.take d) ++ (data[d]).cons.map Con.name := by
 rw [zaN, zol h, List.flatMap_append]; simp [zaN]
theorem zuX (l : List (List UInt8)) (s : List UInt8) : strs (l ++ [s]) = strs l ++ [[.str s]] := by simp [strs]
theorem zsq {s : List UInt8} {k : AV → Prop} : zaz 1 [.str []] 1 [(0, .str s)] k = k (.sl [[.str s]] .full) := propext Iff.rfl
theorem zur (l : List (List UInt8)) (hl : l.length ≤ 1000000) {tok : Tok} (H : zaa) (K : AV → zaa → Prop) (hK : K (.bool (zcd l)) H) : ACalls tP zgP [.sl (strs l) tok] H K :=
 ACalls.wk (zN9 l hl H K hK) ⟨.atom (.sl _ _), trivial⟩
theorem zAE {D : Dat} {i : Nat} (h : i < D.cons.length) : (D.cons.map Con.cs)[i]?.getD [] = [.str (D.cons[i]).name, .sl (VT.css (D.cons[i]).args) .none] := by simp [h, Con.cs]
theorem zyG (data : List Dat) (hkd : za5 data) (H : zaa) (K : AV → zaa → Prop) (hK : ∀ b, (b = true ↔ RData data) → K (.bool b) H) : ACalls tP zil [.sl (data.map Dat.cs) .none] H K := by
 refine ACalls.out (zLx fun hs => ?_)
 obtain ⟨kl, kd⟩ := hkd
 have hF : ¬ RData data → ∀ J, Out H.length K (.bool false) (H ++ J) := fun h J => Out.bool rfl (Nat.le_refl _) hs (hK _ (by simp [h]))
 have hT : ∀ b : Bool, (b = true ↔ RData data) → ∀ J, Out H.length K (.bool b) (H ++ J) := fun b h J => Out.bool rfl (Nat.le_refl _) hs (hK _ h)
 by_cases h12 : data.length > 12
 ·have h12' : (12 : Int) < data.length := by omega
  simp [zqD, h12']
  have := hF (fun h => by have := h.len; omega) []
  simpa using this
 have h12' : ¬ (12 : Int) < data.length := by omega
 simp [zqD, h12']
 unfold zk3
 refine ALoop.own 3 zbS 1 rfl ?_
 refine ALoop.own 4 zbS 1 rfl ?_
 rw [List.append_assoc]
 have hcn : ∀ d, (zaN (data.take d)).length ≤ 140 := fun d => by
  have := zsB (data.take d) (fun D hD => (kd D (List.mem_of_mem_take hD)).2.1)
  rw [List.length_take] at this
  have : min d data.length * 10 ≤ 14 * 10 := Nat.mul_le_mul_right _ (by omega)
  omega
 have hl1 : (H ++ [AB.perm zbS 1 0]).length = H.length + 1 := by simp
 rw [hl1]
 show zk3 (.sl (data.map Dat.cs) .none) (.sl [] (.own H.length)) (.sl [] (.own (H.length + 1))) (.int .i64 0) (H ++ [.perm zbS 1 0, .perm zbS 1 0]) (Out H.length K)
 have hsP : ∀ m n, HSc (H ++ [.perm zbS 1 m, .perm zbS 1 n]) := fun m n => hs.append rfl
 refine zLv (Inv := fun q t3 t4 t5 H' => ∃ d : Nat, d ≤ data.length ∧ q = data.length - d ∧ t5 = .int .i64 d ∧ t3 = .sl (strs (zbn (data.take d))) (.own H.length) ∧ t4 = .sl (strs (zaN (data.take d))) (.own (H.length + 1)) ∧ (∀ j (h : j < data.length), j < d → RDat data j data[j]) ∧ H' = H ++ [.perm zbS 1 d, .perm zbS 1 (zaN (data.take d)).length]) data.length ?_ ?_
 ·intro _; exact ⟨0, by omega, by omega, rfl, by simp [zbn, strs], by simp [zaN, strs], by omega, by simp [zaN]⟩
 ·rintro q t3 t4 t5 H' ⟨d, hd, rfl, rfl, rfl, rfl, hok, rfl⟩ hsc hlen hsF Kb hKb
  by_cases hlt : d < data.length
  ·have hbad : ¬ RDat data d data[d] → ∀ J, Out H.length K (.bool false) (H ++ J) := fun h => hF fun hh => h (hh.dats d hlt)
   have hcd := hcn d
   have hds := zAO hlt
   have hcs := zAB hlt
   obtain ⟨kn, kc, kcc⟩ := kd _ (List.getElem_mem hlt)
   have hdl : (zbn (data.take d)).length = d := by simp [zbn]; omega
   generalize hD : data[d] = D at *
   have hge : (data.map Dat.cs)[d]?.getD [] = [.str D.name, .int .i64 D.vars, .sl (D.cons.map Con.cs) .none] := by simp [hlt, hD, Dat.cs]
   by_cases hv0 : D.vars < 0
   ·simp [ze3, hlt, hD, Dat.cs, hv0]
    exact hbad (fun h => by have := h.v0; omega) _
   by_cases hv6 : 6 < D.vars
   ·simp [ze3, hlt, hD, Dat.cs, hv0, hv6]
    exact hbad (fun h => by have := h.v6; omega) _
   by_cases hc1 : D.cons.length < 1
   ·have hc1' : (D.cons.length : Int) < 1 := by omega
    simp [ze3, hlt, hD, Dat.cs, hv0, hv6, hc1']
    exact hbad (fun h => by have := h.c1; omega) _
   have hc1' : ¬ (D.cons.length : Int) < 1 := by omega
   by_cases hc8 : 8 < D.cons.length
   ·have hc8' : (8 : Int) < D.cons.length := by omega
    simp [ze3, hlt, hD, Dat.cs, hv0, hv6, hc1', hc8']
    exact hbad (fun h => by have := h.c8; omega) _
   have hc8' : ¬ (8 : Int) < D.cons.length := by omega
   simp [ze3, hlt, hD, Dat.cs, hv0, hv6, hc1', hc8']
   refine zzq _ _ _ ?_
   cases hup : zcJ D.name with
   | false => simp; exact hbad (fun h => by have := h.up; rw [hup] at this; cases this) _
   | true =>
   simp [zsq]
   simp [zaw, zaX, zaO, hdl]
   refine ⟨by omega, ?_⟩
   rw [← zuX, ← hds]
   refine zLt (Inv := fun q t4 t7 H' => ∃ k : Nat, k ≤ D.cons.length ∧ q = D.cons.length - k ∧ t7 = .int .i64 k ∧ t4 = .sl (strs (zaN (data.take d) ++ (D.cons.map Con.name).take k)) (.own (H.length + 1)) ∧ (∀ c ∈ D.cons.take k, RCon data d D.vars c) ∧ H' = H ++ [.perm zbS 1 (d + 1), .perm zbS 1 ((zaN (data.take d)).length + k), .cells [.str D.name, .int .i64 D.vars, .sl (D.cons.map Con.cs) .none]]) D.cons.length ?_ ?_
   ·intro _; exact ⟨0, by omega, by omega, rfl, by simp, by simp, by simp⟩
   ·rintro q t4 t7 H' ⟨k, hk, rfl, rfl, rfl, hck, rfl⟩ hsc1 hlen1 hsF1 Kb1 hKb1
    have hlk : (zaN (data.take d) ++ (D.cons.map Con.name).take k).length = (zaN (data.take d)).length + k := by simp; omega
    by_cases hkl : k < D.cons.length
    ·have hkI : (k : Int) < D.cons.length := by omega
     have hca := zAE hkl
     have hcbad : ¬ RCon data d D.vars D.cons[k] → ∀ J, Out H.length K (.bool false) (H ++ J) := fun h => hbad fun hh => h (hh.cons _ (List.getElem_mem hkl))
     have hns : zaN (data.take d) ++ (D.cons.map Con.name).take (k + 1) = (zaN (data.take d) ++ (D.cons.map Con.name).take k) ++ [(D.cons[k]).name] := by rw [zol (by simpa using hkl)]; simp
     obtain ⟨_, ka, kan⟩ := kcc _ (List.getElem_mem hkl)
     generalize hC : D.cons[k] = C at *
     simp [zqE, hkl, hC, Con.cs]
     refine zzq _ _ _ ?_
     cases hupc : zcJ C.name with
     | false => simp; exact hcbad (fun h => by have := h.up; rw [hupc] at this; cases this) _
     | true =>
     by_cases ha6 : 6 < C.args.length
     ·have ha6' : (6 : Int) < C.args.length := by omega
      simp [hkl, hC, Con.cs, ha6']
      exact hcbad (fun h => by have := h.len; omega) _
     have ha6' : ¬ (6 : Int) < C.args.length := by omega
     simp [hkl, hC, Con.cs, ha6', zsq]
     generalize hA : zaN (data.take d) ++ (D.cons.map Con.name).take k = A at *
     have hAl : A.length = (zaN (data.take d)).length + k := hlk
     simp [zaw, zaX, zaO, hAl, hkl, hC, Con.cs]
     refine ⟨by omega, ?_⟩
     rw [← zuX, ← hns]
     refine zLu (Inv := fun q t95 H' => ∃ i : Nat, i ≤ C.args.length ∧ q = C.args.length - i ∧ t95 = .int .i64 i ∧ (∀ x ∈ C.args.take i, zdK data d D.vars x = true) ∧ H' = H ++ [.perm zbS 1 (d + 1), .perm zbS 1 ((zaN (data.take d)).length + k + 1), .cells [.str D.name, .int .i64 D.vars, .sl (D.cons.map Con.cs) .none]]) C.args.length ?_ ?_
     ·intro _; exact ⟨0, by omega, by omega, rfl, by simp, rfl⟩
     ·rintro q t95 H' ⟨i, hi, rfl, rfl, hok3, rfl⟩ hsc2 hlen2 hsF2 Kb2 hKb2
      by_cases hil : i < C.args.length
      ·have hxn := kan _ (List.getElem_mem hil)
       have habad : zdK data d D.vars C.args[i] = false → ∀ J, Out H.length K (.bool false) (H ++ J) := fun h => hcbad fun hh => by
        have := hh.args _ (List.getElem_mem hil)
        rw [h] at this; cases this
       obtain ⟨x, y, z, hvx, hx, hy, hz⟩ := vt3 C.args[i]
       have good : zdK data d D.vars C.args[i] = true → zk2 (.sl (data.map Dat.cs) .none) (.sl (strs (zbn (data.take (d + 1)))) (.own H.length)) (.sl (strs (zaN (data.take d) ++ (D.cons.map Con.name).take (k + 1))) (.own (H.length + 1))) (.int .i64 d) (.ptr (H.length + 2) 0) (.int .i64 k) (.sl (VT.css C.args) .none) (.int .i64 C.args.length) (.int .i64 i) (H ++ [.perm zbS 1 (d + 1), .perm zbS 1 ((zaN (data.take d)).length + k + 1), .cells [.str D.name, .int .i64 D.vars, .sl (D.cons.map Con.cs) .none], .cells [x, y, z]]) (Out H.length K) Kb Kb1 Kb2 := fun hg => by
        simp [zk2, zyB]
        rw [zar (by omega) (by omega)]
        refine hKb2 _ _ ⟨C.args.length - (i + 1), by omega, Back.at (J := [_]) (H2 := H ++ [.perm zbS 1 (d + 1), .perm zbS 1 ((zaN (data.take d)).length + k + 1), .cells [.str D.name, .int .i64 D.vars, .sl (D.cons.map Con.cs) .none]]) (by simp; rfl) (by simp) hsc2 ?_ ⟨_, rfl, i + 1, by omega, rfl, by simp, zgw hil hok3 hg, rfl⟩⟩
        simp [zk0, AV.sc, AV.scV, AV.scA, AV.scB]
       simp [zqF, hil, hvx, hx, hy, hz]
       rw [← hvx]
       refine zrQ _ _ _ (by omega) _ _ ?_
       cases hself : zbD d D.vars C.args[i] with
       | true =>
        rw [hvx]
        simp
        exact good (by simp [zdK, hself])
       | false =>
        simp [hvx]
        refine ⟨⟨by omega, fun a _ => rfl⟩, ?_⟩
        rw [← List.map_take, ← hvx]
        refine zaF (.bool (zaQ (data.take d) D.vars C.args[i])) (fun J => zqJ (data.take d) (by simp; omega) _ _ (by omega) _ _ ⟨rfl, rfl⟩) ?_
        cases hty : zaQ (data.take d) D.vars C.args[i] with
        | false => simp; exact habad (by simp [zdK, hself, hty]) _
        | true =>
         rw [hvx]
         simp
         exact good (by simp [zdK, hty])
      ·obtain rfl : i = C.args.length := by omega
       rw [List.take_length] at *
       simp [zqF]
       rw [zar (by omega) (by omega)]
       refine hKb1 _ _ ⟨D.cons.length - (k + 1), by omega, Back.here (by simp) hsc2 ?_ ⟨_, _, rfl, k + 1, by omega, rfl, by simp, rfl, ?_, by simp [Nat.add_assoc]⟩⟩
       ·simp [zkZ, AV.sc, AV.scV, AV.scA, AV.scB]
       ·exact zgw hkl hck (by rw [hC]; exact ⟨hupc, by omega, hok3⟩)
    ·obtain rfl : k = D.cons.length := by omega
     rw [List.take_length] at *
     simp [zqE]
     rw [zar (by omega) (by omega)]
     refine hKb _ _ ⟨data.length - (d + 1), by omega, Back.at (J := [_]) (H2 := H ++ [.perm zbS 1 (d + 1), .perm zbS 1 (zaN (data.take (d + 1))).length]) (by rw [hcs]; simp; rfl) (by simp) (hsP _ _) ?_ ⟨_, _, _, rfl, d + 1, by omega, rfl, by simp, rfl, by rw [hcs]; exact congrArg (fun l => AV.sl (strs (zaN (data.take d) ++ l)) (.own (H.length + 1))) (List.take_of_length_le (Nat.le_of_eq (List.length_map _))), fun j hj hji => ?_, rfl⟩⟩
     ·simp [zk1, AV.sc, AV.scV, AV.scA, AV.scB]
     ·by_cases hjd : j = d
      ·subst hjd; rw [hD]; exact ⟨by omega, by omega, by omega, by omega, hup, hck⟩
      ·exact hok j hj (by omega)
  ·obtain rfl : d = data.length := by omega
   rw [List.take_length] at *
   have hdn : (zbn data).length = data.length := by simp [zbn]
   have hcn' := hcn data.length
   rw [List.take_length] at hcn'
   simp [ze3]
   refine zur _ (by omega) _ _ ?_
   cases hr : zcd (zbn data) with
   | true =>
    simp
    refine hT _ ?_ _
    simp
    intro h
    have := znY h.names
    rw [hr] at this; cases this
   | false =>
    simp
    refine zur _ (by omega) _ _ ?_
    refine hT _ ?_ _
    simp only [zcd, Bool.not_eq_false', decide_eq_true_eq, Bool.not_not] at hr ⊢
    exact ⟨fun h => ⟨by omega, fun j hj => hok j hj hj, hr, h⟩, fun h => h.cons⟩
mutual
theorem zCl : ∀ v w : VT, v.same w = true ↔ v = w
 | .mk k n ks, .mk k' n' ks' => by
  have h := zuA ks ks'
  simp only [VT.same, Bool.and_eq_true, beq_iff_eq, VT.mk.injEq, h, and_assoc]
theorem zuA : ∀ v w : List VT, VT.sameL v w = true ↔ v = w
 | v :: vs, w :: ws => by
  have h1 := zCl v w
  have h2 := zuA vs ws
  simp only [VT.sameL, Bool.and_eq_true, List.cons.injEq, h1, h2]
 | [], [] => by simp [VT.sameL]
 | [], _ :: _ => by simp [VT.sameL]
 | _ :: _, [] => by simp [VT.sameL]
end
theorem ziX {α : Type} (l : List α) (d n : Nat) : (l.take d)[n]? = if n < d then l[n]? else none := by
 by_cases h : n < d
 ·rw [if_pos h, List.getElem?_take_of_lt h]
 ·rw [if_neg h, List.getElem?_eq_none (by rw [List.length_take]; omega)]
theorem zCu {data : List Dat} {d : Nat} {vars k n : Int} {len : Nat} (h : (k == 5 && n == (d : Int)) = false) : za6 (data.take (d + 1)) vars k n len = za6 (data.take d) vars k n len := by
 unfold za6
 by_cases h5 : k = 5
 ·subst h5
  have hn : n ≠ d := by simpa using h
  simp only [ziX]
  by_cases h0 : 0 ≤ n
  ·have : (n.toNat < d + 1) = (n.toNat < d) := by
    apply propext; omega
   simp [this]
  ·simp [h0]
 ·have : (k == 5) = false := by simpa using h5
  simp [this]
mutual
theorem zvl (data : List Dat) (d : Nat) (vars : Int) : ∀ t : VT, zcg d t = false → zaS (data.take (d + 1)) vars t = zaS (data.take d) vars t
 | .mk k n ks => by
  intro h
  simp only [zcg, Bool.or_eq_false_iff] at h
  rw [zaS, zaS, zCu h.1, zvi data d vars ks h.2]
theorem zvi (data : List Dat) (d : Nat) (vars : Int) : ∀ l : List VT, zea d l = false → za7 (data.take (d + 1)) vars l = za7 (data.take d) vars l
 | [] => fun _ => rfl
 | t :: ts => by
  intro h
  simp only [zea, Bool.or_eq_false_iff] at h
  rw [za7, za7, zvl data d vars t h.1, zvi data d vars ts h.2]
end
mutual
theorem ztB (data : List Dat) (d : Nat) (vars : Int) : ∀ t : VT, zaS (data.take d) vars t = true → zcg d t = false
 | .mk k n ks => by
  intro h
  rw [zaS, Bool.and_eq_true] at h
  rw [zcg, ztA data d vars ks h.2, Bool.or_false]
  by_cases h5 : k = 5
  ·subst h5
   have h1 := h.1
   simp [za6, ziX] at h1
   obtain ⟨h0, h2⟩ := h1
   by_cases hn : n = d
   ·subst hn
    simp at h2
   ·simpa using hn
  ·have : (k == 5) = false := by simpa using h5
   simp [this]
theorem ztA (data : List Dat) (d : Nat) (vars : Int) : ∀ l : List VT, za7 (data.take d) vars l = true → zea d l = false
 | [] => fun _ => rfl
 | t :: ts => by
  intro h
  rw [za7, Bool.and_eq_true] at h
  rw [zea, ztB data d vars t h.1, ztA data d vars ts h.2]; rfl
end
theorem zuD (data : List Dat) (vars : Int) : ∀ (l : List VT) (i : Nat), zcs l i = true → ((i + l.length : Nat) : Int) ≤ vars → za7 data vars l = true ∧ VT.nodesL l = l.length
 | [], i, _, _ => ⟨rfl, rfl⟩
 | .mk k n ks :: l, i, h, hv => by
  rw [zcs, Bool.and_eq_true] at h
  obtain ⟨h1, h2⟩ := h
  simp only [zgr, Bool.and_eq_true, beq_iff_eq] at h1
  obtain ⟨⟨rfl, rfl⟩, h3⟩ := h1
  have hk : ks = [] := List.eq_nil_of_length_eq_zero h3
  subst hk
  obtain ⟨h4, h5⟩ := zuD data vars l (i + 1) h2 (by simp at hv ⊢; omega)
  simp at hv
  constructor
  ·simp [za7, zaS, za6, h4]
   omega
  ·simp [VT.nodesL, VT.nodes, h5]; omega
theorem zse (data : List Dat) (d : Nat) (hd : d < data.length) (h0 : 0 ≤ (data[d]).vars) (h6 : (data[d]).vars ≤ 6) (t : VT) : zdq data d (data[d]).vars t = zdK data d (data[d]).vars t := by
 unfold zdq zdK
 cases hs : zbD d (data[d]).vars t with
 | true =>
  obtain ⟨k, n, ks⟩ := t
  simp only [zbD, Bool.and_eq_true, beq_iff_eq] at hs
  obtain ⟨⟨⟨rfl, rfl⟩, hl⟩, hs⟩ := hs
  obtain ⟨h1, h2⟩ := zuD (data.take (d + 1)) (data[d]).vars ks 0 hs (by simp; omega)
  have hty : zaQ (data.take (d + 1)) (data[d]).vars (.mk 5 d ks) = true := by
   simp [zaQ, zaS, h1, VT.nodes, h2, za6, ziX, hd, hl]
   omega
  simp [hty]
 | false =>
  simp only [Bool.false_or]
  unfold zaQ
  cases hm : zcg d t with
  | false => rw [zvl data d _ t hm]; simp
  | true =>
   have : zaS (data.take d) (data[d]).vars t = false := by
    cases h : zaS (data.take d) (data[d]).vars t with
    | false => rfl
    | true => rw [ztB data d _ t h] at hm; cases hm
   simp [this]
theorem zmw (data : List Dat) : ∀ (l : List Dat) (d : Nat), zcB data l d = true ↔ ∀ j (h : j < l.length), zcq data (d + j) l[j] = true
 | [], d => by simp [zcB]
 | D :: l, d => by
  rw [zcB, Bool.and_eq_true, zmw data l (d + 1)]
  constructor
  ·rintro ⟨h1, h2⟩ j hj
   cases j with
   | zero => exact h1
   | succ j =>
    have := h2 j (by simpa using hj)
    rw [show d + (j + 1) = d + 1 + j by omega]
    simpa using this
  ·intro h
   refine ⟨h 0 (by simp), fun j hj => ?_⟩
   have := h (j + 1) (by simpa using hj)
   rw [show d + (j + 1) = d + 1 + j by omega] at this
   simpa using this
theorem zsN (data : List Dat) : zbe data = true ↔ RData data := by
 unfold zbe
 simp only [Bool.and_eq_true, decide_eq_true_eq, zmw, zcd, Bool.not_not, Nat.zero_add]
 constructor
 ·rintro ⟨⟨⟨h1, h2⟩, h3⟩, h4⟩
  refine ⟨h1, fun d hd => ?_, h3, h4⟩
  have := h2 d hd
  simp only [zcq, Bool.and_eq_true, decide_eq_true_eq, List.all_eq_true] at this
  obtain ⟨⟨⟨⟨⟨q1, q2⟩, q3⟩, q4⟩, q5⟩, q6⟩ := this
  refine ⟨q2, q3, q4, q5, q1, fun c hc => ?_⟩
  have := q6 c hc
  simp only [zc3, Bool.and_eq_true, decide_eq_true_eq, List.all_eq_true] at this
  exact ⟨this.1, this.2.1, fun x hx => by rw [← zse data d hd q2 q3 x]; exact this.2.2 x hx⟩
 ·rintro ⟨h1, h2, h3, h4⟩
  refine ⟨⟨⟨h1, fun d hd => ?_⟩, h3⟩, h4⟩
  obtain ⟨q2, q3, q4, q5, q1, q6⟩ := h2 d hd
  simp only [zcq, Bool.and_eq_true, decide_eq_true_eq, List.all_eq_true]
  refine ⟨⟨⟨⟨⟨q1, q2⟩, q3⟩, q4⟩, q5⟩, fun c hc => ?_⟩
  obtain ⟨r1, r2, r3⟩ := q6 c hc
  simp only [zc3, Bool.and_eq_true, decide_eq_true_eq, List.all_eq_true]
  exact ⟨r1, r2, fun x hx => by rw [zse data d hd q2 q3 x]; exact r3 x hx⟩
mutual
def zav (data : List Dat) : VT → VT → Bool
 | .mk vk vn vks, .mk k n al =>
  if k = 1 then vk == 3 && decide (-1099511627776 ≤ vn) && decide (vn ≤ 1099511627776) && vks.length == 0
  else if k = 2 then vk == 2 && (vn == 0 || vn == 1) && vks.length == 0
  else if k = 3 then vk == 1 && vn == 0 && vks.length == 0
  else if k = 6 then vk == 4 && vn == 0 && zbx data vks al
  else if k = 5 then vk == 5 && decide (0 ≤ vn) && decide (vn < 8) && zd6 data vks (zaR data (.mk k n al) vn)
  else if k = 7 then vk == 6 && vn == 0 && decide (vks.length ≤ 4096) && zcr data vks (al.getD 0 (.mk 0 0 []))
  else if k = 8 then vk == 7 && vn == 0 && zbx data vks al
  else vk == 8 && decide (0 ≤ vn) && decide (vn < 64) && vks.length == 0
def zd6 (data : List Dat) : List VT → Option (List VT) → Bool
 | _, none => false
 | [], some ts => ts.isEmpty
 | v :: vs, some ts => match ts with
  | [] => false
  | t :: ts => zav data v t && zbx data vs ts
def zbx (data : List Dat) : List VT → List VT → Bool
 | [], ts => ts.isEmpty
 | v :: vs, ts => match ts with
  | [] => false
  | t :: ts => zav data v t && zbx data vs ts
def zcr (data : List Dat) : List VT → VT → Bool
 | [], _ => true
 | v :: vs, t => zav data v t && zcr data vs t
end
theorem zgn (data : List Dat) (vs ts : List VT) : zd6 data vs (some ts) = zbx data vs ts := by
 cases vs with
 | nil => cases ts <;> rw [zd6, zbx]
 | cons v vs => cases ts <;> simp only [zd6, zbx]
theorem zhP (data : List Dat) (vs : List VT) : zd6 data vs none = false := by cases vs <;> rw [zd6]
theorem zgo {data : List Dat} : ∀ {vs ts : List VT}, zbx data vs ts = true → vs.length = ts.length
 | [], ts, h => by rw [zbx] at h; cases ts <;> simp at h ⊢
 | v :: vs, [], h => by simp [zbx] at h
 | v :: vs, t :: ts, h => by
  simp only [zbx, Bool.and_eq_true] at h
  simp [zgo h.2]
theorem zfk {data : List Dat} : ∀ {vs ts : List VT}, zbx data vs ts = true → ∀ (i : Nat) (h1 : i < vs.length) (h2 : i < ts.length), zav data vs[i] ts[i] = true
 | [], ts, h => by intro i h1; simp at h1
 | v :: vs, [], h => by simp [zbx] at h
 | v :: vs, t :: ts, h => by
  simp only [zbx, Bool.and_eq_true] at h
  intro i h1 h2
  cases i with
  | zero => exact h.1
  | succ i => exact zfk h.2 i (by simpa using h1) (by simpa using h2)
theorem zCv {data : List Dat} {m : Nat} {vars k n : Int} {len : Nat} (h : za6 (data.take m) vars k n len = true) (h4 : k ≠ 4) : za6 data 0 k n len = true := by
 unfold za6 at h ⊢
 have h4' : (k == 4) = false := by simpa using h4
 rw [h4'] at h ⊢
 by_cases h5 : k = 5
 ·subst h5
  simp only [ziX] at h
  by_cases hm : n.toNat < m
  ·simpa [hm] using h
  ·simp [hm] at h
 ·have : (k == 5) = false := by simpa using h5
  simpa [this] using h
theorem zuZ (ks : List VT) : ∀ l : List VT, (zaJ ks l).length = l.length
 | [] => rfl
 | t :: ts => by simp [zaJ, zuZ ks ts]
mutual
theorem zvm {data : List Dat} {m : Nat} {vars : Int} {ks : List VT} (hk : ∀ x ∈ ks, zaS data 0 x = true) (hl : (ks.length : Int) = vars) : ∀ a : VT, zaS (data.take m) vars a = true → zaS data 0 (subst ks a) = true
 | .mk k n al => by
  intro h
  rw [zaS, Bool.and_eq_true] at h
  unfold subst
  by_cases h4 : k = 4
  ·have h1 := h.1
   subst h4
   simp [za6] at h1
   rw [if_pos ⟨rfl, by omega, by omega⟩]
   have hn : n.toNat < ks.length := by omega
   rw [List.getElem?_eq_getElem hn]
   exact hk _ (List.getElem_mem hn)
  ·rw [if_neg (fun h => h4 h.1), zaS, Bool.and_eq_true, zuZ]
   exact ⟨zCv h.1 h4, zvj hk hl al h.2⟩
theorem zvj {data : List Dat} {m : Nat} {vars : Int} {ks : List VT} (hk : ∀ x ∈ ks, zaS data 0 x = true) (hl : (ks.length : Int) = vars) : ∀ l : List VT, za7 (data.take m) vars l = true → za7 data 0 (zaJ ks l) = true
 | [] => by intro _; simp [zaJ, za7]
 | t :: ts => by
  intro h
  rw [za7, Bool.and_eq_true] at h
  rw [zaJ, za7, Bool.and_eq_true]
  exact ⟨zvm hk hl t h.1, zvj hk hl ts h.2⟩
end
theorem zvh {data : List Dat} {vars : Int} : ∀ {l : List VT}, za7 data vars l = true → ∀ x ∈ l, zaS data vars x = true
 | [], _ => by simp
 | t :: ts, h => by
  rw [za7, Bool.and_eq_true] at h
  intro x hx
  rcases List.mem_cons.1 hx with rfl | hx
  ·exact h.1
  ·exact zvh h.2 x hx
theorem zvk {data : List Dat} {vars : Int} {k n : Int} {ks : List VT} (h : zaS data vars (.mk k n ks) = true) : ∀ x ∈ ks, zaS data vars x = true := by
 rw [zaS, Bool.and_eq_true] at h
 exact zvh h.2
theorem zi0 {data : List Dat} {vars : Int} {k n : Int} {ks : List VT} (h : zaQ data vars (.mk k n ks) = true) : ∀ x ∈ ks, zaQ data vars x = true := by
 rw [zaQ, Bool.and_eq_true, decide_eq_true_eq] at h
 intro x hx
 rw [zaQ, Bool.and_eq_true, decide_eq_true_eq]
 exact ⟨Nat.le_trans (zfm x hx) h.1, zvk h.2 x hx⟩
theorem zAD {data : List Dat} (hD : zbe data = true) {d c : Nat} (hd : d < data.length) (hc : c < data[d].cons.length) : ∀ x ∈ (data[d].cons[c]).args, zaS (data.take (d + 1)) data[d].vars x = true := by
 simp only [zbe, Bool.and_eq_true, zmw, Nat.zero_add] at hD
 have h1 := hD.1.1.2 d hd
 simp only [zcq, Bool.and_eq_true] at h1
 have h2 := List.all_eq_true.1 h1.2 _ (List.getElem_mem hc)
 simp only [zc3, Bool.and_eq_true] at h2
 intro x hx
 have h3 := List.all_eq_true.1 h2.2.2 x hx
 simp only [zdq, zaQ, Bool.and_eq_true] at h3
 exact h3.1.2
theorem zfh {data : List Dat} {k n : Int} {ks : List VT} {c : Int} {l : List VT} (h : zaR data (.mk k n ks) c = some l) :
  k = 5 ∧ 0 ≤ n ∧ 0 ≤ c ∧ ∃ (hn : n.toNat < data.length) (hc : c.toNat < (data[n.toNat]).cons.length), (ks.length : Int) = (data[n.toNat]).vars ∧ l = ((data[n.toNat]).cons[c.toNat]).args.map (subst ks) ∧ ∀ x ∈ l, x.nodes ≤ 200 := by
 rw [zcO] at h
 split at h
 ·rename_i h5
  split at h
  ·rename_i D hD
   obtain ⟨hn, rfl⟩ := List.getElem?_eq_some_iff.1 hD
   split at h
   ·rename_i hv
    split at h
    ·rename_i C hC
     obtain ⟨hc, rfl⟩ := List.getElem?_eq_some_iff.1 hC
     split at h
     ·rename_i ha
      simp only [Option.some.injEq] at h
      subst h
      exact ⟨h5.1, h5.2.1, h5.2.2, hn, hc, hv, rfl, fun x hx => of_decide_eq_true (List.all_eq_true.1 ha x hx)⟩
     ·cases h
    ·cases h
   ·cases h
  ·cases h
 ·cases h
theorem zgj {data : List Dat} (hD : zbe data = true) {t : VT} (ht : zaS data 0 t = true) {c : Int} {l : List VT} (h : zaR data t c = some l) : ∀ x ∈ l, zaQ data 0 x = true := by
 obtain ⟨k, n, ks⟩ := t
 obtain ⟨rfl, h0, hc0, hn, hc, hv, rfl, hsz⟩ := zfh h
 intro x hx
 rw [zaQ, Bool.and_eq_true, decide_eq_true_eq]
 refine ⟨hsz x hx, ?_⟩
 obtain ⟨a, ha, rfl⟩ := List.mem_map.1 hx
 exact zvm (zvk ht) hv a (zAD hD hn hc a ha)
theorem zuE {ks : List VT} : ∀ (l : List VT) (i : Nat), zcs l i = true → i + l.length = ks.length → zaJ ks l = ks.drop i
 | [], i, _, hl => by simp at hl; subst hl; simp [zaJ]
 | x :: l, i, h, hl => by
  rw [zcs, Bool.and_eq_true] at h
  obtain ⟨k, n, al⟩ := x
  simp only [zgr, Bool.and_eq_true, beq_iff_eq] at h
  obtain ⟨⟨⟨rfl, rfl⟩, h3⟩, h4⟩ := h
  simp at hl
  have hi : i < ks.length := by omega
  rw [List.drop_eq_getElem_cons hi, zaJ, zuE l (i + 1) h4 (by omega)]
  rw [subst, if_pos ⟨rfl, by omega, by omega⟩]
  simp [hi]
theorem zuF {ks : List VT} {d vars : Int} {a : VT} (h : zbD d vars a = true) (hl : (ks.length : Int) = vars) : subst ks a = .mk 5 d ks := by
 obtain ⟨k, n, al⟩ := a
 simp only [zbD, Bool.and_eq_true, beq_iff_eq] at h
 obtain ⟨⟨⟨rfl, rfl⟩, h3⟩, h4⟩ := h
 rw [subst, if_neg (fun h => by have := h.1; omega)]
 have := zuE (ks := ks) al 0 h4 (by omega)
 rw [this, List.drop_zero]
def zbu (d : Nat) (D : Dat) (C : Con) : List Bool := C.args.map (zbD d D.vars)
def za4 (data : List Dat) (d : Nat) : List (List Bool) := match data[d]? with
 | some D => D.cons.map (zbu d D)
 | none => []
mutual
def zbi (rs : List (List Bool)) : VT → List VT
 | .mk k n ks => .mk k n ks :: zbG rs ks (rs.getD n.toNat [])
def zbG (rs : List (List Bool)) : List VT → List Bool → List VT
 | [], _ => []
 | v :: vs, bs => match bs with
  | [] => []
  | b :: bs => (if b = true then zbi rs v else []) ++ zbG rs vs bs
end
mutual
theorem ziN (rs : List (List Bool)) : ∀ v : VT, (zbi rs v).length ≤ v.nodes
 | .mk k n ks => by
  have := znR rs ks (rs.getD n.toNat [])
  simp only [zbi, VT.nodes, List.length_cons]
  omega
theorem znR (rs : List (List Bool)) : ∀ (vs : List VT) (bs : List Bool), (zbG rs vs bs).length ≤ VT.nodesL vs
 | [], _ => by simp [zbG, VT.nodesL]
 | v :: vs, [] => by simp [zbG]
 | v :: vs, b :: bs => by
  have h1 := ziN rs v
  have h2 := znR rs vs bs
  simp only [zbG, VT.nodesL, List.length_append]
  split
  ·omega
  ·simp; omega
end
theorem zeA {data : List Dat} {n : Int} {al : List VT} {vk vn : Int} {vks : List VT} (h : zav data (.mk vk vn vks) (.mk 5 n al) = true) :
  vk = 5 ∧ 0 ≤ n ∧ 0 ≤ vn ∧ vn < 8 ∧ ∃ (hn : n.toNat < data.length) (hc : vn.toNat < (data[n.toNat]).cons.length), vks.length = ((data[n.toNat]).cons[vn.toNat]).args.length ∧ (al.length : Int) = (data[n.toNat]).vars ∧
   (za4 data n.toNat).getD vn.toNat [] = zbu n.toNat data[n.toNat] (data[n.toNat]).cons[vn.toNat] ∧ (za4 data n.toNat).length = (data[n.toNat]).cons.length ∧
   ∀ (i : Nat) (hi : i < vks.length) (h2 : i < ((data[n.toNat]).cons[vn.toNat]).args.length), zbD n.toNat (data[n.toNat]).vars ((data[n.toNat]).cons[vn.toNat]).args[i] = true → zav data vks[i] (.mk 5 n al) = true := by
 simp only [zav] at h
 simp at h
 obtain ⟨⟨⟨h1, h2⟩, h3⟩, h4⟩ := h
 cases hf : zaR data (.mk 5 n al) vn with
 | none => rw [hf, zhP] at h4; cases h4
 | some l =>
  rw [hf, zgn] at h4
  obtain ⟨_, k1, k2, hn, hc, hv, rfl, _⟩ := zfh hf
  have hlen := zgo h4
  simp at hlen
  refine ⟨h1, k1, h2, h3, hn, hc, hlen, hv, ?_, ?_, ?_⟩
  ·simp [za4, List.getElem?_eq_getElem hn, hc, List.getD_eq_getElem?_getD]
  ·simp [za4, List.getElem?_eq_getElem hn]
  ·intro i hi hi2 hself
   have := zfk h4 i hi (by simpa using hi2)
   rw [List.getElem_map, zuF hself (by simpa using hv)] at this
   rwa [show ((n.toNat : Nat) : Int) = n by omega] at this
end Go.Proofs.YtjkkonpjecoieaaGreat
