import Derived.Test.YtkdmpbhbmmhijaaKY10
import Derived.Test.YtkdmpbhbmmhijaaKY14
import Derived.Test.YtkdmpbhbmmhijaaKY16
set_option linter.unusedSimpArgs false
set_option linter.unusedVariables false
namespace Go.Proofs.Ytkdmpbhbmmhijaa
open Go Go.Abs
set_option maxRecDepth 8000
def zqj (c : Con) : Prop := c.name.length ≤ 40 ∧ c.args.length ≤ 8 ∧ ∀ t ∈ c.args, t.nodes ≤ 20
def zln (d : Dat) : Prop := d.name.length ≤ 40 ∧ d.cons.length ≤ 10 ∧ ∀ c ∈ d.cons, zqj c
def zlo (ds : List Dat) : Prop := ds.length ≤ 14 ∧ ∀ d ∈ ds, zln d
theorem zb9 {α : Type} {l : List α} {i : Nat} (h : i < l.length) {p : α → Prop} (h1 : ∀ x ∈ l.take i, p x) (h2 : p l[i]) : ∀ x ∈ l.take (i + 1), p x := by
 rw [List.take_succ_eq_append_getElem h]
 intro x hx
 rcases List.mem_append.1 hx with hx | hx
 ·exact h1 x hx
 ·simp at hx; subst hx; exact h2
theorem zhC {α : Type} {cs : α → List AV} {l : List α} {i : Nat} (h : i < l.length) : (l.map cs)[i]?.getD [] = cs l[i] := by simp [h]
theorem vt3 (v : VT) : ∃ a b c, v.cs = [a, b, c] ∧ a.known = true ∧ b.known = true ∧ c.known = true := by
 obtain ⟨k, n, ks⟩ := v; exact ⟨_, _, _, rfl, rfl, rfl, rfl⟩
theorem zEl (ds : List Dat) (H : zaa) (K : AV → zaa → Prop) (hlen : ds.length ≤ 9223372036854775807) (hK : ∀ b, (b = true → zlo ds) → K (.bool b) H) : ACalls tP zmh [.sl (ds.map Dat.cs) .none] H K := by
 refine ACalls.out (zEj fun hs => ?_)
 have hF : ∀ J, Out H.length K (.bool false) (H ++ J) := fun J => Out.bool rfl (Nat.le_refl _) hs (hK false fun h => by cases h)
 have hF0 : Out H.length K (.bool false) H := by simpa using hF []
 by_cases h14 : ds.length > 14
 ·have : (14 : Int) < ds.length := by omega
  simp [zol, this]
  exact hF0
 have : ¬ (14 : Int) < ds.length := by omega
 simp [zol, this]
 refine zEg (Inv := fun q t15 H' => ∃ i : Nat, i ≤ ds.length ∧ q = ds.length - i ∧ t15 = .int .i64 i ∧ (∀ d ∈ ds.take i, zln d) ∧ H = H') ds.length ?_ ?_
 ·intro _; exact ⟨0, by omega, by omega, rfl, by simp, rfl⟩
 ·rintro q t15 H' ⟨i, hi, rfl, rfl, ha, rfl⟩ hsc hl hsF Kb4 hKb4
  by_cases hil : i < ds.length
  ·have hat : (ds.map Dat.cs)[i]?.getD [] = [.str ds[i].name, .int .i64 ds[i].vars, .sl (ds[i].cons.map Con.cs) .none] := zhC hil
   have next : zln ds[i] → ∀ J, Kb4 (zgQ (.sl (ds.map Dat.cs) .none) (.int .i64 ds.length) (.int .i64 (i + 1))) (H ++ J) := by
    intro hd J
    refine hKb4 _ _ ⟨ds.length - (i + 1), by omega, Back.same (Nat.le_refl _) hs ?_ ⟨_, rfl, i + 1, by omega, rfl, by simp, zb9 hil ha hd, rfl⟩⟩
    simp [zgQ, AV.sc, AV.scV, AV.scA, AV.scB]
   generalize hdd : ds[i] = d at *
   simp [zon, hil, hat, AV.known, hdd, Dat.cs]
   by_cases hn : d.name.length > 40
   ·have : (40 : Int) < d.name.length := by omega
    simp [this]
    exact hF _
   have hn' : ¬ (40 : Int) < d.name.length := by omega
   by_cases hc : d.cons.length > 10
   ·have : (10 : Int) < d.cons.length := by omega
    simp [hn', this]
    exact hF _
   have hc' : ¬ (10 : Int) < d.cons.length := by omega
   simp [hn', hc']
   refine zEh (Inv := fun q t32 H' => ∃ j : Nat, j ≤ d.cons.length ∧ q = d.cons.length - j ∧ t32 = .int .i64 j ∧ (∀ c ∈ d.cons.take j, zqj c) ∧ H' = H ++ [.cells [.str d.name, .int .i64 d.vars, .sl (d.cons.map Con.cs) .none]]) d.cons.length ?_ ?_
   ·intro _; exact ⟨0, by omega, by omega, rfl, by simp, rfl⟩
   ·rintro q t32 H' ⟨j, hj, rfl, rfl, hb, rfl⟩ hsc9 hl9 hsF9 Kb9 hKb9
    by_cases hjl : j < d.cons.length
    ·have hat : (d.cons.map Con.cs)[j]?.getD [] = [.str d.cons[j].name, .sl (VT.css d.cons[j].args) .none] := zhC hjl
     generalize hcc : d.cons[j] = c at *
     simp [zoo, hjl, hat, AV.known, hcc, Con.cs]
     by_cases hn : c.name.length > 40
     ·have : (40 : Int) < c.name.length := by omega
      simp [this]
      exact hF _
     have hn' : ¬ (40 : Int) < c.name.length := by omega
     by_cases hc : c.args.length > 8
     ·have : (8 : Int) < c.args.length := by omega
      simp [hn', this]
      exact hF _
     have hc' : ¬ (8 : Int) < c.args.length := by omega
     simp [hn', hc']
     refine zEf (Inv := fun q t49 H' => ∃ (k : Nat) (l : Int), k ≤ c.args.length ∧ q = c.args.length - k ∧ t49 = .int .i64 k ∧ -1 ≤ l ∧ l ≤ 20 ∧ (∀ t ∈ c.args.take k, t.nodes ≤ 20) ∧ H' = H ++ [.cells [.str d.name, .int .i64 d.vars, .sl (d.cons.map Con.cs) .none], .cells [.str c.name, .sl (VT.css c.args) .none], .cells [.int .i64 l]]) c.args.length ?_ ?_
     ·intro _; exact ⟨0, 20, by omega, by omega, rfl, by omega, by omega, by simp, rfl⟩
     ·rintro q t49 H' ⟨k, l, hk, rfl, rfl, hl0, hl1, hb15, rfl⟩ hsc15 hl15 hsF15 Kb15 hKb15
      by_cases hkl : k < c.args.length
      ·obtain ⟨x, y, z, hv, hx, hy, hz⟩ := vt3 c.args[k]
       simp [zom, hkl, hv, hx, hy, hz]
       rw [← hv]
       refine zvi _ _ (Nat.le_refl _) l (by omega) hl0 _ (H.length + 2) (by simp) _ ?_ ?_
       ·intro hle
        simp
        rw [zaq (by omega) (by omega)]
        refine hKb15 _ _ ⟨c.args.length - (k + 1), by omega, Back.at (J := [_]) (H2 := H ++ [.cells [.str d.name, .int .i64 d.vars, .sl (d.cons.map Con.cs) .none], .cells [.str c.name, .sl (VT.css c.args) .none], .cells [.int .i64 (l - c.args[k].nodes)]]) (by simp; rfl) (by simp) (hs.append rfl) ?_ ⟨_, rfl, k + 1, l - c.args[k].nodes, by omega, rfl, by simp, by omega, by omega, zb9 hkl hb15 (by omega), rfl⟩⟩
        simp [zjy, AV.sc, AV.scV, AV.scA, AV.scB]
       ·intro hle l'
        simp
        exact hF _
      ·obtain rfl : k = c.args.length := by omega
       rw [List.take_length] at hb15
       simp [zom]
       rw [zaq (by omega) (by omega)]
       refine hKb9 _ _ ⟨d.cons.length - (j + 1), by omega, Back.at (J := [_, _]) (H2 := H ++ [.cells [.str d.name, .int .i64 d.vars, .sl (d.cons.map Con.cs) .none]]) (by simp; exact ⟨rfl, rfl⟩) (by simp) (hs.append rfl) ?_ ⟨_, rfl, j + 1, by omega, rfl, by simp, zb9 hjl hb (by rw [hcc]; exact ⟨by omega, by omega, hb15⟩), rfl⟩⟩
       simp [zjz, AV.sc, AV.scV, AV.scA, AV.scB]
    ·obtain rfl : j = d.cons.length := by omega
     rw [List.take_length] at hb
     simp [zoo]
     rw [zaq (by omega) (by omega)]
     exact next ⟨by omega, by omega, hb⟩ _
  ·obtain rfl : i = ds.length := by omega
   rw [List.take_length] at ha
   simp [zon]
   exact Out.bool (J := []) (by simp) (Nat.le_refl _) hs (hK true fun _ => ⟨by omega, ha⟩)
def zqi (f : Cod) : Prop := f.name.length ≤ 400 ∧ f.params.length ≤ 10 ∧ f.capt.length ≤ 40 ∧ f.res.nodes ≤ 250
def KEx (e : CEx) : Prop := e.vars.length ≤ 40 ∧ e.binds.length ≤ 10 ∧ e.kids.length ≤ 10 ∧ e.ty.nodes ≤ 250 ∧ ∀ l ∈ e.binds, l.length ≤ 10
def zaR (c : Cor) : Prop := zlo c.data ∧ c.codes.length ≤ 24 ∧ c.exprs.length ≤ 160 ∧ (c.vars.length ≤ 160 ∧ ∀ v ∈ c.vars, v.nodes ≤ 250) ∧ (∀ f ∈ c.codes, zqi f) ∧ ∀ e ∈ c.exprs, KEx e
theorem zBu (c : Cor) (h1 : c.data.length ≤ 9223372036854775807) (h2 : c.vars.length ≤ 9223372036854775807) (H : zaa) (K : AV → zaa → Prop) (hK : ∀ b, (b = true → zaR c) → K (.bool b) H) : ACalls tP zl8 [.agg c.cs] H K := by
 refine ACalls.out (zBt fun hs => ?_)
 have hF : ∀ J, Out H.length K (.bool false) (H ++ J) := fun J => Out.bool rfl (Nat.le_refl _) hs (hK false fun h => by cases h)
 simp [zsV, Cor.cs]
 refine zEl c.data _ _ h1 fun b hb => ?_
 cases b with
 | false => simp; exact hF _
 | true =>
 have hdata := hb rfl
 by_cases hc : c.codes.length > 24
 ·have : (24 : Int) < c.codes.length := by omega
  simp [this]
  exact hF _
 have hc' : ¬ (24 : Int) < c.codes.length := by omega
 by_cases he : c.exprs.length > 160
 ·have : (160 : Int) < c.exprs.length := by omega
  simp [hc', this]
  exact hF _
 have he' : ¬ (160 : Int) < c.exprs.length := by omega
 simp [hc', he']
 refine zEs c.vars 160 (by omega) h2 _ _ fun b hb => ?_
 cases b with
 | false => simp; exact hF _
 | true =>
 have hvars := hb rfl
 simp
 refine zBq (Inv := fun q t34 H' => ∃ i : Nat, i ≤ c.codes.length ∧ q = c.codes.length - i ∧ t34 = .int .i64 i ∧ (∀ f ∈ c.codes.take i, zqi f) ∧ H' = H ++ [.cells [.sl (c.data.map Dat.cs) .none, .sl (c.codes.map Cod.cs) .none, .sl (VT.css c.vars) .none, .sl (c.exprs.map CEx.cs) .none]]) c.codes.length ?_ ?_
 ·intro _; exact ⟨0, by omega, by omega, rfl, by simp, rfl⟩
 ·rintro q t34 H' ⟨i, hi, rfl, rfl, ha, rfl⟩ hsc4 hl4 hsF4 Kb4 hKb4
  by_cases hil : i < c.codes.length
  ·obtain ⟨x, y, z, hv, hx, hy, hz⟩ := vt3 (c.codes[i]).res
   have hat : (c.codes.map Cod.cs)[i]?.getD [] = [.str (c.codes[i]).name, .sl (ints (c.codes[i]).params) .none, .sl (ints (c.codes[i]).capt) .none, x, y, z, .int .i64 (c.codes[i]).body] := by
    rw [zhC hil, Cod.cs, hv]; rfl
   generalize hff : c.codes[i] = f at *
   simp [znA, hil, hat, hx, hy, hz, hff, Cod.cs, hv]
   by_cases hn : f.name.length > 400
   ·have : (400 : Int) < f.name.length := by omega
    simp [this]; exact hF _
   have hn' : ¬ (400 : Int) < f.name.length := by omega
   by_cases hp : f.params.length > 10
   ·have : (10 : Int) < f.params.length := by omega
    simp [hn', this]; exact hF _
   have hp' : ¬ (10 : Int) < f.params.length := by omega
   by_cases hq : f.capt.length > 40
   ·have : (40 : Int) < f.capt.length := by omega
    simp [hn', hp', this]; exact hF _
   have hq' : ¬ (40 : Int) < f.capt.length := by omega
   simp [hn', hp', hq']
   rw [← hv]
   refine zot f.res _ _ fun b hb => ?_
   cases b with
   | false => simp; exact hF _
   | true =>
    simp
    rw [zaq (by omega) (by omega)]
    refine hKb4 _ _ ⟨c.codes.length - (i + 1), by omega, Back.at (J := [_]) (H2 := H ++ [.cells [.sl (c.data.map Dat.cs) .none, .sl (c.codes.map Cod.cs) .none, .sl (VT.css c.vars) .none, .sl (c.exprs.map CEx.cs) .none]]) (by simp; rfl) (by simp) (hs.append rfl) ?_ ⟨_, rfl, i + 1, by omega, rfl, by simp, zb9 hil ha (by rw [hff]; exact ⟨by omega, by omega, by omega, hb rfl⟩), rfl⟩⟩
    simp [ziE, AV.sc, AV.scV, AV.scA, AV.scB]
  ·obtain rfl : i = c.codes.length := by omega
   rw [List.take_length] at ha
   simp [znA]
   refine zBo (Inv := fun q t64 H' => ∃ i : Nat, i ≤ c.exprs.length ∧ q = c.exprs.length - i ∧ t64 = .int .i64 i ∧ (∀ e ∈ c.exprs.take i, KEx e) ∧ H' = H ++ [.cells [.sl (c.data.map Dat.cs) .none, .sl (c.codes.map Cod.cs) .none, .sl (VT.css c.vars) .none, .sl (c.exprs.map CEx.cs) .none]]) c.exprs.length ?_ ?_
   ·intro _; exact ⟨0, by omega, by omega, rfl, by simp, rfl⟩
   ·rintro q t64 H' ⟨i, hi, rfl, rfl, hb, rfl⟩ hsc10 hl10 hsF10 Kb10 hKb10
    by_cases hil : i < c.exprs.length
    ·obtain ⟨x, y, z, hv, hx, hy, hz⟩ := vt3 (c.exprs[i]).ty
     have hat : (c.exprs.map CEx.cs)[i]?.getD [] = [.int .i64 (c.exprs[i]).op, .int .i64 (c.exprs[i]).num, .sl (ints (c.exprs[i]).vars) .none, .sl (rows (c.exprs[i]).binds) .none, .sl (ints (c.exprs[i]).kids) .none, x, y, z] := by
      rw [zhC hil, CEx.cs, hv]
     generalize hff : c.exprs[i] = e at *
     simp [zny, hil, hat, hx, hy, hz, hff, CEx.cs, hv]
     by_cases hn : e.vars.length > 40
     ·have : (40 : Int) < e.vars.length := by omega
      simp [this]; exact hF _
     have hn' : ¬ (40 : Int) < e.vars.length := by omega
     by_cases hp : e.binds.length > 10
     ·have : (10 : Int) < e.binds.length := by omega
      simp [hn', this]; exact hF _
     have hp' : ¬ (10 : Int) < e.binds.length := by omega
     by_cases hq : e.kids.length > 10
     ·have : (10 : Int) < e.kids.length := by omega
      simp [hn', hp', this]; exact hF _
     have hq' : ¬ (10 : Int) < e.kids.length := by omega
     simp [hn', hp', hq']
     rw [← hv]
     refine zot e.ty _ _ fun b hb4 => ?_
     cases b with
     | false => simp; exact hF _
     | true =>
      simp
      refine zBp (Inv := fun q t93 H' => ∃ j : Nat, j ≤ e.binds.length ∧ q = e.binds.length - j ∧ t93 = .int .i64 j ∧ (∀ l ∈ e.binds.take j, l.length ≤ 10) ∧ ∃ J, H' = H ++ .cells [.sl (c.data.map Dat.cs) .none, .sl (c.codes.map Cod.cs) .none, .sl (VT.css c.vars) .none, .sl (c.exprs.map CEx.cs) .none] :: J) e.binds.length ?_ ?_
      ·intro _; exact ⟨0, by omega, by omega, rfl, by simp, _, rfl⟩
      ·rintro q t93 H' ⟨j, hj, rfl, rfl, hb, J, rfl⟩ hsc15 hl15 hsF15 Kb15 hKb15
       by_cases hjl : j < e.binds.length
       ·simp [znz, hjl, rows]
        by_cases hr : (e.binds[j]).length > 10
        ·have : (10 : Int) < (e.binds[j]).length := by omega
         simp [this]; exact hF _
        have hr' : ¬ (10 : Int) < (e.binds[j]).length := by omega
        simp [hr']
        rw [zaq (by omega) (by omega)]
        refine hKb15 _ _ ⟨e.binds.length - (j + 1), by omega, Back.here hl15 hsc15 ?_ ⟨_, rfl, j + 1, by omega, rfl, by simp, zb9 hjl hb (by omega), J, rfl⟩⟩
        simp [ziD, AV.sc, AV.scV, AV.scA, AV.scB]
       ·obtain rfl : j = e.binds.length := by omega
        rw [List.take_length] at hb
        simp [znz]
        rw [zaq (by omega) (by omega)]
        refine hKb10 _ _ ⟨c.exprs.length - (i + 1), by omega, Back.at (J := J) (H2 := H ++ [.cells [.sl (c.data.map Dat.cs) .none, .sl (c.codes.map Cod.cs) .none, .sl (VT.css c.vars) .none, .sl (c.exprs.map CEx.cs) .none]]) (by simp) (by simp) (hs.append rfl) ?_ ⟨_, rfl, i + 1, by omega, rfl, by simp, zb9 hil (by assumption) (by rw [hff]; exact ⟨by omega, by omega, by omega, hb4 rfl, hb⟩), rfl⟩⟩
        simp [ziC, AV.sc, AV.scV, AV.scA, AV.scB]
    ·obtain rfl : i = c.exprs.length := by omega
     rw [List.take_length] at hb
     simp [zny]
     exact Out.bool rfl (Nat.le_refl _) hs (hK true fun _ => ⟨hdata, by omega, by omega, hvars, ha, hb⟩)
def za5 (c : Cor) : AB := .cells [.sl (c.data.map Dat.cs) .none, .sl (c.codes.map Cod.cs) .none, .sl (VT.css c.vars) .none, .sl (c.exprs.map CEx.cs) .none]
theorem zfr {c : Cor} {i : Nat} (h : i < c.codes.length) : ∃ x y z, (c.codes[i]).res.cs = [x, y, z] ∧ x.known = true ∧ y.known = true ∧ z.known = true ∧ (c.codes[i]).cs = [.str (c.codes[i]).name, .sl (ints (c.codes[i]).params) .none, .sl (ints (c.codes[i]).capt) .none, x, y, z, .int .i64 (c.codes[i]).body] := by
 obtain ⟨x, y, z, hv, hx, hy, hz⟩ := vt3 (c.codes[i]).res
 refine ⟨x, y, z, hv, hx, hy, hz, ?_⟩
 rw [Cod.cs, hv]; rfl
theorem zdv {c : Cor} {i : Nat} (h : i < c.exprs.length) : ∃ x y z, (c.exprs[i]).ty.cs = [x, y, z] ∧ x.known = true ∧ y.known = true ∧ z.known = true ∧ (c.exprs[i]).cs = [.int .i64 (c.exprs[i]).op, .int .i64 (c.exprs[i]).num, .sl (ints (c.exprs[i]).vars) .none, .sl (rows (c.exprs[i]).binds) .none, .sl (ints (c.exprs[i]).kids) .none, x, y, z] := by
 obtain ⟨x, y, z, hv, hx, hy, hz⟩ := vt3 (c.exprs[i]).ty
 refine ⟨x, y, z, hv, hx, hy, hz, ?_⟩
 rw [CEx.cs, hv]
def zev (c : Cor) : Bool := decide (c.vars.length ≤ 3000) && c.vars.all (zav c.data 0)
theorem zxm : zcy tP zmv = true := by kernel_rfl
theorem zEH (c : Cor) (hc : zaR c) (H : zaa) (K : AV → zaa → Prop) (hK : K (.bool (zev c)) H) : ACalls tP zmk [.agg c.cs] H K := by
 refine ACalls.out (zEG fun hs => ?_)
 obtain ⟨k1, k2, k3, ⟨k4, k5⟩, k6, k7⟩ := hc
 have h1 : (c.vars.length : Int) ≤ 3000 := by omega
 have h2 : c.vars.length ≤ 3000 := by omega
 simp [zue, Cor.cs, h1, h2]
 refine ⟨rfl, ?_⟩
 have hO : ∀ J, Out H.length K (.bool (c.vars.all (zav c.data 0))) (H ++ J) := fun J => Out.bool rfl (Nat.le_refl _) hs (by simpa [zev, h2] using hK)
 refine zlH c.vars (by omega) _ _ _ (by simp [AV.sc, AV.scV, AV.scA, AV.scB]) (fun i H' => H' = H ++ [za5 c] ∧ ∀ v ∈ c.vars.take i, zav c.data 0 v = true) ⟨rfl, by simp⟩ ?_ ?_
 ·rintro i hi H' hle ⟨rfl, hp⟩
  simp only [aCallV, zxm]
  refine ACalls.out (zHK fun hs1 => ?_)
  simp [zvo, za5]
  refine zkw c.data 0 _ (by have := k5 _ (List.getElem_mem hi); omega) _ _ ?_
  cases hv : zav c.data 0 c.vars[i] with
  | true =>
   simp
   refine Out.bool (H2 := H ++ [za5 c]) (J := [.cells (c.vars[i]).cs]) (by simp [za5]) (by simp) hs1 (.inl ⟨rfl, rfl, zb9 hi hp hv⟩)
  | false =>
   simp
   refine Out.bool (H2 := H ++ [za5 c]) (J := [.cells (c.vars[i]).cs]) (by simp [za5]) (by simp) hs1 (.inr ⟨rfl, ?_⟩)
   have : c.vars.all (zav c.data 0) = false := by
    rw [List.all_eq_false]; exact ⟨_, List.getElem_mem hi, by simp [hv]⟩
   rw [this] at hO
   simpa using hO _
 ·rintro H' ⟨rfl, hp⟩
  rw [List.take_length] at hp
  have : c.vars.all (zav c.data 0) = true := by rw [List.all_eq_true]; exact hp
  rw [this] at hO
  simpa using hO _
theorem zzo (s : List UInt8) (l : List (List UInt8)) : ∃ l', zcz (zbi l) s (.bool true) = zbi l' ∧ ∀ x, x ∈ l' ↔ x ∈ l ∨ x = s := by
 induction l with
 | nil => exact ⟨[s], rfl, by simp⟩
 | cons a l ih =>
  cases h : a == s with
  | true =>
   have h' : a = s := by simpa using h
   refine ⟨a :: l, by simp [zbi, zcz, h, h'], ?_⟩
   intro x; subst h'; simp
   exact fun h => .inl h
  | false =>
   obtain ⟨l', h1, h2⟩ := ih
   refine ⟨a :: l', ?_, ?_⟩
   ·simp only [zbi, List.map_cons, zcz, h] at h1 ⊢; rw [h1]
   ·intro x; simp [h2, or_assoc]
def zlm (c : Cor) (i : Nat) : Prop := ∃ h : i < c.codes.length,
 ((c.codes[i]).name ≠ [] → (∀ j (hj : j < i), (c.codes[j]).name ≠ []) ∧ (∀ j (hj : j < i), (c.codes[j]).name ≠ (c.codes[i]).name) ∧ (c.codes[i]).capt = []) ∧ (c.codes[i]).params.length ≤ 6 ∧ zav c.data 0 (c.codes[i]).res = true ∧
 ∃ b : Nat, (c.codes[i]).body = b ∧ ∃ hb : b < c.exprs.length, (c.exprs[b]).ty.same (c.codes[i]).res = true
def zda (c : Cor) : Prop := ∀ i, i < c.codes.length → zlm c i
theorem zEO (c : Cor) (hc : zaR c) (H : zaa) (K : AV → zaa → Prop) (hK : ∀ b, (b = true ↔ zda c) → K (.bool b) H) : ACalls tP zml [.agg c.cs] H K := by
 refine ACalls.out (zEM fun hs => ?_)
 obtain ⟨k1, k2, k3, ⟨k4, k5⟩, k6, k7⟩ := hc
 have hF : ¬ zda c → ∀ J, Out H.length K (.bool false) (H ++ J) := fun h J => Out.bool rfl (Nat.le_refl _) hs (hK _ (by simp [h]))
 have hT : zda c → ∀ J, Out H.length K (.bool true) (H ++ J) := fun h J => Out.bool rfl (Nat.le_refl _) hs (hK _ (by simp [h]))
 have h1 : ¬ (64 : Int) < c.codes.length := by omega
 have h2 : ¬ (3000 : Int) < c.exprs.length := by omega
 simp [zuf, Cor.cs, h1, h2]
 refine zEK (Inv := fun q t4 t21 H' => ∃ (i : Nat) (lam : Bool) (l : List (List UInt8)), i ≤ c.codes.length ∧ q = c.codes.length - i ∧ t21 = .int .i64 i ∧ t4 = .bool lam ∧ (lam = true ↔ ∃ j, ∃ h : j < c.codes.length, j < i ∧ (c.codes[j]).name = []) ∧ (∀ s, s ∈ l ↔ ∃ j, ∃ h : j < c.codes.length, j < i ∧ (c.codes[j]).name = s) ∧ (∀ j, j < i → zlm c j) ∧ H' = H ++ [za5 c, .map (zbi l)]) c.codes.length ?_ ?_
 ·intro _; exact ⟨0, false, [], by omega, by omega, rfl, rfl, by simp, by simp, by simp, by simp [za5, zbi]⟩
 ·rintro q t4 t21 H' ⟨i, lam, l, hi, rfl, rfl, rfl, hlam, hl, hp, rfl⟩ hsc hlen hsF Kb hKb
  by_cases hlt : i < c.codes.length
  ·obtain ⟨x, y, z, hv, hx, hy, hz, hat⟩ := zfr hlt
   have hnb := (k6 _ (List.getElem_mem hlt)).2.2.2
   have hno : ¬ zlm c i → ∀ J, Out H.length K (.bool false) (H ++ J) := fun h => hF fun hh => h (hh i hlt)
   have body : (((c.codes[i]).name ≠ [] → (∀ j (hj : j < i), (c.codes[j]).name ≠ []) ∧ (∀ j (hj : j < i), (c.codes[j]).name ≠ (c.codes[i]).name) ∧ (c.codes[i]).capt = [])) → ∀ lam' : Bool, (lam' = true ↔ ∃ j, ∃ h : j < c.codes.length, j < i + 1 ∧ (c.codes[j]).name = []) →
     zgR (.ptr H.length 0) (.map (H.length + 1)) (.bool lam') (.ptr (H.length + 2) 0) (.sl (c.codes.map Cod.cs) .none) (.int .i64 c.codes.length) (.int .i64 i) (H ++ [za5 c, .map (zbi l), .cells [.str (c.codes[i]).name, .sl (ints (c.codes[i]).params) .none, .sl (ints (c.codes[i]).capt) .none, x, y, z, .int .i64 (c.codes[i]).body]]) (Out H.length K) Kb := by
    intro hcond lam' hlam'
    obtain ⟨l', hl1, hl2⟩ := zzo (c.codes[i]).name l
    have hlp : ∀ s, s ∈ l' ↔ ∃ j, ∃ h : j < c.codes.length, j < i + 1 ∧ (c.codes[j]).name = s := by
     intro s
     rw [hl2, hl]
     constructor
     ·rintro (⟨j, h, h1, h2⟩ | rfl)
      ·exact ⟨j, h, by omega, h2⟩
      ·exact ⟨i, hlt, by omega, rfl⟩
     ·rintro ⟨j, h, h1, h2⟩
      by_cases hji : j = i
      ·subst hji; exact .inr h2.symm
      ·exact .inl ⟨j, h, by omega, h2⟩
    by_cases hp6 : (c.codes[i]).params.length ≤ 6
    ·have hp6' : ¬ (6 : Int) < (c.codes[i]).params.length := by omega
     simp [zgR, hl1, za5, hp6']
     rw [← hv]
     refine zkw c.data 0 _ (by omega) _ _ ?_
     cases hty : zav c.data 0 (c.codes[i]).res with
     | false => simp; exact hno (by rintro ⟨_, _, _, h, _⟩; rw [hty] at h; cases h) _
     | true =>
     by_cases hb0 : (c.codes[i]).body < 0
     ·simp [hb0]; exact hno (by rintro ⟨_, _, _, _, b, h, _⟩; omega) _
     by_cases hbn : (c.codes[i]).body ≥ c.exprs.length
     ·have := hbn
      simp [hb0, hbn]; exact hno (by rintro ⟨_, _, _, _, b, h, h2, _⟩; omega) _
     obtain ⟨b, hb⟩ : ∃ b : Nat, (c.codes[i]).body = b := ⟨(c.codes[i]).body.toNat, by omega⟩
     have hbl : b < c.exprs.length := by omega
     have hbn' : ¬ (c.exprs.length : Int) ≤ b := by omega
     obtain ⟨x', y', z', hv', hx', hy', hz', hat'⟩ := zdv hbl
     have hnb' := (k7 _ (List.getElem_mem hbl)).2.2.2.1
     have hb0' : ¬ (b : Int) < 0 := by omega
     simp [hb, hb0', hbl, hbn', hat']
     rw [← hv, ← hv']
     refine zax (.bool ((c.exprs[b]).ty.same (c.codes[i]).res)) (fun J => zkx _ _ _ (Nat.le_refl _) (by omega) _ _ ⟨rfl, rfl⟩) ?_
     cases hsm : (c.exprs[b]).ty.same (c.codes[i]).res with
     | false =>
      simp
      refine hno ?_ _
      rintro ⟨_, _, _, _, b', h, h2, h3⟩
      obtain rfl : b' = b := by omega
      rw [hsm] at h3; cases h3
     | true =>
      simp
      rw [zaq (by omega) (by omega)]
      refine hKb _ _ ⟨c.codes.length - (i + 1), by omega, Back.at (J := [_]) (H2 := H ++ [za5 c, .map (zbi l')]) (by simp [za5]; rfl) (by simp) (hs.append (by rw [List.all_cons, List.all_cons, zsc]; rfl)) ?_ ⟨_, _, rfl, i + 1, lam', l', by omega, rfl, by simp, rfl, hlam', hlp, ?_, rfl⟩⟩
      ·simp [zjG, AV.sc, AV.scV, AV.scA, AV.scB]
      ·intro j hj
       by_cases hji : j = i
       ·subst hji; exact ⟨hlt, hcond, hp6, hty, b, hb, hbl, hsm⟩
       ·exact hp j (by omega)
    ·have hp6' : (6 : Int) < (c.codes[i]).params.length := by omega
     simp [zgR, hl1, za5, hp6']
     exact hno (by rintro ⟨_, _, h, _⟩; exact hp6 h) _
   cases hnm : ((c.codes[i]).name == []) with
   | true =>
    simp [ze6, hlt, hat, hx, hy, hz, hnm, Nat.add_assoc]
    refine body (fun h => absurd (by simpa using hnm) h) true ?_
    simp; exact ⟨i, by omega, hlt, by simpa using hnm⟩
   | false =>
    have hnm' : (c.codes[i]).name ≠ [] := by simpa using hnm
    cases lam with
    | true =>
     simp [ze6, hlt, hat, hx, hy, hz, hnm]
     refine hno ?_ _
     rintro ⟨_, h, _⟩
     obtain ⟨j, h1, h2, h3⟩ := hlam.1 rfl
     exact (h hnm').1 j h2 h3
    | false =>
    by_cases hmem : (c.codes[i]).name ∈ l
    ·simp [ze6, hlt, hat, hx, hy, hz, hnm, zdB, hmem]
     refine hno ?_ _
     rintro ⟨_, h, _⟩
     obtain ⟨j, h1, h2, h3⟩ := (hl _).1 hmem
     exact (h hnm').2.1 j h2 h3
    by_cases hcap : (c.codes[i]).capt.length > 0
    ·have hcap' : (0 : Int) < (c.codes[i]).capt.length := by omega
     simp [ze6, hlt, hat, hx, hy, hz, hnm, zdB, hmem, hcap, hcap']
     refine hno ?_ _
     rintro ⟨_, h, _⟩
     have := (h hnm').2.2
     rw [this] at hcap; simp at hcap
    ·have hcap' : ¬ (0 : Int) < (c.codes[i]).capt.length := by omega
     have hcap2 : (c.codes[i]).capt = [] := List.eq_nil_of_length_eq_zero (by omega)
     simp [ze6, hlt, hat, hx, hy, hz, hnm, zdB, hmem, hcap, hcap', Nat.add_assoc]
     refine body (fun _ => ⟨fun j hj h => ?_, fun j hj h => ?_, hcap2⟩) false ?_
     ·exact absurd (hlam.2 ⟨j, by omega, hj, h⟩) (by simp)
     ·exact hmem ((hl _).2 ⟨j, by omega, hj, h⟩)
     ·simp
      intro j hj h1 h2
      by_cases hji : j = i
      ·subst hji; exact hnm' h2
      ·exact absurd (hlam.2 ⟨j, h1, by omega, h2⟩) (by simp)
  ·obtain rfl : i = c.codes.length := by omega
   simp [ze6]
   exact hT hp _
theorem zh3 : ∀ (n : Nat) (S : List Int), S.Nodup → (∀ x ∈ S, 0 ≤ x ∧ x < n) → S.length ≤ n := by
 intro n
 induction n with
 | zero =>
  intro S _ h
  cases S with
  | nil => simp
  | cons a S => have := h a (by simp); omega
 | succ n ih =>
  intro S hS h
  by_cases hm : (n : Int) ∈ S
  ·have := ih (S.erase n) (hS.erase _) (fun x hx => by
    have h1 := h x (List.mem_of_mem_erase hx)
    have h2 : x ≠ n := by rintro rfl; exact (hS.not_mem_erase) hx
    omega)
   rw [List.length_erase_of_mem hm] at this
   omega
  ·have := ih S hS (fun x hx => by
    have h1 := h x hx
    have h2 : x ≠ n := by rintro rfl; exact hm hx
    omega)
   omega
def zcC (n : Nat) (S : List Int) : List Bool := (List.range n).map fun (i : Nat) => decide ((i : Int) ∈ S)
@[simp] theorem zOh (n : Nat) (S : List Int) : (zcC n S).length = n := by simp [zcC]
theorem zyc {n e : Nat} (S : List Int) (h : e < n) : (zcC n S)[e]? = some (decide ((e : Int) ∈ S)) := by simp [zcC, h]
theorem zw2 {n e : Nat} (S : List Int) (h : e < n) : (zaQ (zcC n S))[e]? = some (.bool (decide ((e : Int) ∈ S))) := by simp [zaQ, zyc S h]
@[simp] theorem zNC {l : List Bool} {i : Nat} (h : i < (zaQ l).length) : (zaQ l)[i] = .bool (l[i]'(by simpa using h)) := by simp [zaQ]
@[simp] theorem zOg {n i : Nat} {S : List Int} (h : i < (zcC n S).length) : (zcC n S)[i] = decide ((i : Int) ∈ S) := by simp [zcC]
theorem zrv (n : Nat) : List.replicate n false = zcC n [] := by
 apply List.ext_getElem <;> simp [zcC]
theorem zrw {n e : Nat} (S : List Int) (h : e < n) : (zcC n S).set e true = zcC n (S ++ [(e : Int)]) := by
 apply List.ext_getElem
 ·simp
 ·intro k h1 h2
  simp [List.getElem_set, zcC]
  by_cases hk : e = k
  ·subst hk; simp
  ·have : ¬ (k : Int) = e := by omega
   simp [hk, this]
def zaE (H : zaa) (c : Cor) (n : Nat) (S : List Int) : zaa := H ++ [za5 c, .cells (zaQ (zcC n S)), .cells [.ms (H.length + 1) 0 n n], .cells [.int .i64 S.length]]
theorem zeX {H : zaa} (hs : HSc H) (c : Cor) (n : Nat) (S : List Int) : HSc (zaE H c n S) := hs.append (by simp [AB.sc, za5, zdc])
theorem HSc.swap {A A' J : zaa} (h : HSc (A ++ J)) (hA : HSc A') (hl : A'.length = A.length) : HSc (A' ++ J) := by
 intro x hx
 rw [List.length_append, hl, ← List.length_append]
 rcases List.mem_append.1 hx with h1 | h1
 ·exact zqg (by rw [List.length_append]; omega) (hA x h1)
 ·exact h x (List.mem_append_right _ h1)
theorem zxk : zcy tP zhT = true := by kernel_rfl
theorem zqK {H : zaa} {c : Cor} {n e : Nat} {S : List Int} {J : zaa} (he : e < n) (hl : (S.length : Int) ≤ 1000000) (K : AV → zaa → Prop)
  (h1 : (e : Int) ∈ S → K (.bool false) (zaE H c n S ++ J)) (h2 : (e : Int) ∉ S → K (.bool true) (zaE H c n (S ++ [(e : Int)]) ++ J)) :
  aCallV tP (.fn zhT [.ptr (H.length + 2) 0, .ptr (H.length + 3) 0]) [.int .i64 e] (zaE H c n S ++ J) K := by
 simp only [aCallV, zxk]
 refine zH7 fun hs => ?_
 have hb := zw2 S he
 by_cases hm : (e : Int) ∈ S
 ·have h1 := h1 hm
  simp [zaE] at h1
  simp [zpp, zaE, he, zaK, hb, hm]
  exact h1
 ·have h2 := h2 hm
  simp [zaE] at h2
  simp [zpp, zaE, he, zaK, hb, hm]
  rw [zaq (by omega) (by omega), zdr (by simpa using he), zrw S he]
  exact ⟨by omega, h2⟩
def zbG (c : Cor) : List Int := c.codes.map Cod.body ++ c.exprs.flatMap CEx.kids
structure TreeP (c : Cor) : Prop where
 binds : ∀ i (h : i < c.exprs.length), (c.exprs[i]).binds.length = (c.exprs[i]).kids.length
 kids : ∀ i (h : i < c.exprs.length), ∀ k ∈ (c.exprs[i]).kids, (i : Int) < k ∧ k < c.exprs.length
 nodup : (zbG c).Nodup
 len : (zbG c).length = c.exprs.length
theorem zmG {A R : List Int} {s : Int} (h : s ∈ A) : ¬ (A ++ s :: R).Nodup := by
 rw [List.nodup_append]
 rintro ⟨_, _, h3⟩
 exact h3 s h s (by simp) rfl
theorem zmH {A : List Int} {s : Int} (h : A.Nodup) (hs : s ∉ A) : (A ++ [s]).Nodup := by
 rw [List.nodup_append]
 refine ⟨h, by simp, ?_⟩
 intro a ha b hb
 simp at hb; subst hb
 exact fun e => hs (e ▸ ha)
theorem zeW {α : Type} {l : List α} {i : Nat} (h : i < l.length) : l = l.take i ++ l[i] :: l.drop (i + 1) := by rw [List.getElem_cons_drop, List.take_append_drop]
theorem zbM {α : Type} {l : List α} {i : Nat} (h : i < l.length) : l.take (i + 1) = l.take i ++ [l[i]] := by rw [List.take_append_getElem h]
def zaN (c : Cor) (i : Nat) : List Int := (c.codes.take i).map Cod.body
theorem zw3 (c : Cor) (i : Nat) : (zaN c i).length = min i c.codes.length := by simp [zaN]
theorem zw5 {c : Cor} {i : Nat} (h : i < c.codes.length) : zaN c (i + 1) = zaN c i ++ [(c.codes[i]).body] := by
 have := congrArg (List.map Cod.body) (zbM h)
 rw [List.map_append] at this
 exact this
def zbe (c : Cor) (i : Nat) : List Int := (c.exprs.take i).flatMap CEx.kids
theorem zx4 {c : Cor} {i : Nat} (h : i < c.exprs.length) : zbe c (i + 1) = zbe c i ++ (c.exprs[i]).kids := by
 have := congrArg (List.flatMap CEx.kids) (zbM h)
 rw [List.flatMap_append] at this
 simpa [zbe] using this
theorem zqp (c : Cor) : zbG c = zaN c c.codes.length ++ zbe c c.exprs.length := by simp [zbG, zaN, zbe]
theorem zwJ {c : Cor} {i : Nat} (h : i < c.codes.length) : ∃ R, zbG c = zaN c i ++ (c.codes[i]).body :: R := by
 refine ⟨(c.codes.drop (i + 1)).map Cod.body ++ c.exprs.flatMap CEx.kids, ?_⟩
 have := congrArg (List.map Cod.body) (zeW h)
 rw [List.map_append, List.map_cons] at this
 rw [zbG, this, zaN, List.append_assoc]; rfl
theorem zwK {c : Cor} {i j : Nat} (h : i < c.exprs.length) (hj : j < (c.exprs[i]).kids.length) : ∃ R, zbG c = (zaN c c.codes.length ++ zbe c i ++ (c.exprs[i]).kids.take j) ++ (c.exprs[i]).kids[j] :: R := by
 refine ⟨(c.exprs[i]).kids.drop (j + 1) ++ (c.exprs.drop (i + 1)).flatMap CEx.kids, ?_⟩
 have h1 : c.exprs.flatMap CEx.kids = zbe c i ++ ((c.exprs[i]).kids ++ (c.exprs.drop (i + 1)).flatMap CEx.kids) := by
  have := congrArg (List.flatMap CEx.kids) (zeW h)
  rw [List.flatMap_append, List.flatMap_cons] at this
  exact this
 have h2 := zeW hj
 rw [zbG, h1]
 have h3 : zaN c c.codes.length = c.codes.map Cod.body := by simp [zaN]
 rw [h3]
 generalize (c.exprs.drop (i + 1)).flatMap CEx.kids = X at *
 generalize (c.exprs[i]).kids = Y at *
 have h4 : Y ++ X = Y.take j ++ Y[j] :: (Y.drop (j + 1) ++ X) := by
  have h5 : Y.take j ++ Y[j] :: (Y.drop (j + 1) ++ X) = (Y.take j ++ Y[j] :: Y.drop (j + 1)) ++ X := by rw [List.append_assoc, List.cons_append]
  rw [h5, ← h2]
 rw [h4]; simp
theorem zEZ (c : Cor) (hc : zaR c) (hbody : ∀ i (h : i < c.codes.length), ∃ b : Nat, (c.codes[i]).body = b ∧ b < c.exprs.length) (H : zaa) (K : AV → zaa → Prop) (hK : ∀ b, (b = true ↔ TreeP c) → K (.bool b) H) : ACalls tP zmm [.agg c.cs] H K := by
 refine ACalls.out (zEY fun hs => ?_)
 obtain ⟨k1, k2, k3, ⟨k4, k5⟩, k6, k7⟩ := hc
 have hF : ¬ TreeP c → ∀ J, Out H.length K (.bool false) (H ++ J) := fun h J => Out.bool rfl (Nat.le_refl _) hs (hK _ (by simp [h]))
 have hT : ∀ b : Bool, (b = true ↔ TreeP c) → ∀ J, Out H.length K (.bool b) (H ++ J) := fun b h J => Out.bool rfl (Nat.le_refl _) hs (hK _ h)
 generalize hn : c.exprs.length = n at *
 simp [zuh, Cor.cs, hn]
 simp only [zbc, Int.toNat_natCast, zeb, zrv]
 refine ⟨⟨by omega, by omega, by omega, by omega⟩, ?_⟩
 simp
 refine ⟨⟨rfl, rfl⟩, ?_⟩
 refine zEV (Inv := fun q t20 H' => ∃ i : Nat, i ≤ c.codes.length ∧ q = c.codes.length - i ∧ t20 = .int .i64 i ∧ (zaN c i).Nodup ∧ H' = zaE H c n (zaN c i)) c.codes.length ?_ ?_
 ·intro _; exact ⟨0, by omega, by omega, rfl, by simp [zaN], by simp [zaE, za5, zaN]⟩
 ·rintro q t20 H' ⟨i, hi, rfl, rfl, hnd, rfl⟩ hsc hlen hsF Kb hKb
  by_cases hlt : i < c.codes.length
  ·obtain ⟨x, y, z, hv, hx, hy, hz, hat⟩ := zfr hlt
   obtain ⟨b, hb, hbl⟩ := hbody i hlt
   simp [zoA, hlt, hat, hx, hy, hz]
   rw [hb]
   refine zqK (S := zaN c i) hbl (by rw [zw3]; omega) _ (fun hm => ?_) (fun hm => ?_)
   ·simp [zaE]
    refine hF (fun hp => ?_) _
    obtain ⟨R, hR⟩ := zwJ hlt
    have := hp.nodup
    rw [hR, hb] at this
    exact zmG hm this
   ·simp
    rw [zaq (by omega) (by omega)]
    have he : zaN c i ++ [(b : Int)] = zaN c (i + 1) := by rw [zw5 hlt, hb]
    refine hKb _ _ ⟨c.codes.length - (i + 1), by omega, Back.at (J := [_]) (H2 := zaE H c n (zaN c (i + 1))) (by rw [he]) (by simp [zaE]) (zeX hs _ _ _) ?_ ⟨_, rfl, i + 1, by omega, rfl, by simp, ?_, rfl⟩⟩
    ·simp [zjK, AV.sc, AV.scV, AV.scA, AV.scB, zaE]
    ·rw [← he]; exact zmH hnd hm
  ·obtain rfl : i = c.codes.length := by omega
   have hbr : ∀ x ∈ zaN c c.codes.length, 0 ≤ x ∧ x < n := by
    intro x hx
    simp [zaN] at hx
    obtain ⟨f, hf, rfl⟩ := hx
    obtain ⟨j, hj, rfl⟩ := List.getElem_of_mem hf
    obtain ⟨b, hb, hbl⟩ := hbody j hj
    omega
   simp [zoA, zaE, za5, hn]
   refine zET (Inv := fun q t33 H' => ∃ i : Nat, i ≤ n ∧ q = n - i ∧ t33 = .int .i64 i ∧ (∀ j (h : j < c.exprs.length), j < i → (c.exprs[j]).binds.length = (c.exprs[j]).kids.length ∧ ∀ k ∈ (c.exprs[j]).kids, (j : Int) < k ∧ k < n) ∧ (zaN c c.codes.length ++ zbe c i).Nodup ∧ (∀ x ∈ zbe c i, 0 ≤ x ∧ x < n) ∧ H' = zaE H c n (zaN c c.codes.length ++ zbe c i)) n ?_ ?_
   ·intro _; exact ⟨0, by omega, by omega, rfl, by omega, by simpa [zbe] using hnd, by simp [zbe], by simp [zaE, za5, zbe]⟩
   ·rintro q t33 H' ⟨i, hi, rfl, rfl, hok, hnd2, hrg, rfl⟩ hsc1 hlen1 hsF1 Kb1 hKb1
    by_cases hlt : i < n
    ·have hlt' : i < c.exprs.length := by omega
     obtain ⟨x, y, z, hv, hx, hy, hz, hat⟩ := zdv hlt'
     have hS : (zaN c c.codes.length ++ zbe c i).length ≤ n := zh3 n _ hnd2 (fun x hx => by
      rcases List.mem_append.1 hx with h | h
      ·exact hbr x h
      ·exact hrg x h)
     cases hbk : ((c.exprs[i]).binds.length == (c.exprs[i]).kids.length) with
     | false =>
      have hbk' : (((c.exprs[i]).binds.length : Int) != (c.exprs[i]).kids.length) = true := by simp at hbk ⊢; omega
      simp [zjH, hlt, hlt', hn, hat, hx, hy, hz, hbk']
      simp [zaE]
      refine hF (fun hp => ?_) _
      simp at hbk; exact hbk (hp.binds i hlt')
     | true =>
      have hbk' : (((c.exprs[i]).binds.length : Int) != (c.exprs[i]).kids.length) = false := by simp at hbk ⊢; omega
      simp [zjH, hlt, hlt', hn, hat, hx, hy, hz, hbk']
      have hal := fun j (hj : j < (c.exprs[i]).kids.length) => zwK hlt' hj
      have hks := zx4 hlt'
      have hek := (k7 _ (List.getElem_mem hlt')).2.2.1
      have hno : ¬ (∀ k ∈ (c.exprs[i]).kids, (i : Int) < k ∧ k < n) → ¬ TreeP c := fun h hp => h fun k hk => by
       have := hp.kids i hlt' k hk; omega
      generalize hE : c.exprs[i] = E at *
      refine zEU (Inv := fun q t48 H' => ∃ j : Nat, j ≤ E.kids.length ∧ q = E.kids.length - j ∧ t48 = .int .i64 j ∧ (∀ k ∈ E.kids.take j, (i : Int) < k ∧ k < n) ∧ (zaN c c.codes.length ++ zbe c i ++ E.kids.take j).Nodup ∧ ∃ J, H' = zaE H c n (zaN c c.codes.length ++ zbe c i ++ E.kids.take j) ++ J) E.kids.length ?_ ?_
      ·intro _; exact ⟨0, by omega, by omega, rfl, by simp, by simpa using hnd2, _, by simp; rfl⟩
      ·rintro q t48 H' ⟨j, hj, rfl, rfl, hkk, hnd3, J, rfl⟩ hsc2 hlen2 hsF2 Kb2 hKb2
       by_cases hjl : j < E.kids.length
       ·obtain ⟨R, hR⟩ := hal j hjl
        have hmem : E.kids[j] ∈ E.kids := List.getElem_mem hjl
        by_cases hle : E.kids[j] ≤ i
        ·simp [zgS, hjl, ints, hle]
         simp [zaE]
         refine hF (hno fun h => ?_) _
         have := h _ hmem; omega
        by_cases hge : (n : Int) ≤ E.kids[j]
        ·simp [zgS, hjl, ints, hle, zaE, za5, hn, hge]
         refine hF (hno fun h => ?_) _
         have := h _ hmem; omega
        obtain ⟨k, hk⟩ : ∃ k : Nat, E.kids[j] = k := ⟨(E.kids[j]).toNat, by omega⟩
        have hge' : ¬ n ≤ k := by omega
        have hle' : ¬ k ≤ i := by omega
        have hS3 : (zaN c c.codes.length ++ zbe c i ++ E.kids.take j).length ≤ 1000000 := by
         rw [List.length_append, List.length_take]; omega
        have hsplitj : zaN c c.codes.length ++ zbe c i ++ E.kids.take (j + 1) = (zaN c c.codes.length ++ zbe c i ++ E.kids.take j) ++ [(k : Int)] := by
         rw [zbM hjl, hk]; simp only [List.append_assoc]
        generalize hSS : zaN c c.codes.length ++ zbe c i ++ E.kids.take j = S3 at *
        have hC : za5 c = .cells [.sl (c.data.map Dat.cs) .none, .sl (c.codes.map Cod.cs) .none, .sl (VT.css c.vars) .none, .sl (c.exprs.map CEx.cs) .none] := rfl
        have hg0 : (zaE H c n S3 ++ J)[H.length]? = some (za5 c) := by simp [zaE]
        simp [zgS, hjl, ints, hk, hle', hg0, hC, hn, hge']
        refine zqK (S := S3) (by omega) (by omega) _ (fun hm => ?_) (fun hm => ?_)
        ·simp [zaE]
         refine hF (fun hp => ?_) _
         have := hp.nodup
         rw [hR, hk] at this
         exact zmG hm this
        ·simp
         rw [zaq (by omega) (by omega)]
         refine hKb2 _ _ ⟨E.kids.length - (j + 1), by omega, Back.at (J := []) (H2 := zaE H c n (S3 ++ [(k : Int)]) ++ J) (by simp) (by simpa [zaE] using hlen2) ?_ ?_ ⟨_, rfl, j + 1, by omega, rfl, by simp, ?_, ?_, J, by rw [hsplitj]⟩⟩
         ·exact HSc.swap hsc2 (zeX hs _ _ _) (by simp [zaE])
         ·simp [zjJ, AV.sc, AV.scV, AV.scA, AV.scB, zaE]
         ·exact zb9 hjl hkk (by rw [hk]; omega)
         ·rw [hsplitj]; exact zmH hnd3 hm
       ·obtain rfl : j = E.kids.length := by omega
        rw [List.take_length] at *
        simp [zgS]
        rw [zaq (by omega) (by omega)]
        refine hKb1 _ _ ⟨n - (i + 1), by omega, Back.at (J := J) (H2 := zaE H c n (zaN c c.codes.length ++ zbe c (i + 1))) (by rw [hks]) (by simp [zaE]) (zeX hs _ _ _) ?_ ⟨_, rfl, i + 1, by omega, rfl, by simp, ?_, ?_, ?_, rfl⟩⟩
        ·simp [zjI, AV.sc, AV.scV, AV.scA, AV.scB, zaE]
        ·intro j hj hji
         by_cases hje : j = i
         ·subst hje; rw [hE]; exact ⟨by simpa using hbk, hkk⟩
         ·exact hok j hj (by omega)
        ·rw [hks, ← List.append_assoc]; exact hnd3
        ·rw [hks]; intro x hx
         rcases List.mem_append.1 hx with h | h
         ·exact hrg x h
         ·have := hkk x h; omega
    ·obtain rfl : i = n := by omega
     simp [zjH, zaE, za5, hn]
     refine hT _ ?_ _
     have hal : zbG c = zaN c c.codes.length ++ zbe c i := by rw [zqp, hn]
     have hlen' : (zbG c).length = (zaN c c.codes.length).length + (zbe c i).length := by rw [hal]; simp
     constructor
     ·intro h
      refine ⟨fun j h => (hok j h (by omega)).1, fun j h k hk => ?_, by rw [hal]; exact hnd2, ?_⟩
      ·have := (hok j h (by omega)).2 k hk; omega
      ·simp at h; omega
     ·intro hp
      have := hp.len
      simp; omega
theorem zxf : zcy tP zhU = true := by kernel_rfl
theorem zlE {H : zaa} {c : Cor} {n : Nat} {l S : List Int} {J : zaa} (hsH : HSc H) (hl : S.length + l.length ≤ 1000000) (hnd : S.Nodup) (K : AV → zaa → Prop)
  (h1 : (∀ x ∈ l, 0 ≤ x ∧ x < n) → (S ++ l).Nodup → K (.bool true) (zaE H c n (S ++ l) ++ J)) (h2 : ¬ ((∀ x ∈ l, 0 ≤ x ∧ x < n) ∧ (S ++ l).Nodup) → ∀ S', K (.bool false) (zaE H c n S' ++ J)) :
  aCallV tP (.fn zhU [.ptr (H.length + 2) 0, .ptr (H.length + 3) 0]) [.sl (ints l) .none] (zaE H c n S ++ J) K := by
 simp only [aCallV, zxf]
 refine zIc fun hs => ?_
 simp [zvx]
 refine zIa (Inv := fun q t9 H' => ∃ j : Nat, j ≤ l.length ∧ q = l.length - j ∧ t9 = .int .i64 j ∧ (∀ x ∈ l.take j, 0 ≤ x ∧ x < (n : Int)) ∧ (S ++ l.take j).Nodup ∧ H' = zaE H c n (S ++ l.take j) ++ J) l.length ?_ ?_
 ·intro _; exact ⟨0, by omega, by omega, rfl, by simp, by simpa using hnd, by simp⟩
 ·rintro q t9 H' ⟨j, hj, rfl, rfl, hr, hn2, rfl⟩ hsc hlen hsF Kb hKb
  by_cases hjl : j < l.length
  ·have hsp := zeW hjl
   by_cases h0 : l[j] < 0
   ·simp [zfY, hjl, ints, h0]
    exact h2 (fun h => by have := h.1 _ (List.getElem_mem hjl); omega) _
   by_cases hge : (n : Int) ≤ l[j]
   ·simp [zfY, hjl, ints, h0, zaE, hge]
    have := h2 (fun h => by have := h.1 _ (List.getElem_mem hjl); omega) (S ++ l.take j)
    simpa [zaE] using this
   obtain ⟨e, he⟩ : ∃ e : Nat, l[j] = e := ⟨(l[j]).toNat, by omega⟩
   have hen : e < n := by omega
   have hen' : ¬ n ≤ e := by omega
   have he0 : ¬ (e : Int) < 0 := by omega
   have hnx : S ++ l.take (j + 1) = (S ++ l.take j) ++ [(e : Int)] := by rw [zbM hjl, he, List.append_assoc]
   have hlS : (S ++ l.take j).length ≤ 1000000 := by rw [List.length_append, List.length_take]; omega
   by_cases hm : (e : Int) ∈ S ++ l.take j
   ·have h3 := h2 (fun h => by
     have := h.2
     rw [hsp, ← List.append_assoc, he] at this
     exact zmG hm this) (S ++ l.take j)
    generalize S ++ l.take j = S1 at *
    simp [zfY, hjl, ints, he, he0, zaE, hen, hen', zaK, hm]
    simpa [zaE] using h3
   ·have hkb := hKb
    generalize hS1 : S ++ l.take j = S1 at *
    simp [zfY, hjl, ints, he, he0, zaE, hen, hen', zaK, hm]
    rw [zaq (by omega) (by omega), zaq (by omega) (by omega), zdr (by simpa using hen), zrw S1 hen]
    refine ⟨by omega, hKb _ _ ⟨l.length - (j + 1), by omega, Back.at (J := []) (H2 := zaE H c n (S1 ++ [(e : Int)]) ++ J) (by simp [zaE]) (by simp [zaE]) ?_ ?_ ⟨_, rfl, j + 1, by omega, rfl, by simp, ?_, ?_, by rw [hnx]⟩⟩⟩
    ·exact HSc.swap hs (zeX hsH _ _ _) (by simp [zaE])
    ·simp [zkF, AV.sc, AV.scV, AV.scA, AV.scB, zaE]
    ·exact zb9 hjl hr (by rw [he]; omega)
    ·rw [hnx]; exact zmH hn2 hm
  ·obtain rfl : j = l.length := by omega
   rw [List.take_length] at *
   simp [zfY]
   exact h1 hr hn2
def zbS (c : Cor) : List Int := (c.codes.flatMap fun f => f.params ++ f.capt) ++ c.exprs.flatMap fun e => e.binds.flatten
structure BindP (c : Cor) : Prop where
 range : ∀ x ∈ zbS c, 0 ≤ x ∧ x < c.vars.length
 nodup : (zbS c).Nodup
 len : (zbS c).length = c.vars.length
def zaS (c : Cor) (i : Nat) : List Int := (c.codes.take i).flatMap fun f => f.params ++ f.capt
def zbA (c : Cor) (i : Nat) : List Int := (c.exprs.take i).flatMap fun e => e.binds.flatten
theorem zrX {c : Cor} {i : Nat} (h : i < c.codes.length) : zaS c (i + 1) = zaS c i ++ ((c.codes[i]).params ++ (c.codes[i]).capt) := by
 have := congrArg (List.flatMap fun f : Cod => f.params ++ f.capt) (zbM h)
 rw [List.flatMap_append] at this
 simpa [zaS] using this
theorem zqA {c : Cor} {i : Nat} (h : i < c.exprs.length) : zbA c (i + 1) = zbA c i ++ (c.exprs[i]).binds.flatten := by
 have := congrArg (List.flatMap fun e : CEx => e.binds.flatten) (zbM h)
 rw [List.flatMap_append] at this
 simpa [zbA] using this
theorem zqq (c : Cor) : zbS c = zaS c c.codes.length ++ zbA c c.exprs.length := by simp [zbS, zaS, zbA]
theorem zwM {c : Cor} {i : Nat} (h : i < c.codes.length) : ∃ R, zbS c = zaS c i ++ ((c.codes[i]).params ++ ((c.codes[i]).capt ++ R)) := by
 refine ⟨((c.codes.drop (i + 1)).flatMap fun f => f.params ++ f.capt) ++ c.exprs.flatMap fun e => e.binds.flatten, ?_⟩
 have := congrArg (List.flatMap fun f : Cod => f.params ++ f.capt) (zeW h)
 rw [List.flatMap_append, List.flatMap_cons] at this
 rw [zbS, this, zaS]
 simp only [List.append_assoc]
theorem zwL {c : Cor} {i : Nat} (h : i < c.exprs.length) {j : Nat} (hj : j < (c.exprs[i]).binds.length) : ∃ R, zbS c = (zaS c c.codes.length ++ zbA c i ++ ((c.exprs[i]).binds.take j).flatten) ++ ((c.exprs[i]).binds[j] ++ R) := by
 refine ⟨((c.exprs[i]).binds.drop (j + 1)).flatten ++ (c.exprs.drop (i + 1)).flatMap fun e => e.binds.flatten, ?_⟩
 have h1 := congrArg (List.flatMap fun e : CEx => e.binds.flatten) (zeW h)
 rw [List.flatMap_append, List.flatMap_cons] at h1
 have h2 := congrArg List.flatten (zeW hj)
 rw [List.flatten_append, List.flatten_cons] at h2
 rw [zbS, h1, h2, zbA]
 have h3 : zaS c c.codes.length = c.codes.flatMap fun f => f.params ++ f.capt := by simp [zaS]
 rw [h3]
 simp only [List.append_assoc]
theorem zyz {c : Cor} {A l R : List Int} (ha : zbS c = A ++ (l ++ R)) (h : ¬ ((∀ x ∈ l, 0 ≤ x ∧ x < (c.vars.length : Int)) ∧ (A ++ l).Nodup)) : ¬ BindP c := by
 intro hp
 refine h ⟨fun x hx => hp.range x (by rw [ha]; simp [hx]), ?_⟩
 have := hp.nodup
 rw [ha, ← List.append_assoc] at this
 exact (List.nodup_append.1 this).1
theorem zdf {α : Type} (f : α → List Int) (m : Nat) : ∀ l : List α, (∀ x ∈ l, (f x).length ≤ m) → (l.flatMap f).length ≤ l.length * m
 | [], _ => by simp
 | x :: l, h => by
  have h1 := zdf f m l (fun y hy => h y (by simp [hy]))
  have h2 := h x (by simp)
  rw [List.flatMap_cons, List.length_append, List.length_cons, Nat.add_mul]; omega
@[simp] theorem zOz (H : zaa) (c : Cor) (n : Nat) (S : List Int) : (zaE H c n S).length = H.length + 4 := by simp [zaE]
@[simp] theorem zOy (H : zaa) (c : Cor) (n : Nat) (S : List Int) (J : zaa) : (zaE H c n S ++ J)[H.length + 4]? = J[0]? := by simp [zaE]
theorem zFa (c : Cor) (hc : zaR c) (H : zaa) (K : AV → zaa → Prop) (hK : ∀ b, (b = true ↔ BindP c) → K (.bool b) H) : ACalls tP zmn [.agg c.cs] H K := by
 refine ACalls.out (zE9 fun hs => ?_)
 obtain ⟨k1, k2, k3, ⟨k4, k5⟩, k6, k7⟩ := hc
 have hF : ¬ BindP c → ∀ J, Out H.length K (.bool false) (H ++ J) := fun h J => Out.bool rfl (Nat.le_refl _) hs (hK _ (by simp [h]))
 have hT : ∀ b : Bool, (b = true ↔ BindP c) → ∀ J, Out H.length K (.bool b) (H ++ J) := fun b h J => Out.bool rfl (Nat.le_refl _) hs (hK _ h)
 have hbad : ∀ {A l R : List Int}, zbS c = A ++ (l ++ R) → ¬ ((∀ x ∈ l, 0 ≤ x ∧ x < (c.vars.length : Int)) ∧ (A ++ l).Nodup) → ¬ BindP c := fun h1 h2 => zyz h1 h2
 generalize hn : c.vars.length = n at *
 have hle : ∀ S : List Int, S.Nodup → (∀ x ∈ S, 0 ≤ x ∧ x < n) → S.length ≤ n := zh3 n
 simp [zuo, Cor.cs, hn]
 simp only [zbc, Int.toNat_natCast, zeb, zrv]
 refine ⟨⟨by omega, by omega, by omega, by omega⟩, ?_⟩
 simp
 refine ⟨⟨rfl, rfl⟩, ?_⟩
 refine zE6 (Inv := fun q t20 H' => ∃ i : Nat, i ≤ c.codes.length ∧ q = c.codes.length - i ∧ t20 = .int .i64 i ∧ (zaS c i).Nodup ∧ (∀ x ∈ zaS c i, 0 ≤ x ∧ x < n) ∧ H' = zaE H c n (zaS c i)) c.codes.length ?_ ?_
 ·intro _; exact ⟨0, by omega, by omega, rfl, by simp [zaS], by simp [zaS], by simp [zaE, za5, zaS]⟩
 ·rintro q t20 H' ⟨i, hi, rfl, rfl, hnd, hrg, rfl⟩ hsc hlen hsF Kb hKb
  have hSn := hle _ hnd hrg
  by_cases hlt : i < c.codes.length
  ·obtain ⟨x, y, z, hv, hx, hy, hz, hat⟩ := zfr hlt
   obtain ⟨R, hR⟩ := zwM hlt
   have hps := zrX hlt
   obtain ⟨_, kp, kc, _⟩ := k6 _ (List.getElem_mem hlt)
   generalize hf : c.codes[i] = f at *
   simp [zoE, hlt, hf, hat, hx, hy, hz]
   refine zlE (S := zaS c i) hs (by omega) hnd _ (fun hr1 hn1 => ?_) (fun hb S' => ?_)
   ·simp
    have hl1 := hle _ hn1 (fun x hx => by
     rcases List.mem_append.1 hx with h | h
     ·exact hrg x h
     ·exact hr1 x h)
    refine zlE (S := zaS c i ++ f.params) (l := f.capt) hs (by omega) hn1 _ (fun hr2 hn2 => ?_) (fun hb S' => ?_)
    ·simp
     rw [zaq (by omega) (by omega)]
     have he : zaS c i ++ (f.params ++ f.capt) = zaS c (i + 1) := by rw [hps]
     refine hKb _ _ ⟨c.codes.length - (i + 1), by omega, Back.at (J := [_]) (H2 := zaE H c n (zaS c (i + 1))) (by rw [he]) (by simp [zaE]) (zeX hs _ _ _) ?_ ⟨_, rfl, i + 1, by omega, rfl, by simp, ?_, ?_, rfl⟩⟩
     ·simp [zjN, AV.sc, AV.scV, AV.scA, AV.scB, zaE]
     ·rw [hps, ← List.append_assoc]; exact hn2
     ·rw [hps]; intro x hx
      rcases List.mem_append.1 hx with h | h
      ·exact hrg x h
      ·rcases List.mem_append.1 h with h | h
       ·exact hr1 x h
       ·exact hr2 x h
    ·simp [zaE]
     exact hF (hbad (by rw [hR, List.append_assoc]) hb) _
   ·simp [zaE]
    exact hF (hbad hR hb) _
  ·obtain rfl : i = c.codes.length := by omega
   simp [zoE, zaE, za5]
   refine zE4 (Inv := fun q t40 H' => ∃ i : Nat, i ≤ c.exprs.length ∧ q = c.exprs.length - i ∧ t40 = .int .i64 i ∧ (zaS c c.codes.length ++ zbA c i).Nodup ∧ (∀ x ∈ zaS c c.codes.length ++ zbA c i, 0 ≤ x ∧ x < n) ∧ H' = zaE H c n (zaS c c.codes.length ++ zbA c i)) c.exprs.length ?_ ?_
   ·intro _; exact ⟨0, by omega, by omega, rfl, by simpa [zbA] using hnd, by simpa [zbA] using hrg, by simp [zaE, za5, zbA]⟩
   ·rintro q t40 H' ⟨i, hi, rfl, rfl, hnd, hrg, rfl⟩ hsc1 hlen1 hsF1 Kb1 hKb1
    have hSn := hle _ hnd hrg
    by_cases hlt : i < c.exprs.length
    ·obtain ⟨x, y, z, hv, hx, hy, hz, hat⟩ := zdv hlt
     have hal := fun j hj => zwL hlt (j := j) hj
     have hbs := zqA hlt
     obtain ⟨_, kb, _, _, kbl⟩ := k7 _ (List.getElem_mem hlt)
     generalize hE : c.exprs[i] = E at *
     simp [zoC, hlt, hE, hat, hx, hy, hz]
     refine zE5 (Inv := fun q t47 H' => ∃ j : Nat, j ≤ E.binds.length ∧ q = E.binds.length - j ∧ t47 = .int .i64 j ∧ (zaS c c.codes.length ++ zbA c i ++ (E.binds.take j).flatten).Nodup ∧ (∀ x ∈ zaS c c.codes.length ++ zbA c i ++ (E.binds.take j).flatten, 0 ≤ x ∧ x < n) ∧ ∃ J, H' = zaE H c n (zaS c c.codes.length ++ zbA c i ++ (E.binds.take j).flatten) ++ J) E.binds.length ?_ ?_
     ·intro _; exact ⟨0, by omega, by omega, rfl, by simpa using hnd, by simpa using hrg, _, by simp; rfl⟩
     ·rintro q t47 H' ⟨j, hj, rfl, rfl, hnd3, hrg3, J, rfl⟩ hsc2 hlen2 hsF2 Kb2 hKb2
      by_cases hjl : j < E.binds.length
      ·obtain ⟨R, hR⟩ := hal j hjl
       have hkl := kbl _ (List.getElem_mem hjl)
       have hS3 := hle _ hnd3 hrg3
       have hnx : zaS c c.codes.length ++ zbA c i ++ (E.binds.take (j + 1)).flatten = (zaS c c.codes.length ++ zbA c i ++ (E.binds.take j).flatten) ++ E.binds[j] := by
        rw [zbM hjl, List.flatten_append]; simp
       generalize hSS : zaS c c.codes.length ++ zbA c i ++ (E.binds.take j).flatten = S3 at *
       simp [zoD, hjl, rows]
       refine zlE (S := S3) hs (by omega) hnd3 _ (fun hr1 hn1 => ?_) (fun hb S' => ?_)
       ·simp
        rw [zaq (by omega) (by omega)]
        refine hKb2 _ _ ⟨E.binds.length - (j + 1), by omega, Back.at (J := []) (H2 := zaE H c n (S3 ++ E.binds[j]) ++ J) (by simp) (by simpa [zaE] using hlen2) ?_ ?_ ⟨_, rfl, j + 1, by omega, rfl, by simp, ?_, ?_, J, by rw [hnx]⟩⟩
        ·exact HSc.swap hsc2 (zeX hs _ _ _) (by simp [zaE])
        ·simp [zjM, AV.sc, AV.scV, AV.scA, AV.scB, zaE]
        ·rw [hnx]; exact hn1
        ·rw [hnx]; intro x hx
         rcases List.mem_append.1 hx with h | h
         ·exact hrg3 x h
         ·exact hr1 x h
       ·simp [zaE]
        exact hF (hbad hR hb) _
      ·obtain rfl : j = E.binds.length := by omega
       rw [List.take_length] at *
       simp [zoD]
       rw [zaq (by omega) (by omega)]
       refine hKb1 _ _ ⟨c.exprs.length - (i + 1), by omega, Back.at (J := J) (H2 := zaE H c n (zaS c c.codes.length ++ zbA c (i + 1))) (by rw [hbs]) (by simp [zaE]) (zeX hs _ _ _) ?_ ⟨_, rfl, i + 1, by omega, rfl, by simp, ?_, ?_, rfl⟩⟩
       ·simp [zjL, AV.sc, AV.scV, AV.scA, AV.scB, zaE]
       ·rw [hbs, ← List.append_assoc]; exact hnd3
       ·rw [hbs, ← List.append_assoc]; exact hrg3
    ·obtain rfl : i = c.exprs.length := by omega
     simp [zoC, zaE, za5, hn]
     refine hT _ ?_ _
     have hal : zbS c = zaS c c.codes.length ++ zbA c c.exprs.length := zqq c
     have hlen' : (zbS c).length = (zaS c c.codes.length).length + (zbA c c.exprs.length).length := by rw [hal]; simp
     constructor
     ·intro h
      refine ⟨by rw [hal, hn]; exact hrg, by rw [hal]; exact hnd, ?_⟩
      simp at h; omega
     ·intro hp
      have := hp.len
      simp; omega
@[congr] theorem zLC {m : WM} {g : Bool} {H : zaa} {p : (AV → zaa → Prop) → Prop} {k : AV → zaa → Prop} : zbt m g H p k = zbt m g H p k := rfl
theorem zdb {H : zaa} {p : (AV → zaa → Prop) → Prop} {k : AV → zaa → Prop} (r : AV) (H' : zaa) (h : p fun v H2 => v = r ∧ H2 = H') (hk : k r H') : zbt .w false H p k := ⟨r, H', h, (fun h => by cases h), hk⟩
theorem zlq {H : zaa} {g : Bool} {p : (AV → zaa → Prop) → Prop} {k : AV → zaa → Prop} (r : AV) (H' : zaa) (h : p fun v H2 => v = r ∧ H2 = H') (hg : GrowA H H') (hk : k r H') : zbt .g g H p k := ⟨r, H', h, fun _ => hg, hk⟩
theorem zeI {H : zaa} {g : Bool} {p : (AV → zaa → Prop) → Prop} {k : AV → zaa → Prop} (r : AV) (h : p fun v H2 => v = r ∧ H2 = H) (hk : k r H) : zbt .g g H p k := ⟨r, H, h, fun _ => .inl rfl, hk⟩
@[simp] theorem zN1 {l : List Int} {i : Nat} (h : i < (ints l).length) : (ints l)[i] = [.int .i64 (l[i]'(by simpa using h))] := by simp [ints]
@[simp] theorem zOi {l : List (List Int)} {i : Nat} (h : i < (rows l).length) : (rows l)[i] = [.sl (ints (l[i]'(by simpa using h))) .none] := by simp [rows]
def zaz (st : List Bool) (l : List Int) (b : Bool) : List Bool := l.foldl (fun st v => st.set v.toNat b) st
@[simp] theorem zm0 (l : List Int) (b : Bool) : ∀ st : List Bool, (zaz st l b).length = st.length := by
 induction l with
 | nil => intro st; rfl
 | cons v l ih => intro st; rw [zaz, List.foldl_cons, ← zaz, ih]; simp
theorem zie (st : List Bool) (v : Int) (l : List Int) (b : Bool) : zaz st (v :: l) b = zaz (st.set v.toNat b) l b := rfl
theorem zif (st : List Bool) (v : Int) (l : List Int) (b : Bool) : zaz st (l ++ [v]) b = (zaz st l b).set v.toNat b := by simp [zaz]
mutual
def zaZ (c : Cor) : Nat → Nat → List Bool → Option (List Bool)
 | 0, _, _ => none
 | m + 1, i, st => match c.exprs[i]? with
  | none => none
  | some e => if e.vars.all (fun v => decide (0 ≤ v) && st.getD v.toNat false) = true then zby c m e.binds e.kids st else none
termination_by m _ _ => (m, 0)
def zby (c : Cor) (m : Nat) : List (List Int) → List Int → List Bool → Option (List Bool)
 | b :: bs, k :: ks, st => match zaZ c m k.toNat (zaz st b true) with
  | none => none
  | some st' => zby c m bs ks (zaz st' b false)
 | [], _, st => some st
 | _ :: _, [], st => some st
termination_by bs _ _ => (m, bs.length + 1)
end
def zaJ (H : zaa) (c : Cor) (st : List Bool) : zaa := H ++ [za5 c, .cells (zaQ st), .cells [.ms (H.length + 1) 0 c.vars.length c.vars.length], .cells [.fn zek [.ptr (H.length + 2) 0]],
 .cells [.fn zel [.ptr H.length 0, .ptr (H.length + 2) 0, .ptr (H.length + 3) 0, .ptr (H.length + 4) 0]]]
theorem zmV {H : zaa} (hs : HSc H) (c : Cor) (st : List Bool) : HSc (zaJ H c st) := hs.append (by simp [AB.sc, za5, zdc, AV.scA, AV.scB])
@[simp] theorem zOu (H : zaa) (c : Cor) (st : List Bool) : (zaJ H c st).length = H.length + 5 := by simp [zaJ]
theorem zxi : zcy tP zek = true := by kernel_rfl
theorem zxj : zcy tP zel = true := by kernel_rfl
theorem zfM {H : zaa} {c : Cor} {l : List Int} {st : List Bool} {b : Bool} {J : zaa} (hsH : HSc H) (hst : st.length = c.vars.length) (hl : l.length ≤ 1000000) (hr : ∀ x ∈ l, 0 ≤ x ∧ x < (c.vars.length : Int)) (K : AV → zaa → Prop)
  (hK : K (.tup []) (zaJ H c (zaz st l b) ++ J)) :
  aCallV tP (.fn zek [.ptr (H.length + 2) 0]) [.sl (ints l) .none, .bool b] (zaJ H c st ++ J) K := by
 simp only [aCallV, zxi]
 refine zIi fun hs => ?_
 simp [zvz]
 refine zIg (Inv := fun q t9 H' => ∃ j : Nat, j ≤ l.length ∧ q = l.length - j ∧ t9 = .int .i64 j ∧ H' = zaJ H c (zaz st (l.take j) b) ++ J) l.length ?_ ?_
 ·intro _; exact ⟨0, by omega, by omega, rfl, by simp [zaz]⟩
 ·rintro q t9 H' ⟨j, hj, rfl, rfl, rfl⟩ hsc hlen hsF Kb hKb
  by_cases hjl : j < l.length
  ·have hrr := hr _ (List.getElem_mem hjl)
   obtain ⟨e, he⟩ : ∃ e : Nat, l[j] = e := ⟨(l[j]).toNat, by omega⟩
   have hen : e < c.vars.length := by omega
   have hnx : zaz st (l.take (j + 1)) b = (zaz st (l.take j) b).set e b := by rw [zbM hjl, zif, he]; rfl
   have hsl : (zaz st (l.take j) b).length = c.vars.length := by rw [zm0, hst]
   generalize zaz st (l.take j) b = st1 at *
   simp [zpr, hjl, ints, he, zaJ, hen, hsl]
   rw [zaq (by omega) (by omega), zdr (by omega)]
   refine ⟨by omega, hKb _ _ ⟨l.length - (j + 1), by omega, Back.at (J := []) (H2 := zaJ H c (st1.set e b) ++ J) (by simp [zaJ]) (by simp [zaJ]) ?_ ?_ ⟨_, rfl, j + 1, by omega, rfl, by simp, by rw [hnx]⟩⟩⟩
   ·exact HSc.swap hs (zmV hsH _ _) (by simp [zaJ])
   ·simp [zkH, AV.sc, AV.scV, AV.scA, AV.scB, zaJ]
  ·obtain rfl : j = l.length := by omega
   rw [List.take_length] at *
   simp [zpr]
   simpa [zaW] using hK
structure InP (c : Cor) : Prop where
 kcore : zaR c
 binds : ∀ i (h : i < c.exprs.length), (c.exprs[i]).binds.length = (c.exprs[i]).kids.length
 kids : ∀ i (h : i < c.exprs.length), ∀ k ∈ (c.exprs[i]).kids, (i : Int) < k ∧ k < c.exprs.length
 brange : ∀ i (h : i < c.exprs.length), ∀ l ∈ (c.exprs[i]).binds, ∀ x ∈ l, 0 ≤ x ∧ x < (c.vars.length : Int)
 crange : ∀ i (h : i < c.codes.length), (∀ x ∈ (c.codes[i]).params, 0 ≤ x ∧ x < (c.vars.length : Int)) ∧ ∀ x ∈ (c.codes[i]).capt, 0 ≤ x ∧ x < (c.vars.length : Int)
 body : ∀ i (h : i < c.codes.length), ∃ b : Nat, (c.codes[i]).body = b ∧ b < c.exprs.length
theorem zAr (c : Cor) (m : Nat) {bs : List (List Int)} {ks : List Int} {j : Nat} (h1 : j < bs.length) (h2 : j < ks.length) (st : List Bool) : zby c m (bs.drop j) (ks.drop j) st = match zaZ c m (ks[j]).toNat (zaz st bs[j] true) with
  | none => none
  | some st' => zby c m (bs.drop (j + 1)) (ks.drop (j + 1)) (zaz st' bs[j] false) := by
 rw [List.drop_eq_getElem_cons h1, List.drop_eq_getElem_cons h2, zby]
theorem zAw {c : Cor} (hp : InP c) {H : zaa} (hsH : HSc H) : ∀ (m i : Nat), c.exprs.length - i ≤ m → i < c.exprs.length → ∀ (st : List Bool) (J : zaa), st.length = c.vars.length → ∀ (K : AV → zaa → Prop),
  (∀ st', zaZ c m i st = some st' → st'.length = c.vars.length → K (.bool true) (zaJ H c st' ++ J)) → (zaZ c m i st = none → ∀ st', st'.length = c.vars.length → K (.bool false) (zaJ H c st' ++ J)) →
  aCallV tP (.fn zel [.ptr H.length 0, .ptr (H.length + 2) 0, .ptr (H.length + 3) 0, .ptr (H.length + 4) 0]) [.int .i64 i] (zaJ H c st ++ J) K := by
 intro m
 induction m with
 | zero => intro i h1 h2; omega
 | succ m ih =>
 intro i hm hi st J hst K hK1 hK2
 simp only [aCallV, zxj]
 refine ACalls.out (zIs fun hs => ?_)
 obtain ⟨x, y, z, hv, hx, hy, hz, hat⟩ := zdv hi
 obtain ⟨k1, k2, k3, ⟨k4, k5⟩, k6, k7⟩ := hp.kcore
 obtain ⟨kv, kb, kk, _, kbl⟩ := k7 _ (List.getElem_mem hi)
 have hbk := hp.binds i hi
 have hkd := hp.kids i hi
 have hbr := hp.brange i hi
 have hvis : zaZ c (m + 1) i st = if (c.exprs[i]).vars.all (fun v => decide (0 ≤ v) && st.getD v.toNat false) = true then zby c m (c.exprs[i]).binds (c.exprs[i]).kids st else none := by
  rw [zaZ, List.getElem?_eq_getElem hi]
 rw [hvis] at hK1 hK2
 have hC : za5 c = .cells [.sl (c.data.map Dat.cs) .none, .sl (c.codes.map Cod.cs) .none, .sl (VT.css c.vars) .none, .sl (c.exprs.map CEx.cs) .none] := rfl
 have hg0 : ∀ st J, (zaJ H c st ++ J)[H.length]? = some (za5 c) := by intro st J; simp [zaJ]
 have hg1 : ∀ st J, (zaJ H c st ++ J)[H.length + 1]? = some (.cells (zaQ st)) := by intro st J; simp [zaJ]
 have hg2 : ∀ st J, (zaJ H c st ++ J)[H.length + 2]? = some (.cells [.ms (H.length + 1) 0 c.vars.length c.vars.length]) := by intro st J; simp [zaJ]
 have hg3 : ∀ st J, (zaJ H c st ++ J)[H.length + 3]? = some (.cells [.fn zek [.ptr (H.length + 2) 0]]) := by intro st J; simp [zaJ]
 have hg4 : ∀ st J, (zaJ H c st ++ J)[H.length + 4]? = some (.cells [.fn zel [.ptr H.length 0, .ptr (H.length + 2) 0, .ptr (H.length + 3) 0, .ptr (H.length + 4) 0]]) := by intro st J; simp [zaJ]
 have hg5 : ∀ st X, (zaJ H c st ++ (J ++ [X]))[H.length + 5 + J.length]? = some X := by
  intro st X
  have : H.length + 5 + J.length = (zaJ H c st ++ J).length := by simp
  rw [← List.append_assoc, this, zrh]; rfl
 have hlenJ : ∀ st', (zaJ H c st' ++ J).length = (zaJ H c st ++ J).length := by intro st'; simp
 have hscJ : ∀ st', HSc (zaJ H c st' ++ J) := fun st' => HSc.swap hs (zmV hsH _ _) (by simp)
 have hO : ∀ (b : Bool) st' J', K (.bool b) (zaJ H c st' ++ J) → Out (zaJ H c st ++ J).length K (.bool b) (zaJ H c st' ++ J ++ J') := fun b st' J' h => Out.bool rfl (by simp) (hscJ st') h
 simp [zvB, hg0, hC, hi, hat, hx, hy, hz]
 have hOt : ∀ st' X, zby c m (c.exprs[i]).binds (c.exprs[i]).kids st = some st' → (c.exprs[i]).vars.all (fun v => decide (0 ≤ v) && st.getD v.toNat false) = true → st'.length = c.vars.length → Out (H.length + 5 + J.length) K (.bool true) (zaJ H c st' ++ (J ++ [X])) := fun st' X h1 h2 h3 => by
  have := hO true st' [X] (hK1 st' (by rw [if_pos h2]; exact h1) h3)
  simpa using this
 have hOf : ∀ st' X, (if (c.exprs[i]).vars.all (fun v => decide (0 ≤ v) && st.getD v.toNat false) = true then zby c m (c.exprs[i]).binds (c.exprs[i]).kids st else none) = none → st'.length = c.vars.length → Out (H.length + 5 + J.length) K (.bool false) (zaJ H c st' ++ (J ++ [X])) := fun st' X h1 h3 => by
  have := hO false st' [X] (hK2 h1 st' h3)
  simpa using this
 have hscX : ∀ st' X, X.sc (H.length + 5 + J.length + 1) = true → HSc (zaJ H c st' ++ (J ++ [X])) := fun st' X h => by
  rw [← List.append_assoc]; exact (hscJ st').snoc (by simpa using h)
 generalize hE : c.exprs[i] = E at *
 generalize hX : AB.cells [.int .i64 E.op, .int .i64 E.num, .sl (ints E.vars) .none, .sl (rows E.binds) .none, .sl (ints E.kids) .none, x, y, z] = X at *
 have hXs : X.sc (H.length + 5 + J.length + 1) = true := by
  rw [← hX]
  have := VT.cs_scA E.ty (H.length + 5 + J.length + 1)
  rw [hv] at this
  simp at this
  simp [AB.sc, this]
 refine zIo (Inv := fun q t20 H' => ∃ j : Nat, j ≤ E.vars.length ∧ q = E.vars.length - j ∧ t20 = .int .i64 j ∧ (∀ v ∈ E.vars.take j, (decide (0 ≤ v) && st.getD v.toNat false) = true) ∧ H' = zaJ H c st ++ (J ++ [X])) E.vars.length ?_ ?_
 ·intro _; exact ⟨0, by omega, by omega, rfl, by simp, rfl⟩
 ·rintro q t20 H' ⟨j, hj, rfl, rfl, hok, rfl⟩ hsc hlen hsF Kb hKb
  by_cases hjl : j < E.vars.length
  ·have hbad : (decide (0 ≤ E.vars[j]) && st.getD (E.vars[j]).toNat false) = false → Out (H.length + 5 + J.length) K (.bool false) (zaJ H c st ++ (J ++ [X])) := fun h => by
    refine hOf _ _ ?_ hst
    rw [if_neg]
    intro h'
    rw [List.all_eq_true] at h'
    have := h' _ (List.getElem_mem hjl)
    rw [h] at this; cases this
   by_cases h0 : E.vars[j] < 0
   ·simp [zfZ, hjl, ints, h0]
    exact hbad (by simp; omega)
   by_cases hge : (c.vars.length : Int) ≤ E.vars[j]
   ·simp [zfZ, hjl, ints, h0, hg2, hge]
    exact hbad (by
     have : st.length ≤ (E.vars[j]).toNat := by omega
     simp [List.getElem?_eq_none this])
   obtain ⟨e, he⟩ : ∃ e : Nat, E.vars[j] = e := ⟨(E.vars[j]).toNat, by omega⟩
   have hen : e < c.vars.length := by omega
   have hen' : ¬ c.vars.length ≤ e := by omega
   have he0 : ¬ (e : Int) < 0 := by omega
   have hes : e < st.length := by omega
   cases hse : st[e] with
   | false =>
    simp [zfZ, hjl, ints, he, he0, hg2, hen, hen', hg1, zaK, hes, hse]
    exact hbad (by rw [he]; simp [hes, hse])
   | true =>
    simp [zfZ, hjl, ints, he, he0, hg2, hen, hen', hg1, zaK, hes, hse]
    rw [zaq (by omega) (by omega)]
    refine hKb _ _ ⟨E.vars.length - (j + 1), by omega, Back.here (by simp) (hscX _ _ hXs) ?_ ⟨_, rfl, j + 1, by omega, rfl, by simp, ?_, rfl⟩⟩
    ·simp [zkI, AV.sc, AV.scV, AV.scA, AV.scB]; omega
    ·exact zb9 hjl hok (by rw [he]; simp [hes, hse])
  ·obtain rfl : j = E.vars.length := by omega
   rw [List.take_length] at hok
   have hall : E.vars.all (fun v => decide (0 ≤ v) && st.getD v.toNat false) = true := by rw [List.all_eq_true]; exact hok
   simp [zfZ, hg5, ← hX]
   rw [hX]
   have hXE : ∀ st, (zaJ H c st ++ (J ++ [X]))[H.length + 5 + J.length]? = some (.cells [.int .i64 E.op, .int .i64 E.num, .sl (ints E.vars) .none, .sl (rows E.binds) .none, .sl (ints E.kids) .none, x, y, z]) := fun st => by rw [hg5, hX]
   refine zIp (Inv := fun q t43 H' => ∃ (j : Nat) (st1 : List Bool), j ≤ E.kids.length ∧ q = E.kids.length - j ∧ t43 = .int .i64 j ∧ st1.length = c.vars.length ∧ zby c m (E.binds.drop j) (E.kids.drop j) st1 = zby c m E.binds E.kids st ∧ H' = zaJ H c st1 ++ (J ++ [X])) E.kids.length ?_ ?_
   ·intro _; exact ⟨0, st, by omega, by omega, rfl, hst, by simp, rfl⟩
   ·rintro q t43 H' ⟨j, st1, hj, rfl, rfl, hs1, hvk, rfl⟩ hsc1 hlen1 hsF1 Kb1 hKb1
    by_cases hjl : j < E.kids.length
    ·have hjb : j < E.binds.length := by omega
     rw [zAr c m hjb hjl] at hvk
     have hkr := hkd _ (List.getElem_mem hjl)
     obtain ⟨k, hk⟩ : ∃ k : Nat, E.kids[j] = k := ⟨(E.kids[j]).toNat, by omega⟩
     have hbl := kbl _ (List.getElem_mem hjb)
     have hbr' := hbr _ (List.getElem_mem hjb)
     rw [hk, Int.toNat_natCast] at hvk
     simp [zpt, hjl, hk, hg3, ← hX, hg5, hjb]
     rw [hX]
     refine zdb (.tup []) (zaJ H c (zaz st1 E.binds[j] true) ++ (J ++ [X])) ?_ ?_
     ·exact zfM hsH hs1 (by omega) hbr' _ ⟨rfl, rfl⟩
     simp [hg4]
     refine ih k (by omega) (by omega) (zaz st1 E.binds[j] true) (J ++ [X]) (by simpa using hs1) _ (fun st2 h2 hl2 => ?_) (fun h2 st2 hl2 => ?_)
     ·rw [h2] at hvk
      simp [hg3, ← hX, hg5, hjb]
      rw [hX]
      refine zdb (.tup []) (zaJ H c (zaz st2 E.binds[j] false) ++ (J ++ [X])) ?_ ?_
      ·exact zfM hsH hl2 (by omega) hbr' _ ⟨rfl, rfl⟩
      rw [zaq (by omega) (by omega)]
      refine hKb1 _ _ ⟨E.kids.length - (j + 1), by omega, Back.here (by simp) (hscX _ _ hXs) ?_ ⟨_, rfl, j + 1, zaz st2 E.binds[j] false, by omega, rfl, by simp, by simpa using hl2, hvk, rfl⟩⟩
      simp [zkJ, AV.sc, AV.scV, AV.scA, AV.scB]; omega
     ·rw [h2] at hvk
      simp
      exact hOf _ _ (by rw [if_pos hall]; exact hvk.symm) hl2
    ·obtain rfl : j = E.kids.length := by omega
     rw [List.drop_length, ← hbk, List.drop_length, zby] at hvk
     simp [zpt]
     exact hOt _ _ hvk.symm hall hs1
def zct (c : Cor) : List Cod → List Bool → Bool
 | [], _ => true
 | f :: fs, st => match zaZ c c.exprs.length f.body.toNat (zaz (zaz st f.params true) f.capt true) with
  | none => false
  | some st' => zct c fs (zaz (zaz st' f.params false) f.capt false)
theorem zFh (c : Cor) (hp : InP c) (H : zaa) (K : AV → zaa → Prop) (hK : K (.bool (zct c c.codes (List.replicate c.vars.length false))) H) : ACalls tP zmo [.agg c.cs] H K := by
 refine ACalls.out (zFf fun hs => ?_)
 obtain ⟨k1, k2, k3, ⟨k4, k5⟩, k6, k7⟩ := hp.kcore
 have hO : ∀ J, Out H.length K (.bool (zct c c.codes (List.replicate c.vars.length false))) (H ++ J) := fun J => Out.bool rfl (Nat.le_refl _) hs hK
 have hg3 : ∀ st J, (zaJ H c st ++ J)[H.length + 3]? = some (.cells [.fn zek [.ptr (H.length + 2) 0]]) := by intro st J; simp [zaJ]
 have hg4 : ∀ st J, (zaJ H c st ++ J)[H.length + 4]? = some (.cells [.fn zel [.ptr H.length 0, .ptr (H.length + 2) 0, .ptr (H.length + 3) 0, .ptr (H.length + 4) 0]]) := by intro st J; simp [zaJ]
 have hg5 : ∀ st J, (zaJ H c st ++ J)[H.length + 5]? = J[0]? := by intro st J; simp [zaJ]
 have hg3' : ∀ st (h : H.length + 3 < (zaJ H c st).length), (zaJ H c st)[H.length + 3] = .cells [.fn zek [.ptr (H.length + 2) 0]] := by
  intro st h
  have := hg3 st []
  rw [List.append_nil, List.getElem?_eq_getElem h] at this
  exact Option.some.inj this
 have hg4' : ∀ st (h : H.length + 3 + 1 < (zaJ H c st).length), (zaJ H c st)[H.length + 3 + 1] = .cells [.fn zel [.ptr H.length 0, .ptr (H.length + 2) 0, .ptr (H.length + 3) 0, .ptr (H.length + 4) 0]] := by
  intro st h
  have := hg4 st []
  rw [List.append_nil, List.getElem?_eq_getElem h] at this
  exact Option.some.inj this
 simp [zuv, Cor.cs]
 simp only [zbc, Int.toNat_natCast, zeb]
 refine ⟨⟨by omega, by omega, by omega, by omega⟩, ?_⟩
 simp
 refine ⟨rfl, ⟨rfl, rfl, rfl, rfl⟩, ?_⟩
 refine zFd (Inv := fun q t17 H' => ∃ (i : Nat) (st : List Bool), i ≤ c.codes.length ∧ q = c.codes.length - i ∧ t17 = .int .i64 i ∧ st.length = c.vars.length ∧ zct c (c.codes.drop i) st = zct c c.codes (List.replicate c.vars.length false) ∧ H' = zaJ H c st) c.codes.length ?_ ?_
 ·intro _; exact ⟨0, _, by omega, by omega, rfl, by simp, rfl, by simp [zaJ, za5]⟩
 ·rintro q t17 H' ⟨i, st, hi, rfl, rfl, hst, ho, rfl⟩ hsc hlen hsF Kb hKb
  by_cases hlt : i < c.codes.length
  ·obtain ⟨x, y, z, hv, hx, hy, hz, hat⟩ := zfr hlt
   obtain ⟨_, kp, kc, _⟩ := k6 _ (List.getElem_mem hlt)
   obtain ⟨hr1, hr2⟩ := hp.crange i hlt
   obtain ⟨b, hb, hbl⟩ := hp.body i hlt
   rw [List.drop_eq_getElem_cons hlt, zct] at ho
   generalize hf : c.codes[i] = f at *
   rw [hb, Int.toNat_natCast] at ho
   simp [zoG, hlt, hf, hat, hx, hy, hz, hg3, hg3', hg4']
   refine zfM hs hst (by omega) hr1 _ ?_
   simp [hg3, hg3', hg5]
   refine zfM hs (by simpa using hst) (by omega) hr2 _ ?_
   simp [hg4, hg4', hg5, hb]
   refine zAw hp hs c.exprs.length b (by omega) hbl _ _ (by simpa using hst) _ (fun st1 h1 hl1 => ?_) (fun h1 st1 hl1 => ?_)
   ·rw [h1] at ho
    simp [hg3, hg3', hg5]
    refine zfM hs hl1 (by omega) hr1 _ ?_
    simp [hg3, hg3', hg5]
    refine zfM hs (by simpa using hl1) (by omega) hr2 _ ?_
    rw [zaq (by omega) (by omega)]
    refine hKb _ _ ⟨c.codes.length - (i + 1), by omega, Back.at (J := [_]) (H2 := zaJ H c _) rfl (by simp) (zmV hs _ _) ?_ ⟨_, rfl, i + 1, _, by omega, rfl, by simp, by simpa using hl1, ho, rfl⟩⟩
    simp [zjP, AV.sc, AV.scV, AV.scA, AV.scB]
   ·rw [h1] at ho
    rw [← ho] at hO
    simp [zaJ]
    exact hO _
  ·obtain rfl : i = c.codes.length := by omega
   rw [List.drop_length, zct] at ho
   rw [← ho] at hO
   simp [zoG, zaJ]
   exact hO _
end Go.Proofs.Ytkdmpbhbmmhijaa
