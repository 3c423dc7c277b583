import Derived.Test.YtacebbdfgbfgiaaGreatKGH
import Derived.Test.YtacebbdfgbfgiaaGreatKY16
import Derived.Test.YtacebbdfgbfgiaaGreatIT
import Derived.Test.YtacebbdfgbfgiaaGreatKNum
import Derived.Test.YtacebbdfgbfgiaaGreatProg
import Derived.KernelRfl
set_option linter.unusedSimpArgs false
set_option linter.unusedVariables false
namespace Go.Proofs.YtacebbdfgbfgiaaGreat
open Go Go.Abs
set_option maxRecDepth 8000
def zoe (c : Con) : Prop := c.name.length ≤ 40 ∧ c.args.length ≤ 8 ∧ ∀ t ∈ c.args, t.nodes ≤ 20
def zjN (d : Dat) : Prop := d.name.length ≤ 40 ∧ d.cons.length ≤ 10 ∧ ∀ c ∈ d.cons, zoe c
def za6 (ds : List Dat) : Prop := ds.length ≤ 14 ∧ ∀ d ∈ ds, zjN d
theorem zfj {α : Type} {l : List α} {i : Nat} (h : i < l.length) {p : α → Prop} (h1 : ∀ x ∈ l.take i, p x) (h2 : p l[i]) : ∀ x ∈ l.take (i + 1), p x := by
 rw [List.take_succ_eq_append_getElem h]
 intro x hx
 rcases List.mem_append.1 hx with hx | hx
 ·exact h1 x hx
 ·simp at hx; subst hx; exact h2
theorem zpw {α : Type} {cs : α → List AV} {l : List α} {i : Nat} (h : i < l.length) : (l.map cs)[i]?.getD [] = cs l[i] := by simp [h]
theorem vt3 (v : VT) : ∃ a b c, v.cs = [a, b, c] ∧ a.known = true ∧ b.known = true ∧ c.known = true := by
 obtain ⟨k, n, ks⟩ := v; exact ⟨_, _, _, rfl, rfl, rfl, rfl⟩
theorem zz9 (ds : List Dat) (H : zaa) (K : AV → zaa → Prop) (hlen : ds.length ≤ 9223372036854775807) (hK : ∀ b, (b = true → za6 ds) → K (.bool b) H) : ACalls tP zky [.sl (ds.map Dat.cs) .none] H K := by
 refine ACalls.out (zz7 fun hs => ?_)
 have hF : ∀ J, Out H.length K (.bool false) (H ++ J) := fun J => Out.bool rfl (Nat.le_refl _) hs (hK false fun h => by cases h)
 have hF0 : Out H.length K (.bool false) H := by simpa using hF []
 by_cases h14 : ds.length > 14
 ·have : (14 : Int) < ds.length := by omega
  simp [zl7, this]
  exact hF0
 have : ¬ (14 : Int) < ds.length := by omega
 simp [zl7, this]
 refine zz4 (Inv := fun q t15 H' => ∃ i : Nat, i ≤ ds.length ∧ q = ds.length - i ∧ t15 = .int .i64 i ∧ (∀ d ∈ ds.take i, zjN d) ∧ H = H') ds.length ?_ ?_
 ·intro _; exact ⟨0, by omega, by omega, rfl, by simp, rfl⟩
 ·rintro q t15 H' ⟨i, hi, rfl, rfl, ha, rfl⟩ hsc hl hsF Kb4 hKb4
  by_cases hil : i < ds.length
  ·have hat : (ds.map Dat.cs)[i]?.getD [] = [.str ds[i].name, .int .i64 ds[i].vars, .sl (ds[i].cons.map Con.cs) .none] := zpw hil
   have next : zjN ds[i] → ∀ J, Kb4 (zfP (.sl (ds.map Dat.cs) .none) (.int .i64 ds.length) (.int .i64 (i + 1))) (H ++ J) := by
    intro hd J
    refine hKb4 _ _ ⟨ds.length - (i + 1), by omega, Back.same (Nat.le_refl _) hs ?_ ⟨_, rfl, i + 1, by omega, rfl, by simp, zfj hil ha hd, rfl⟩⟩
    simp [zfP, AV.sc, AV.scV, AV.scA, AV.scB]
   generalize hdd : ds[i] = d at *
   simp [zl9, hil, hat, AV.known, hdd, Dat.cs]
   by_cases hn : d.name.length > 40
   ·have : (40 : Int) < d.name.length := by omega
    simp [this]
    exact hF _
   have hn' : ¬ (40 : Int) < d.name.length := by omega
   by_cases hc : d.cons.length > 10
   ·have : (10 : Int) < d.cons.length := by omega
    simp [hn', this]
    exact hF _
   have hc' : ¬ (10 : Int) < d.cons.length := by omega
   simp [hn', hc']
   refine zz5 (Inv := fun q t32 H' => ∃ j : Nat, j ≤ d.cons.length ∧ q = d.cons.length - j ∧ t32 = .int .i64 j ∧ (∀ c ∈ d.cons.take j, zoe c) ∧ H' = H ++ [.cells [.str d.name, .int .i64 d.vars, .sl (d.cons.map Con.cs) .none]]) d.cons.length ?_ ?_
   ·intro _; exact ⟨0, by omega, by omega, rfl, by simp, rfl⟩
   ·rintro q t32 H' ⟨j, hj, rfl, rfl, hb, rfl⟩ hsc9 hl9 hsF9 Kb9 hKb9
    by_cases hjl : j < d.cons.length
    ·have hat : (d.cons.map Con.cs)[j]?.getD [] = [.str d.cons[j].name, .sl (VT.css d.cons[j].args) .none] := zpw hjl
     generalize hcc : d.cons[j] = c at *
     simp [zma, hjl, hat, AV.known, hcc, Con.cs]
     by_cases hn : c.name.length > 40
     ·have : (40 : Int) < c.name.length := by omega
      simp [this]
      exact hF _
     have hn' : ¬ (40 : Int) < c.name.length := by omega
     by_cases hc : c.args.length > 8
     ·have : (8 : Int) < c.args.length := by omega
      simp [hn', this]
      exact hF _
     have hc' : ¬ (8 : Int) < c.args.length := by omega
     simp [hn', hc']
     refine zz3 (Inv := fun q t49 H' => ∃ (k : Nat) (l : Int), k ≤ c.args.length ∧ q = c.args.length - k ∧ t49 = .int .i64 k ∧ -1 ≤ l ∧ l ≤ 20 ∧ (∀ t ∈ c.args.take k, t.nodes ≤ 20) ∧ H' = H ++ [.cells [.str d.name, .int .i64 d.vars, .sl (d.cons.map Con.cs) .none], .cells [.str c.name, .sl (VT.css c.args) .none], .cells [.int .i64 l]]) c.args.length ?_ ?_
     ·intro _; exact ⟨0, 20, by omega, by omega, rfl, by omega, by omega, by simp, rfl⟩
     ·rintro q t49 H' ⟨k, l, hk, rfl, rfl, hl0, hl1, hb15, rfl⟩ hsc15 hl15 hsF15 Kb15 hKb15
      by_cases hkl : k < c.args.length
      ·obtain ⟨x, y, z, hv, hx, hy, hz⟩ := vt3 c.args[k]
       simp [zl8, hkl, hv, hx, hy, hz]
       rw [← hv]
       refine zsD _ _ (Nat.le_refl _) l (by omega) hl0 _ (H.length + 2) (by simp) _ ?_ ?_
       ·intro hle
        simp
        rw [zal (by omega) (by omega)]
        refine hKb15 _ _ ⟨c.args.length - (k + 1), by omega, Back.at (J := [_]) (H2 := H ++ [.cells [.str d.name, .int .i64 d.vars, .sl (d.cons.map Con.cs) .none], .cells [.str c.name, .sl (VT.css c.args) .none], .cells [.int .i64 (l - c.args[k].nodes)]]) (by simp; rfl) (by simp) (hs.append rfl) ?_ ⟨_, rfl, k + 1, l - c.args[k].nodes, by omega, rfl, by simp, by omega, by omega, zfj hkl hb15 (by omega), rfl⟩⟩
        simp [zh1, AV.sc, AV.scV, AV.scA, AV.scB]
       ·intro hle l'
        simp
        exact hF _
      ·obtain rfl : k = c.args.length := by omega
       rw [List.take_length] at hb15
       simp [zl8]
       rw [zal (by omega) (by omega)]
       refine hKb9 _ _ ⟨d.cons.length - (j + 1), by omega, Back.at (J := [_, _]) (H2 := H ++ [.cells [.str d.name, .int .i64 d.vars, .sl (d.cons.map Con.cs) .none]]) (by simp; exact ⟨rfl, rfl⟩) (by simp) (hs.append rfl) ?_ ⟨_, rfl, j + 1, by omega, rfl, by simp, zfj hjl hb (by rw [hcc]; exact ⟨by omega, by omega, hb15⟩), rfl⟩⟩
       simp [zh2, AV.sc, AV.scV, AV.scA, AV.scB]
    ·obtain rfl : j = d.cons.length := by omega
     rw [List.take_length] at hb
     simp [zma]
     rw [zal (by omega) (by omega)]
     exact next ⟨by omega, by omega, hb⟩ _
  ·obtain rfl : i = ds.length := by omega
   rw [List.take_length] at ha
   simp [zl9]
   exact Out.bool (J := []) (by simp) (Nat.le_refl _) hs (hK true fun _ => ⟨by omega, ha⟩)
def zda (data : List Dat) (d : Nat) (vars : Int) (t : VT) : Bool := zbu d vars t || zbe (data.take d) vars t
structure RCon (data : List Dat) (d : Nat) (vars : Int) (c : Con) : Prop where
 up : zch c.name = true
 len : c.args.length ≤ 6
 args : ∀ x ∈ c.args, zda data d vars x = true
structure RDat (data : List Dat) (d : Nat) (D : Dat) : Prop where
 v0 : 0 ≤ D.vars
 v6 : D.vars ≤ 6
 c1 : 1 ≤ D.cons.length
 c8 : D.cons.length ≤ 8
 up : zch D.name = true
 cons : ∀ c ∈ D.cons, RCon data d D.vars c
structure RData (data : List Dat) : Prop where
 len : data.length ≤ 12
 dats : ∀ d (h : d < data.length), RDat data d data[d]
 names : (za3 data).Nodup
 cons : (zaE data).Nodup
theorem zlm {α : Type} {l : List α} {i : Nat} (h : i < l.length) : l.take (i + 1) = l.take i ++ [l[i]] := by rw [List.take_append_getElem h]
theorem zoQ : ∀ l : List Dat, (∀ D ∈ l, D.cons.length ≤ 10) → (zaE l).length ≤ l.length * 10
 | [], _ => by simp [zaE]
 | D :: l, h => by
  have h1 := zoQ l (fun D hD => h D (by simp [hD]))
  have h2 := h D (by simp)
  rw [zaE] at h1 ⊢
  rw [List.flatMap_cons, List.length_append, List.length_map, List.length_cons]; omega
theorem zu6 {data : List Dat} {d : Nat} (h : d < data.length) : za3 (data.take (d + 1)) = za3 (data.take d) ++ [(data[d]).name] := by
 rw [za3, zlm h, List.map_append]; rfl
theorem zuU {data : List Dat} {d : Nat} (h : d < data.length) : zaE (data.take (d + 1)) = zaE (data.take d) ++ (data[d]).cons.map Con.name := by
 rw [zaE, zlm h, List.flatMap_append]; simp [zaE]
theorem zqz (l : List (List UInt8)) (s : List UInt8) : strs (l ++ [s]) = strs l ++ [[.str s]] := by simp [strs]
theorem zoI {s : List UInt8} {k : AV → Prop} : zaA 1 [.str []] 1 [(0, .str s)] k = k (.sl [[.str s]] .full) := propext Iff.rfl
theorem zqd (l : List (List UInt8)) (hl : l.length ≤ 1000000) {tok : Tok} (H : zaa) (K : AV → zaa → Prop) (hK : K (.bool (zbM l)) H) : ACalls tP zfy [.sl (strs l) tok] H K :=
 ACalls.wk (zEB l hl H K hK) ⟨.atom (.sl _ _), trivial⟩
theorem zuX {D : Dat} {i : Nat} (h : i < D.cons.length) : (D.cons.map Con.cs)[i]?.getD [] = [.str (D.cons[i]).name, .sl (VT.css (D.cons[i]).args) .none] := by simp [h, Con.cs]
theorem zDu (data : List Dat) (hkd : za6 data) (H : zaa) (K : AV → zaa → Prop) (hK : ∀ b, (b = true ↔ RData data) → K (.bool b) H) : ACalls tP zkK [.sl (data.map Dat.cs) .none] H K := by
 refine ACalls.out (zDs fun hs => ?_)
 obtain ⟨kl, kd⟩ := hkd
 have hF : ¬ RData data → ∀ J, Out H.length K (.bool false) (H ++ J) := fun h J => Out.bool rfl (Nat.le_refl _) hs (hK _ (by simp [h]))
 have hT : ∀ b : Bool, (b = true ↔ RData data) → ∀ J, Out H.length K (.bool b) (H ++ J) := fun b h J => Out.bool rfl (Nat.le_refl _) hs (hK _ h)
 by_cases h12 : data.length > 12
 ·have h12' : (12 : Int) < data.length := by omega
  simp [znj, h12']
  have := hF (fun h => by have := h.len; omega) []
  simpa using this
 have h12' : ¬ (12 : Int) < data.length := by omega
 simp [znj, h12']
 unfold zi8
 refine ALoop.own 3 zbx 1 rfl ?_
 refine ALoop.own 4 zbx 1 rfl ?_
 rw [List.append_assoc]
 have hcn : ∀ d, (zaE (data.take d)).length ≤ 140 := fun d => by
  have := zoQ (data.take d) (fun D hD => (kd D (List.mem_of_mem_take hD)).2.1)
  rw [List.length_take] at this
  have : min d data.length * 10 ≤ 14 * 10 := Nat.mul_le_mul_right _ (by omega)
  omega
 have hl1 : (H ++ [AB.perm zbx 1 0]).length = H.length + 1 := by simp
 rw [hl1]
 show zi8 (.sl (data.map Dat.cs) .none) (.sl [] (.own H.length)) (.sl [] (.own (H.length + 1))) (.int .i64 0) (H ++ [.perm zbx 1 0, .perm zbx 1 0]) (Out H.length K)
 have hsP : ∀ m n, HSc (H ++ [.perm zbx 1 m, .perm zbx 1 n]) := fun m n => hs.append rfl
 refine zDq (Inv := fun q t3 t4 t5 H' => ∃ d : Nat, d ≤ data.length ∧ q = data.length - d ∧ t5 = .int .i64 d ∧ t3 = .sl (strs (za3 (data.take d))) (.own H.length) ∧ t4 = .sl (strs (zaE (data.take d))) (.own (H.length + 1)) ∧ (∀ j (h : j < data.length), j < d → RDat data j data[j]) ∧ H' = H ++ [.perm zbx 1 d, .perm zbx 1 (zaE (data.take d)).length]) data.length ?_ ?_
 ·intro _; exact ⟨0, by omega, by omega, rfl, by simp [za3, strs], by simp [zaE, strs], by omega, by simp [zaE]⟩
 ·rintro q t3 t4 t5 H' ⟨d, hd, rfl, rfl, rfl, rfl, hok, rfl⟩ hsc hlen hsF Kb hKb
  by_cases hlt : d < data.length
  ·have hbad : ¬ RDat data d data[d] → ∀ J, Out H.length K (.bool false) (H ++ J) := fun h => hF fun hh => h (hh.dats d hlt)
   have hcd := hcn d
   have hds := zu6 hlt
   have hcs := zuU hlt
   obtain ⟨kn, kc, kcc⟩ := kd _ (List.getElem_mem hlt)
   have hdl : (za3 (data.take d)).length = d := by simp [za3]; omega
   generalize hD : data[d] = D at *
   have hge : (data.map Dat.cs)[d]?.getD [] = [.str D.name, .int .i64 D.vars, .sl (D.cons.map Con.cs) .none] := by simp [hlt, hD, Dat.cs]
   by_cases hv0 : D.vars < 0
   ·simp [zef, hlt, hD, Dat.cs, hv0]
    exact hbad (fun h => by have := h.v0; omega) _
   by_cases hv6 : 6 < D.vars
   ·simp [zef, hlt, hD, Dat.cs, hv0, hv6]
    exact hbad (fun h => by have := h.v6; omega) _
   by_cases hc1 : D.cons.length < 1
   ·have hc1' : (D.cons.length : Int) < 1 := by omega
    simp [zef, hlt, hD, Dat.cs, hv0, hv6, hc1']
    exact hbad (fun h => by have := h.c1; omega) _
   have hc1' : ¬ (D.cons.length : Int) < 1 := by omega
   by_cases hc8 : 8 < D.cons.length
   ·have hc8' : (8 : Int) < D.cons.length := by omega
    simp [zef, hlt, hD, Dat.cs, hv0, hv6, hc1', hc8']
    exact hbad (fun h => by have := h.c8; omega) _
   have hc8' : ¬ (8 : Int) < D.cons.length := by omega
   simp [zef, hlt, hD, Dat.cs, hv0, hv6, hc1', hc8']
   refine zti _ _ _ ?_
   cases hup : zch D.name with
   | false => simp; exact hbad (fun h => by have := h.up; rw [hup] at this; cases this) _
   | true =>
   simp [zoI]
   simp [zar, zaW, zaI, hdl]
   refine ⟨by omega, ?_⟩
   rw [← zqz, ← hds]
   refine zDo (Inv := fun q t4 t7 H' => ∃ k : Nat, k ≤ D.cons.length ∧ q = D.cons.length - k ∧ t7 = .int .i64 k ∧ t4 = .sl (strs (zaE (data.take d) ++ (D.cons.map Con.name).take k)) (.own (H.length + 1)) ∧ (∀ c ∈ D.cons.take k, RCon data d D.vars c) ∧ H' = H ++ [.perm zbx 1 (d + 1), .perm zbx 1 ((zaE (data.take d)).length + k), .cells [.str D.name, .int .i64 D.vars, .sl (D.cons.map Con.cs) .none]]) D.cons.length ?_ ?_
   ·intro _; exact ⟨0, by omega, by omega, rfl, by simp, by simp, by simp⟩
   ·rintro q t4 t7 H' ⟨k, hk, rfl, rfl, rfl, hck, rfl⟩ hsc1 hlen1 hsF1 Kb1 hKb1
    have hlk : (zaE (data.take d) ++ (D.cons.map Con.name).take k).length = (zaE (data.take d)).length + k := by simp; omega
    by_cases hkl : k < D.cons.length
    ·have hkI : (k : Int) < D.cons.length := by omega
     have hca := zuX hkl
     have hcbad : ¬ RCon data d D.vars D.cons[k] → ∀ J, Out H.length K (.bool false) (H ++ J) := fun h => hbad fun hh => h (hh.cons _ (List.getElem_mem hkl))
     have hns : zaE (data.take d) ++ (D.cons.map Con.name).take (k + 1) = (zaE (data.take d) ++ (D.cons.map Con.name).take k) ++ [(D.cons[k]).name] := by rw [zlm (by simpa using hkl)]; simp
     obtain ⟨_, ka, kan⟩ := kcc _ (List.getElem_mem hkl)
     generalize hC : D.cons[k] = C at *
     simp [znk, hkl, hC, Con.cs]
     refine zti _ _ _ ?_
     cases hupc : zch C.name with
     | false => simp; exact hcbad (fun h => by have := h.up; rw [hupc] at this; cases this) _
     | true =>
     by_cases ha6 : 6 < C.args.length
     ·have ha6' : (6 : Int) < C.args.length := by omega
      simp [hkl, hC, Con.cs, ha6']
      exact hcbad (fun h => by have := h.len; omega) _
     have ha6' : ¬ (6 : Int) < C.args.length := by omega
     simp [hkl, hC, Con.cs, ha6', zoI]
     generalize hA : zaE (data.take d) ++ (D.cons.map Con.name).take k = A at *
     have hAl : A.length = (zaE (data.take d)).length + k := hlk
     simp [zar, zaW, zaI, hAl, hkl, hC, Con.cs]
     refine ⟨by omega, ?_⟩
     rw [← zqz, ← hns]
     refine zDp (Inv := fun q t95 H' => ∃ i : Nat, i ≤ C.args.length ∧ q = C.args.length - i ∧ t95 = .int .i64 i ∧ (∀ x ∈ C.args.take i, zda data d D.vars x = true) ∧ H' = H ++ [.perm zbx 1 (d + 1), .perm zbx 1 ((zaE (data.take d)).length + k + 1), .cells [.str D.name, .int .i64 D.vars, .sl (D.cons.map Con.cs) .none]]) C.args.length ?_ ?_
     ·intro _; exact ⟨0, by omega, by omega, rfl, by simp, rfl⟩
     ·rintro q t95 H' ⟨i, hi, rfl, rfl, hok3, rfl⟩ hsc2 hlen2 hsF2 Kb2 hKb2
      by_cases hil : i < C.args.length
      ·have hxn := kan _ (List.getElem_mem hil)
       have habad : zda data d D.vars C.args[i] = false → ∀ J, Out H.length K (.bool false) (H ++ J) := fun h => hcbad fun hh => by
        have := hh.args _ (List.getElem_mem hil)
        rw [h] at this; cases this
       obtain ⟨x, y, z, hvx, hx, hy, hz⟩ := vt3 C.args[i]
       have good : zda data d D.vars C.args[i] = true → zi7 (.sl (data.map Dat.cs) .none) (.sl (strs (za3 (data.take (d + 1)))) (.own H.length)) (.sl (strs (zaE (data.take d) ++ (D.cons.map Con.name).take (k + 1))) (.own (H.length + 1))) (.int .i64 d) (.ptr (H.length + 2) 0) (.int .i64 k) (.sl (VT.css C.args) .none) (.int .i64 C.args.length) (.int .i64 i) (H ++ [.perm zbx 1 (d + 1), .perm zbx 1 ((zaE (data.take d)).length + k + 1), .cells [.str D.name, .int .i64 D.vars, .sl (D.cons.map Con.cs) .none], .cells [x, y, z]]) (Out H.length K) Kb Kb1 Kb2 := fun hg => by
        simp [zi7, zsX]
        rw [zal (by omega) (by omega)]
        refine hKb2 _ _ ⟨C.args.length - (i + 1), by omega, Back.at (J := [_]) (H2 := H ++ [.perm zbx 1 (d + 1), .perm zbx 1 ((zaE (data.take d)).length + k + 1), .cells [.str D.name, .int .i64 D.vars, .sl (D.cons.map Con.cs) .none]]) (by simp; rfl) (by simp) hsc2 ?_ ⟨_, rfl, i + 1, by omega, rfl, by simp, zfj hil hok3 hg, rfl⟩⟩
        simp [zi5, AV.sc, AV.scV, AV.scA, AV.scB]
       simp [znl, hil, hvx, hx, hy, hz]
       rw [← hvx]
       refine zod _ _ _ (by omega) _ _ ?_
       cases hself : zbu d D.vars C.args[i] with
       | true =>
        rw [hvx]
        simp
        exact good (by simp [zda, hself])
       | false =>
        simp [hvx]
        refine ⟨⟨by omega, fun a _ => rfl⟩, ?_⟩
        rw [← List.map_take, ← hvx]
        refine zbE (.bool (zbe (data.take d) D.vars C.args[i])) (fun J => zs3 (data.take d) (by simp; omega) _ _ (by omega) _ _ ⟨rfl, rfl⟩) ?_
        cases hty : zbe (data.take d) D.vars C.args[i] with
        | false => simp; exact habad (by simp [zda, hself, hty]) _
        | true =>
         rw [hvx]
         simp
         exact good (by simp [zda, hty])
      ·obtain rfl : i = C.args.length := by omega
       rw [List.take_length] at *
       simp [znl]
       rw [zal (by omega) (by omega)]
       refine hKb1 _ _ ⟨D.cons.length - (k + 1), by omega, Back.here (by simp) hsc2 ?_ ⟨_, _, rfl, k + 1, by omega, rfl, by simp, rfl, ?_, by simp [Nat.add_assoc]⟩⟩
       ·simp [zi4, AV.sc, AV.scV, AV.scA, AV.scB]
       ·exact zfj hkl hck (by rw [hC]; exact ⟨hupc, by omega, hok3⟩)
    ·obtain rfl : k = D.cons.length := by omega
     rw [List.take_length] at *
     simp [znk]
     rw [zal (by omega) (by omega)]
     refine hKb _ _ ⟨data.length - (d + 1), by omega, Back.at (J := [_]) (H2 := H ++ [.perm zbx 1 (d + 1), .perm zbx 1 (zaE (data.take (d + 1))).length]) (by rw [hcs]; simp; rfl) (by simp) (hsP _ _) ?_ ⟨_, _, _, rfl, d + 1, by omega, rfl, by simp, rfl, by rw [hcs]; exact congrArg (fun l => AV.sl (strs (zaE (data.take d) ++ l)) (.own (H.length + 1))) (List.take_of_length_le (Nat.le_of_eq (List.length_map _))), fun j hj hji => ?_, rfl⟩⟩
     ·simp [zi6, AV.sc, AV.scV, AV.scA, AV.scB]
     ·by_cases hjd : j = d
      ·subst hjd; rw [hD]; exact ⟨by omega, by omega, by omega, by omega, hup, hck⟩
      ·exact hok j hj (by omega)
  ·obtain rfl : d = data.length := by omega
   rw [List.take_length] at *
   have hdn : (za3 data).length = data.length := by simp [za3]
   have hcn' := hcn data.length
   rw [List.take_length] at hcn'
   simp [zef]
   refine zqd _ (by omega) _ _ ?_
   cases hr : zbM (za3 data) with
   | true =>
    simp
    refine hT _ ?_ _
    simp
    intro h
    have := zk6 h.names
    rw [hr] at this; cases this
   | false =>
    simp
    refine zqd _ (by omega) _ _ ?_
    refine hT _ ?_ _
    simp only [zbM, Bool.not_eq_false', decide_eq_true_eq, Bool.not_not] at hr ⊢
    exact ⟨fun h => ⟨by omega, fun j hj => hok j hj hj, hr, h⟩, fun h => h.cons⟩
mutual
theorem zwl : ∀ v w : VT, v.same w = true ↔ v = w
 | .mk k n ks, .mk k' n' ks' => by
  have h := zqj ks ks'
  simp only [VT.same, Bool.and_eq_true, beq_iff_eq, VT.mk.injEq, h, and_assoc]
theorem zqj : ∀ v w : List VT, VT.sameL v w = true ↔ v = w
 | v :: vs, w :: ws => by
  have h1 := zwl v w
  have h2 := zqj vs ws
  simp only [VT.sameL, Bool.and_eq_true, List.cons.injEq, h1, h2]
 | [], [] => by simp [VT.sameL]
 | [], _ :: _ => by simp [VT.sameL]
 | _ :: _, [] => by simp [VT.sameL]
end
theorem zhi {α : Type} (l : List α) (d n : Nat) : (l.take d)[n]? = if n < d then l[n]? else none := by
 by_cases h : n < d
 ·rw [if_pos h, List.getElem?_take_of_lt h]
 ·rw [if_neg h, List.getElem?_eq_none (by rw [List.length_take]; omega)]
theorem zww {data : List Dat} {d : Nat} {vars k n : Int} {len : Nat} (h : (k == 5 && n == (d : Int)) = false) : zaS (data.take (d + 1)) vars k n len = zaS (data.take d) vars k n len := by
 unfold zaS
 by_cases h5 : k = 5
 ·subst h5
  have hn : n ≠ d := by simpa using h
  simp only [zhi]
  by_cases h0 : 0 ≤ n
  ·have : (n.toNat < d + 1) = (n.toNat < d) := by
    apply propext; omega
   simp [this]
  ·simp [h0]
 ·have : (k == 5) = false := by simpa using h5
  simp [this]
mutual
theorem zqQ (data : List Dat) (d : Nat) (vars : Int) : ∀ t : VT, zbP d t = false → zaK (data.take (d + 1)) vars t = zaK (data.take d) vars t
 | .mk k n ks => by
  intro h
  simp only [zbP, Bool.or_eq_false_iff] at h
  rw [zaK, zaK, zww h.1, zqO data d vars ks h.2]
theorem zqO (data : List Dat) (d : Nat) (vars : Int) : ∀ l : List VT, zdx d l = false → zaQ (data.take (d + 1)) vars l = zaQ (data.take d) vars l
 | [] => fun _ => rfl
 | t :: ts => by
  intro h
  simp only [zdx, Bool.or_eq_false_iff] at h
  rw [zaQ, zaQ, zqQ data d vars t h.1, zqO data d vars ts h.2]
end
mutual
theorem zpB (data : List Dat) (d : Nat) (vars : Int) : ∀ t : VT, zaK (data.take d) vars t = true → zbP d t = false
 | .mk k n ks => by
  intro h
  rw [zaK, Bool.and_eq_true] at h
  rw [zbP, zpA data d vars ks h.2, Bool.or_false]
  by_cases h5 : k = 5
  ·subst h5
   have h1 := h.1
   simp [zaS, zhi] at h1
   obtain ⟨h0, h2⟩ := h1
   by_cases hn : n = d
   ·subst hn
    simp at h2
   ·simpa using hn
  ·have : (k == 5) = false := by simpa using h5
   simp [this]
theorem zpA (data : List Dat) (d : Nat) (vars : Int) : ∀ l : List VT, zaQ (data.take d) vars l = true → zdx d l = false
 | [] => fun _ => rfl
 | t :: ts => by
  intro h
  rw [zaQ, Bool.and_eq_true] at h
  rw [zdx, zpB data d vars t h.1, zpA data d vars ts h.2]; rfl
end
theorem zqm (data : List Dat) (vars : Int) : ∀ (l : List VT) (i : Nat), zb2 l i = true → ((i + l.length : Nat) : Int) ≤ vars → zaQ data vars l = true ∧ VT.nodesL l = l.length
 | [], i, _, _ => ⟨rfl, rfl⟩
 | .mk k n ks :: l, i, h, hv => by
  rw [zb2, Bool.and_eq_true] at h
  obtain ⟨h1, h2⟩ := h
  simp only [zfh, Bool.and_eq_true, beq_iff_eq] at h1
  obtain ⟨⟨rfl, rfl⟩, h3⟩ := h1
  have hk : ks = [] := List.eq_nil_of_length_eq_zero h3
  subst hk
  obtain ⟨h4, h5⟩ := zqm data vars l (i + 1) h2 (by simp at hv ⊢; omega)
  simp at hv
  constructor
  ·simp [zaQ, zaK, zaS, h4]
   omega
  ·simp [VT.nodesL, VT.nodes, h5]; omega
theorem zoz (data : List Dat) (d : Nat) (hd : d < data.length) (h0 : 0 ≤ (data[d]).vars) (h6 : (data[d]).vars ≤ 6) (t : VT) : zcO data d (data[d]).vars t = zda data d (data[d]).vars t := by
 unfold zcO zda
 cases hs : zbu d (data[d]).vars t with
 | true =>
  obtain ⟨k, n, ks⟩ := t
  simp only [zbu, Bool.and_eq_true, beq_iff_eq] at hs
  obtain ⟨⟨⟨rfl, rfl⟩, hl⟩, hs⟩ := hs
  obtain ⟨h1, h2⟩ := zqm (data.take (d + 1)) (data[d]).vars ks 0 hs (by simp; omega)
  have hty : zbe (data.take (d + 1)) (data[d]).vars (.mk 5 d ks) = true := by
   simp [zbe, zaK, h1, VT.nodes, h2, zaS, zhi, hd, hl]
   omega
  simp [hty]
 | false =>
  simp only [Bool.false_or]
  unfold zbe
  cases hm : zbP d t with
  | false => rw [zqQ data d _ t hm]; simp
  | true =>
   have : zaK (data.take d) (data[d]).vars t = false := by
    cases h : zaK (data.take d) (data[d]).vars t with
    | false => rfl
    | true => rw [zpB data d _ t h] at hm; cases hm
   simp [this]
theorem zj6 (data : List Dat) : ∀ (l : List Dat) (d : Nat), zb9 data l d = true ↔ ∀ j (h : j < l.length), zb1 data (d + j) l[j] = true
 | [], d => by simp [zb9]
 | D :: l, d => by
  rw [zb9, Bool.and_eq_true, zj6 data l (d + 1)]
  constructor
  ·rintro ⟨h1, h2⟩ j hj
   cases j with
   | zero => exact h1
   | succ j =>
    have := h2 j (by simpa using hj)
    rw [show d + (j + 1) = d + 1 + j by omega]
    simpa using this
  ·intro h
   refine ⟨h 0 (by simp), fun j hj => ?_⟩
   have := h (j + 1) (by simpa using hj)
   rw [show d + (j + 1) = d + 1 + j by omega] at this
   simpa using this
theorem zu4 (data : List Dat) : zbh data = true ↔ RData data := by
 unfold zbh
 simp only [Bool.and_eq_true, decide_eq_true_eq, zj6, zbM, Bool.not_not, Nat.zero_add]
 constructor
 ·rintro ⟨⟨⟨h1, h2⟩, h3⟩, h4⟩
  refine ⟨h1, fun d hd => ?_, h3, h4⟩
  have := h2 d hd
  simp only [zb1, Bool.and_eq_true, decide_eq_true_eq, List.all_eq_true] at this
  obtain ⟨⟨⟨⟨⟨q1, q2⟩, q3⟩, q4⟩, q5⟩, q6⟩ := this
  refine ⟨q2, q3, q4, q5, q1, fun c hc => ?_⟩
  have := q6 c hc
  simp only [zcv, Bool.and_eq_true, decide_eq_true_eq, List.all_eq_true] at this
  exact ⟨this.1, this.2.1, fun x hx => by rw [← zoz data d hd q2 q3 x]; exact this.2.2 x hx⟩
 ·rintro ⟨h1, h2, h3, h4⟩
  refine ⟨⟨⟨h1, fun d hd => ?_⟩, h3⟩, h4⟩
  obtain ⟨q2, q3, q4, q5, q1, q6⟩ := h2 d hd
  simp only [zb1, Bool.and_eq_true, decide_eq_true_eq, List.all_eq_true]
  refine ⟨⟨⟨⟨⟨q1, q2⟩, q3⟩, q4⟩, q5⟩, fun c hc => ?_⟩
  obtain ⟨r1, r2, r3⟩ := q6 c hc
  simp only [zcv, Bool.and_eq_true, decide_eq_true_eq, List.all_eq_true]
  exact ⟨r1, r2, fun x hx => by rw [zoz data d hd q2 q3 x]; exact r3 x hx⟩
mutual
def zkc (data : List Dat) : VT → VT → Bool
 | .mk vk vn vks, .mk k n al =>
  if k = 1 then vk == 3 && decide (-1099511627776 ≤ vn) && decide (vn ≤ 1099511627776) && vks.length == 0
  else if k = 2 then vk == 2 && (vn == 0 || vn == 1) && vks.length == 0
  else if k = 3 then vk == 1 && vn == 0 && vks.length == 0
  else if k = 6 then vk == 4 && vn == 0 && zdV data vks al
  else if k = 5 then vk == 5 && decide (0 ≤ vn) && decide (vn < 8) && zer data vks (zaL data (.mk k n al) vn)
  else if k = 7 then vk == 6 && vn == 0 && decide (vks.length ≤ 4096) && zpl data vks (al.getD 0 (.mk 0 0 []))
  else if k = 8 then vk == 7 && vn == 0 && zdV data vks al
  else vk == 8 && decide (0 ≤ vn) && decide (vn < 64) && vks.length == 0
def zer (data : List Dat) : List VT → Option (List VT) → Bool
 | _, none => false
 | [], some ts => ts.isEmpty
 | v :: vs, some ts => match ts with
  | [] => false
  | t :: ts => zkc data v t && zdV data vs ts
def zdV (data : List Dat) : List VT → List VT → Bool
 | [], ts => ts.isEmpty
 | v :: vs, ts => match ts with
  | [] => false
  | t :: ts => zkc data v t && zdV data vs ts
def zpl (data : List Dat) : List VT → VT → Bool
 | [], _ => true
 | v :: vs, t => zkc data v t && zpl data vs t
end
theorem zJg (data : List Dat) (vs ts : List VT) : zer data vs (some ts) = zdV data vs ts := by
 cases vs with
 | nil => cases ts <;> rw [zer, zdV]
 | cons v vs => cases ts <;> simp only [zer, zdV]
theorem zJf (data : List Dat) (vs : List VT) : zer data vs none = false := by cases vs <;> rw [zer]
theorem zwx {data : List Dat} {m : Nat} {vars k n : Int} {len : Nat} (h : zaS (data.take m) vars k n len = true) (h4 : k ≠ 4) : zaS data 0 k n len = true := by
 unfold zaS at h ⊢
 have h4' : (k == 4) = false := by simpa using h4
 rw [h4'] at h ⊢
 by_cases h5 : k = 5
 ·subst h5
  simp only [zhi] at h
  by_cases hm : n.toNat < m
  ·simpa [hm] using h
  ·simp [hm] at h
 ·have : (k == 5) = false := by simpa using h5
  simpa [this] using h
theorem zqB (ks : List VT) : ∀ l : List VT, (zaC ks l).length = l.length
 | [] => rfl
 | t :: ts => by simp [zaC, zqB ks ts]
mutual
theorem zqR {data : List Dat} {m : Nat} {vars : Int} {ks : List VT} (hk : ∀ x ∈ ks, zaK data 0 x = true) (hl : (ks.length : Int) = vars) : ∀ a : VT, zaK (data.take m) vars a = true → zaK data 0 (subst ks a) = true
 | .mk k n al => by
  intro h
  rw [zaK, Bool.and_eq_true] at h
  unfold subst
  by_cases h4 : k = 4
  ·have h1 := h.1
   subst h4
   simp [zaS] at h1
   rw [if_pos ⟨rfl, by omega, by omega⟩]
   have hn : n.toNat < ks.length := by omega
   rw [List.getElem?_eq_getElem hn]
   exact hk _ (List.getElem_mem hn)
  ·rw [if_neg (fun h => h4 h.1), zaK, Bool.and_eq_true, zqB]
   exact ⟨zwx h.1 h4, zqP hk hl al h.2⟩
theorem zqP {data : List Dat} {m : Nat} {vars : Int} {ks : List VT} (hk : ∀ x ∈ ks, zaK data 0 x = true) (hl : (ks.length : Int) = vars) : ∀ l : List VT, zaQ (data.take m) vars l = true → zaQ data 0 (zaC ks l) = true
 | [] => by intro _; simp [zaC, zaQ]
 | t :: ts => by
  intro h
  rw [zaQ, Bool.and_eq_true] at h
  rw [zaC, zaQ, Bool.and_eq_true]
  exact ⟨zqR hk hl t h.1, zqP hk hl ts h.2⟩
end
theorem zqN {data : List Dat} {vars : Int} : ∀ {l : List VT}, zaQ data vars l = true → ∀ x ∈ l, zaK data vars x = true
 | [], _ => by simp
 | t :: ts, h => by
  rw [zaQ, Bool.and_eq_true] at h
  intro x hx
  rcases List.mem_cons.1 hx with rfl | hx
  ·exact h.1
  ·exact zqN h.2 x hx
theorem zxm {data : List Dat} {vars : Int} {k n : Int} {ks : List VT} (h : zaK data vars (.mk k n ks) = true) : ∀ x ∈ ks, zaK data vars x = true := by
 rw [zaK, Bool.and_eq_true] at h
 exact zqN h.2
theorem zuW {data : List Dat} (hD : zbh data = true) {d c : Nat} (hd : d < data.length) (hc : c < data[d].cons.length) : ∀ x ∈ (data[d].cons[c]).args, zaK (data.take (d + 1)) data[d].vars x = true := by
 simp only [zbh, Bool.and_eq_true, zj6, Nat.zero_add] at hD
 have h1 := hD.1.1.2 d hd
 simp only [zb1, Bool.and_eq_true] at h1
 have h2 := List.all_eq_true.1 h1.2 _ (List.getElem_mem hc)
 simp only [zcv, Bool.and_eq_true] at h2
 intro x hx
 have h3 := List.all_eq_true.1 h2.2.2 x hx
 simp only [zcO, zbe, Bool.and_eq_true] at h3
 exact h3.1.2
theorem zfa {data : List Dat} {k n : Int} {ks : List VT} {c : Int} {l : List VT} (h : zaL data (.mk k n ks) c = some l) :
  k = 5 ∧ 0 ≤ n ∧ 0 ≤ c ∧ ∃ (hn : n.toNat < data.length) (hc : c.toNat < (data[n.toNat]).cons.length), (ks.length : Int) = (data[n.toNat]).vars ∧ l = ((data[n.toNat]).cons[c.toNat]).args.map (subst ks) ∧ ∀ x ∈ l, x.nodes ≤ 200 := by
 rw [zcj] at h
 split at h
 ·rename_i h5
  split at h
  ·rename_i D hD
   obtain ⟨hn, rfl⟩ := List.getElem?_eq_some_iff.1 hD
   split at h
   ·rename_i hv
    split at h
    ·rename_i C hC
     obtain ⟨hc, rfl⟩ := List.getElem?_eq_some_iff.1 hC
     split at h
     ·rename_i ha
      simp only [Option.some.injEq] at h
      subst h
      exact ⟨h5.1, h5.2.1, h5.2.2, hn, hc, hv, rfl, fun x hx => of_decide_eq_true (List.all_eq_true.1 ha x hx)⟩
     ·cases h
    ·cases h
   ·cases h
  ·cases h
 ·cases h
theorem zu9 {data : List Dat} (hD : zbh data = true) {t : VT} (ht : zaK data 0 t = true) {c : Int} {l : List VT} (h : zaL data t c = some l) : ∀ x ∈ l, zbe data 0 x = true := by
 obtain ⟨k, n, ks⟩ := t
 obtain ⟨rfl, h0, hc0, hn, hc, hv, rfl, hsz⟩ := zfa h
 intro x hx
 rw [zbe, Bool.and_eq_true, decide_eq_true_eq]
 refine ⟨hsz x hx, ?_⟩
 obtain ⟨a, ha, rfl⟩ := List.mem_map.1 hx
 exact zqR (zxm ht) hv a (zuW hD hn hc a ha)
theorem zqn {ks : List VT} : ∀ (l : List VT) (i : Nat), zb2 l i = true → i + l.length = ks.length → zaC ks l = ks.drop i
 | [], i, _, hl => by simp at hl; subst hl; simp [zaC]
 | x :: l, i, h, hl => by
  rw [zb2, Bool.and_eq_true] at h
  obtain ⟨k, n, al⟩ := x
  simp only [zfh, Bool.and_eq_true, beq_iff_eq] at h
  obtain ⟨⟨⟨rfl, rfl⟩, h3⟩, h4⟩ := h
  simp at hl
  have hi : i < ks.length := by omega
  rw [List.drop_eq_getElem_cons hi, zaC, zqn l (i + 1) h4 (by omega)]
  rw [subst, if_pos ⟨rfl, by omega, by omega⟩]
  simp [hi]
theorem zwu {ks : List VT} {d vars : Int} {a : VT} (h : zbu d vars a = true) (hl : (ks.length : Int) = vars) : subst ks a = .mk 5 d ks := by
 obtain ⟨k, n, al⟩ := a
 simp only [zbu, Bool.and_eq_true, beq_iff_eq] at h
 obtain ⟨⟨⟨rfl, rfl⟩, h3⟩, h4⟩ := h
 rw [subst, if_neg (fun h => by have := h.1; omega)]
 have := zqn (ks := ks) al 0 h4 (by omega)
 rw [this, List.drop_zero]
def zbQ (d : Nat) (D : Dat) (C : Con) : List Bool := C.args.map (zbu d D.vars)
def zk5 (data : List Dat) (d : Nat) : List (List Bool) := match data[d]? with
 | some D => D.cons.map (zbQ d D)
 | none => []
mutual
def zk3 (rs : List (List Bool)) : VT → List VT
 | .mk k n ks => .mk k n ks :: zeA rs ks (rs.getD n.toNat [])
def zeA (rs : List (List Bool)) : List VT → List Bool → List VT
 | [], _ => []
 | v :: vs, bs => match bs with
  | [] => []
  | b :: bs => (if b = true then zk3 rs v else []) ++ zeA rs vs bs
end
mutual
theorem zvY (rs : List (List Bool)) : ∀ v : VT, (zk3 rs v).length ≤ v.nodes
 | .mk k n ks => by
  have := zp7 rs ks (rs.getD n.toNat [])
  simp only [zk3, VT.nodes, List.length_cons]
  omega
theorem zp7 (rs : List (List Bool)) : ∀ (vs : List VT) (bs : List Bool), (zeA rs vs bs).length ≤ VT.nodesL vs
 | [], _ => by simp [zeA, VT.nodesL]
 | v :: vs, [] => by simp [zeA]
 | v :: vs, b :: bs => by
  have h1 := zvY rs v
  have h2 := zp7 rs vs bs
  simp only [zeA, VT.nodesL, List.length_append]
  split
  ·omega
  ·simp; omega
end
end Go.Proofs.YtacebbdfgbfgiaaGreat
namespace Go.Proofs.YtacebbdfgbfgiaaGreat
open Go Go.Abs
def pick : List VT → List Bool → List VT
 | x :: l, b :: bs => if b then pick l bs else x :: pick l bs
 | _, _ => []
def zbG (data : List Dat) (t : VT) (c : Int) : Option (List VT) := (zaL data t c).map fun l => pick l ((zk5 data t.num.toNat).getD c.toNat [])
mutual
def zbO (data : List Dat) : IT → VT → Int × Bool
 | .mk n ks, t =>
  if t.kind = 6 then (if n = 0 then (if t.kids.length = ks.length then zbq data ks t.kids 0 else (0, false)) else (0, false))
  else if t.kind = 7 then (n, decide (0 ≤ n) && decide (n ≤ 6) && decide (ks.length = 0))
  else if t.kind = 5 then (if n = 0 then zcb data ks t 0 else (0, false))
  else (0, decide (n = 0) && decide (ks.length = 0))
def zbq (data : List Dat) : List IT → List VT → Int → Int × Bool
 | [], _, a => (a, decide (a ≤ 6))
 | v :: vs, ts, a => match ts with
  | t :: ts => if (zbO data v t).2 then zbq data vs ts (a + (zbO data v t).1) else (0, false)
  | [] => (0, false)
def zcb (data : List Dat) : List IT → VT → Int → Int × Bool
 | [], _, a => (a, true)
 | .mk c ks :: es, t, a => match zbG data t c with
  | none => (0, false)
  | some ps => if ps.length = ks.length then
    (if (zbq data ks ps 0).2 && decide (a + (1 + (zbq data ks ps 0).1) ≤ 6) then zcb data es t (a + (1 + (zbq data ks ps 0).1)) else (0, false))
   else (0, false)
end
mutual
def rdV (data : List Dat) : IT → VT → Int
 | .mk n ks, t =>
  if t.kind = 6 then (if n = 0 then (if t.kids.length = ks.length then rdA data ks t.kids 0 else -1) else -1)
  else if t.kind = 7 then (if 0 ≤ n ∧ n ≤ 6 ∧ ks.length = 0 then n else -1)
  else if t.kind = 5 then (if n = 0 ∧ ks.length ≤ 6 then rdE data ks t 0 else -1)
  else (if n = 0 ∧ ks.length = 0 then 0 else -1)
def rdA (data : List Dat) : List IT → List VT → Int → Int
 | [], _, a => a
 | v :: vs, ts, a => match ts with
  | t :: ts => if rdV data v t < 0 ∨ a + rdV data v t > 6 then -1 else rdA data vs ts (a + rdV data v t)
  | [] => -1
def rdE (data : List Dat) : List IT → VT → Int → Int
 | [], _, a => a
 | .mk c ks :: es, t, a => if c < 0 ∨ 8 ≤ c then -1 else match zbG data t c with
  | none => -1
  | some ps => if ps.length = ks.length then
    (if rdA data ks ps 0 < 0 ∨ a + 1 + rdA data ks ps 0 > 6 then -1 else rdE data es t (a + (1 + rdA data ks ps 0)))
   else -1
end
theorem zvU {data : List Dat} (h8 : ∀ D ∈ data, D.cons.length ≤ 8) {t : VT} {c : Int} {ps : List VT} (h : zbG data t c = some ps) : 0 ≤ c ∧ c < 8 := by
 unfold zbG at h
 cases hf : zaL data t c with
 | none => rw [hf] at h; cases h
 | some l =>
  obtain ⟨_, k1, k2, hn, hc, _⟩ := zfa hf
  have := h8 _ (List.getElem_mem hn)
  omega
def agr (m : Int × Bool) (r : Int) : Prop := (m.2 = true → m.1 = r ∧ 0 ≤ r ∧ r ≤ 6) ∧ (m.2 = false → r = -1)
theorem zc1 : agr (0, false) (-1) := ⟨fun h => (by cases h), fun _ => rfl⟩
mutual
theorem zgb {data : List Dat} (h8 : ∀ D ∈ data, D.cons.length ≤ 8) : ∀ (v : IT) (t : VT), agr (zbO data v t) (rdV data v t)
 | .mk n ks, t => by
  have hA := (zga h8 ks t.kids 0 (by omega)).1 (by omega)
  have hE := zot h8 ks t 0 (by omega) (by omega)
  unfold zbO rdV
  split
  ·split
   ·split
    ·exact hA
    ·exact zc1
   ·exact zc1
  ·split
   ·refine ⟨fun h => ?_, fun h => ?_⟩
    ·simp at h
     rw [if_pos ⟨h.1.1, h.1.2, by simpa using h.2⟩]
     exact ⟨rfl, h.1.1, h.1.2⟩
    ·rw [if_neg]
     rintro ⟨h1, h2, h3⟩
     simp [h1, h2, h3] at h
   ·split
    ·by_cases hn : n = 0
     ·simp only [hn, if_true, true_and]
      by_cases hl : ks.length ≤ 6
      ·rw [if_pos hl]; exact hE.1
      ·rw [if_neg hl]
       refine ⟨fun h => ?_, fun _ => rfl⟩
       have := hE.2 h
       omega
     ·simp only [hn, if_false, false_and]
      exact zc1
    ·refine ⟨fun h => ?_, fun h => ?_⟩
     ·simp at h
      simp [h]
     ·rw [if_neg]
      rintro ⟨h1, h2⟩
      simp [h1, h2] at h
theorem zga {data : List Dat} (h8 : ∀ D ∈ data, D.cons.length ≤ 8) : ∀ (vs : List IT) (ts : List VT) (a : Int), 0 ≤ a → (a ≤ 6 → agr (zbq data vs ts a) (rdA data vs ts a)) ∧ (6 < a → (zbq data vs ts a).2 = false)
 | [], ts, a, ha => by
  simp only [zbq, rdA]
  exact ⟨fun h => ⟨fun _ => ⟨rfl, ha, h⟩, fun h2 => by simp at h2; omega⟩, fun h => by simp; omega⟩
 | v :: vs, ts, a, ha => by
  match ts with
  | [] => simp only [zbq, rdA]; exact ⟨fun _ => zc1, fun _ => by trivial⟩
  | t :: ts =>
   obtain ⟨g1, g2⟩ := zgb h8 v t
   simp only [zbq, rdA]
   cases hb : (zbO data v t).2 with
   | false =>
    rw [g2 hb]
    simp
    exact fun _ => zc1
   | true =>
    obtain ⟨e1, e2, e3⟩ := g1 hb
    rw [e1]
    have hn := zga h8 vs ts (a + rdV data v t) (by omega)
    simp only [if_true]
    refine ⟨fun h => ?_, fun h => hn.2 (by omega)⟩
    by_cases h6 : a + rdV data v t > 6
    ·rw [if_pos (.inr h6)]
     exact ⟨fun h => (by rw [hn.2 (by omega)] at h; cases h), fun _ => rfl⟩
    ·rw [if_neg (by omega)]
     exact hn.1 (by omega)
theorem zot {data : List Dat} (h8 : ∀ D ∈ data, D.cons.length ≤ 8) : ∀ (es : List IT) (t : VT) (a : Int), 0 ≤ a → a ≤ 6 → agr (zcb data es t a) (rdE data es t a) ∧ ((zcb data es t a).2 = true → a + es.length ≤ 6)
 | [], t, a, h0, h6 => by
  simp only [zcb, rdE]
  exact ⟨⟨fun _ => ⟨rfl, h0, h6⟩, fun h => by cases h⟩, fun _ => by simpa using h6⟩
 | .mk c ks :: es, t, a, h0, h6 => by
  simp only [zcb, rdE]
  cases hp : zbG data t c with
  | none => simp only [ite_self]; exact ⟨zc1, fun h => by cases h⟩
  | some ps =>
   obtain ⟨c0, c8⟩ := zvU h8 hp
   rw [if_neg (show ¬(c < 0 ∨ 8 ≤ c) by omega)]
   simp only
   by_cases hl : ps.length = ks.length
   ·simp only [hl, if_true]
    obtain ⟨g1, g2⟩ := (zga h8 ks ps 0 (by omega)).1 (by omega)
    cases hb : (zbq data ks ps 0).2 with
    | false =>
     rw [g2 hb]
     simp
     exact zc1
    | true =>
     obtain ⟨e1, e2, e3⟩ := g1 hb
     rw [e1]
     by_cases hh : a + (1 + rdA data ks ps 0) ≤ 6
     ·have hn := zot h8 es t (a + (1 + rdA data ks ps 0)) (by omega) hh
      rw [if_neg (show ¬(rdA data ks ps 0 < 0 ∨ a + 1 + rdA data ks ps 0 > 6) by omega)]
      simp only [hh, decide_true, Bool.and_self, if_true]
      refine ⟨hn.1, fun h => ?_⟩
      have := hn.2 h
      simp only [List.length_cons]
      omega
     ·rw [if_pos (show rdA data ks ps 0 < 0 ∨ a + 1 + rdA data ks ps 0 > 6 by omega)]
      simp [hh]
      exact zc1
   ·simp only [hl, if_false]
    exact ⟨zc1, fun h => by cases h⟩
end
end Go.Proofs.YtacebbdfgbfgiaaGreat
namespace Go.Proofs.YtacebbdfgbfgiaaGreat
open Go Go.Abs
set_option maxRecDepth 100000
def zEe (_ : Nat) : List Bool := []
noncomputable def zEf : Code := Tryz.f9.body.getD .skip
def zq7 (t0 : AV) (H : zaa) (K : Kt) : Prop :=
 zaq t0 H fun t1 H =>
 zau [(.int .i64 0)] H fun t3 H =>
 zak 1 t3 (.int .i64 40) H fun H =>
 zad true 2 t1 H fun t4 =>
 ACalls tP zgB [t4, t3] H fun t5 H =>
 K t5 H
theorem zEg {t0 : AV} {H : zaa} {K : Kt} (h : HSc H → zq7 t0 H K) : ACalls tP zkN [t0] H K :=
 zam (M := zEe) Tryz.func9 (c := zEf) (by kernel_rfl) (fun hs => Eq.mpr (by kernel_rfl) (h hs))
def zh3 : Nat → List Bool
 | 5 => rl false [1,2,2,1,24]
 | _ => []
noncomputable def zmf : Code := Tryz.f26.body.getD .skip
noncomputable def zAj : List ResultVar := Tryz.f26.results.toList
def zh4 (t1 t2 t5 : AV) : List AV := ux 1 (t1 :: t2 :: ux 2 (t5 :: ux 24 []))
def zAh : List Bool := zh3 5
noncomputable def zAf : Code := zao [1, 1, 1, 0, 1, 0, 0] zmf
def zAe (K : Kt) : AExit → List AV → zaa → Prop := zap tP zh3 [1, 1, 1, 0, 1, 0] zmf (zaw tP zAj K)
def zrZ (t1 t2 t5 : AV) (H : zaa) (K : Kt) : Prop := ALoop tP zAf (zAe K) (zh4 t1 t2 t5) H
def zme (t1 t2 t5 : AV) (H : zaa) (K : Kt) (Kb5 : Lt) : Prop :=
 zaf 1 t2 fun t16 =>
 zad false 1 t16 H fun t17 =>
 zah 1 t17 fun t18 =>
 zac .lss false t5 t18 fun t19 =>
 zag t19
 (zaf 1 t2 fun t22 =>
 zad false 1 t22 H fun t23 =>
 zai 2 t23 t5 fun t25 =>
 zad true 2 t25 H fun t26 =>
 ACalls tP zgB [t26, t1] H fun t28 H =>
 aUn .not t28 fun t29 =>
 zag t29
 (K (.bool false) H)
 (zac .add false t5 (.int .i64 1) fun t21 =>
 Kb5 (zh4 t1 t2 t21) H))
 (K (.bool true) H)
def zrY (t0 t1 : AV) (H : zaa) (K : Kt) : Prop :=
 zaq t0 H fun t2 H =>
 za9 t1 fun t7 =>
 zad false 1 t7 H fun t8 =>
 zac .sub false t8 (.int .i64 1) fun t9 =>
 za9 t1 fun t10 =>
 zak 1 t10 t9 H fun H =>
 za9 t1 fun t12 =>
 zad false 1 t12 H fun t13 =>
 zac .lss false t13 (.int .i64 0) fun t14 =>
 zag t14
 (K (.bool false) H)
 (zrZ t1 t2 (.int .i64 0) H K)
theorem zAg {t1 t2 t5 : AV} {H : zaa} {K : Kt} (Inv : Nat → AV → zaa → Prop) (n : Nat) (h0 : HSc H → Inv n t5 H)
  (round : Rd1 (fun t5 => zh4 t1 t2 t5) (fun t5 => fun H Kb5 => zme t1 t2 t5 H K Kb5) H Inv) : zrZ t1 t2 t5 H K :=
 lp1 (M := zh3) zAh t5 (by kernel_rfl) Inv n h0 round
theorem zAi {t0 t1 : AV} {H : zaa} {K : Kt} (h : HSc H → zrY t0 t1 H K) : ACalls tP zgB [t0, t1] H K :=
 zam (M := zh3) Tryz.func26 (c := zmf) (by kernel_rfl) (fun hs => Eq.mpr (by kernel_rfl) (h hs))
def zAl (_ : Nat) : List Bool := []
noncomputable def zAm : Code := Tryz.f27.body.getD .skip
def zr0 (t0 t1 t2 : AV) (H : zaa) (K : Kt) : Prop :=
 zaq t1 H fun t4 H =>
 zaq t2 H fun t5 H =>
 zad true 3 t4 H fun t8 =>
 zad true 2 t5 H fun t9 =>
 ACalls tP zkG [t0, t8, t9] H fun t10 H =>
 zac .geq false t10 (.int .i64 0) fun t11 =>
 K t11 H
theorem zAn {t0 t1 t2 : AV} {H : zaa} {K : Kt} (h : HSc H → zr0 t0 t1 t2 H K) : ACalls tP zkA [t0, t1, t2] H K :=
 zam (M := zAl) Tryz.func27 (c := zAm) (by kernel_rfl) (fun hs => Eq.mpr (by kernel_rfl) (h hs))
def zBc (_ : Nat) : List Bool := []
noncomputable def zBd : Code := Tryz.f37.body.getD .skip
def zsh (t0 t1 t2 : AV) (H : zaa) (K : Kt) : Prop :=
 zaq t1 H fun t4 H =>
 zaq t2 H fun t5 H =>
 zad true 3 t4 H fun t8 =>
 zad true 2 t5 H fun t9 =>
 ACalls tP zkr [t0, t8, t9] H fun t10 H =>
 zac .geq false t10 (.int .i64 0) fun t11 =>
 K t11 H
theorem zBe {t0 t1 t2 : AV} {H : zaa} {K : Kt} (h : HSc H → zsh t0 t1 t2 H K) : ACalls tP zkE [t0, t1, t2] H K :=
 zam (M := zBc) Tryz.func37 (c := zBd) (by kernel_rfl) (fun hs => Eq.mpr (by kernel_rfl) (h hs))
def zB7 (_ : Nat) : List Bool := []
noncomputable def zB8 : Code := Tryz.f46.body.getD .skip
def zsA (t0 t1 t2 : AV) (H : zaa) (K : Kt) : Prop :=
 zaq t1 H fun t4 H =>
 zaq t2 H fun t5 H =>
 zad true 3 t4 H fun t10 =>
 ACalls tP zfv [t0, t10] H fun t11 H =>
 aUn .not t11 fun t12 =>
 zag t12
 (K (.int .i64 (-1)) H)
 (zad true 3 t4 H fun t15 =>
 zad true 2 t5 H fun t16 =>
 ACalls tP zgT [t0, t15, t16] H fun t17 H =>
 zas t17 0 fun t18 =>
 zas t17 1 fun t19 =>
 aUn .not t19 fun t21 =>
 zag t21
 (K (.int .i64 (-1)) H)
 (K t18 H))
theorem zB9 {t0 t1 t2 : AV} {H : zaa} {K : Kt} (h : HSc H → zsA t0 t1 t2 H K) : ACalls tP zkG [t0, t1, t2] H K :=
 zam (M := zB7) Tryz.func46 (c := zB8) (by kernel_rfl) (fun hs => Eq.mpr (by kernel_rfl) (h hs))
def zyW (_ : Nat) : List Bool := []
noncomputable def zyX : Code := Tryz.f14.body.getD .skip
def zrt (t0 t1 t2 : AV) (H : zaa) (K : Kt) : Prop :=
 zaq t1 H fun t4 H =>
 zaq t2 H fun t5 H =>
 zad true 3 t4 H fun t8 =>
 ACalls tP zkF [t0, t8] H fun t9 H =>
 aUn .not t9 fun t10 =>
 zag t10
 (K (.int .i64 (-1)) H)
 (zad true 3 t4 H fun t12 =>
 zad true 2 t5 H fun t13 =>
 ACalls tP zgF [t0, t12, t13] H fun t14 H =>
 K t14 H)
theorem zyY {t0 t1 t2 : AV} {H : zaa} {K : Kt} (h : HSc H → zrt t0 t1 t2 H K) : ACalls tP zkr [t0, t1, t2] H K :=
 zam (M := zyW) Tryz.func14 (c := zyX) (by kernel_rfl) (fun hs => Eq.mpr (by kernel_rfl) (h hs))
def zCC (_ : Nat) : List Bool := []
noncomputable def zCD : Code := Tryz.f52.body.getD .skip
def zsG (t0 t1 : AV) (H : zaa) (K : Kt) : Prop :=
 zaq t1 H fun t3 H =>
 zav [.snil, .snil, .snil, .snil] [(0, 1), (1, 1), (2, 1), (3, 1)] [(0, t0)] fun t6 =>
 ACalls tP zkM [t6] H fun t7 H =>
 zab t7 true H (fun K' => K' t0 H) fun t9 H =>
 zab t7 true H (fun K' => zad true 3 t3 H (K' · H)) fun t10 H =>
 zab t7 true H (fun K' => ACalls tP zfw [t9, t10, (.int .i64 0)] H K') fun t11 H =>
 zaj t7 t11 (.bool false) fun t12 =>
 K t12 H
theorem zCE {t0 t1 : AV} {H : zaa} {K : Kt} (h : HSc H → zsG t0 t1 H K) : ACalls tP zfv [t0, t1] H K :=
 zam (M := zCC) Tryz.func52 (c := zCD) (by kernel_rfl) (fun hs => Eq.mpr (by kernel_rfl) (h hs))
def zjg : Nat → List Bool
 | 13 => rl false [0,1,3,1,3,1,44,3,42]
 | _ => []
noncomputable def znx : Code := Tryz.f68.body.getD .skip
noncomputable def zDW : List ResultVar := Tryz.f68.results.toList
def zjh (t0 t4 t8 t53 t54 t55 : AV) : List AV := t0 :: ux 3 (t4 :: ux 3 (t8 :: ux 44 (t53 :: t54 :: t55 :: ux 42 [])))
def zDU : List Bool := zjg 13
noncomputable def zDS : Code := zao [1, 0, 1, 0, 1, 1, 1, 1, 1, 0, 1, 1, 0, 1, 0, 0] znx
def zDR (K : Kt) : AExit → List AV → zaa → Prop := zap tP zjg [1, 0, 1, 0, 1, 1, 1, 1, 1, 0, 1, 1, 0, 1, 0] znx (zaw tP zDW K)
def zs9 (t0 t4 t8 t53 t54 t55 : AV) (H : zaa) (K : Kt) : Prop := ALoop tP zDS (zDR K) (zjh t0 t4 t8 t53 t54 t55) H
def znw (t0 t4 t8 t53 t54 t55 : AV) (H : zaa) (K : Kt) (Kb13 : Lt) : Prop :=
 zac .lss false t55 t54 fun t56 =>
 zag t56
 (zai 2 t53 t55 fun t57 =>
 zad true 2 t57 H fun t58 =>
 zau [(.int .i64 0), .snil] H fun t10 H =>
 zak 2 t10 t58 H fun H =>
 zad true 3 t4 H fun t61 =>
 zaf 0 t10 fun t62 =>
 zad false 1 t62 H fun t63 =>
 ACalls tP zkO [t0, t61, t63] H fun t64 H =>
 zas t64 0 fun t65 =>
 zas t64 1 fun t66 =>
 aUn .not t66 fun t68 =>
 zag t68
 (zax [(.int .i64 0), (.bool false)] (K · H))
 (zaf 1 t10 fun t72 =>
 zad false 1 t72 H fun t73 =>
 ACalls tP zgZ [t0, t65, t73] H fun t74 H =>
 zas t74 0 fun t75 =>
 zas t74 1 fun t76 =>
 zac .add false (.int .i64 1) t75 fun t79 =>
 zac .add false t8 t79 fun t80 =>
 aUn .not t76 fun t82 =>
 zab t82 false H (fun K' => K' t80 H) fun t84 H =>
 zab t82 false H (fun K' => zac .gtr false t84 (.int .i64 6) (K' · H)) fun t85 H =>
 zaj t82 (.bool true) t85 fun t86 =>
 zag t86
 (zax [(.int .i64 0), (.bool false)] (K · H))
 (zac .add false t55 (.int .i64 1) fun t87 =>
 Kb13 (zjh t0 t4 t80 t53 t54 t87) H)))
 (zax [t8, (.bool true)] (K · H))
def zcA (t0 t1 t2 : AV) (H : zaa) (K : Kt) : Prop :=
 zaq t1 H fun t4 H =>
 zaq t2 H fun t5 H =>
 zaf 0 t4 fun t14 =>
 zad false 1 t14 H fun t15 =>
 zac .eql false t15 (.int .i64 6) fun t17 =>
 zag t17
 (zaf 0 t5 fun t18 =>
 zad false 1 t18 H fun t19 =>
 zac .neq false t19 (.int .i64 0) fun t20 =>
 zag t20
 (zax [(.int .i64 0), (.bool false)] (K · H))
 (zaf 2 t4 fun t22 =>
 zad false 1 t22 H fun t23 =>
 zaf 1 t5 fun t24 =>
 zad false 1 t24 H fun t25 =>
 ACalls tP zgZ [t0, t23, t25] H fun t26 H =>
 zas t26 0 fun t27 =>
 zas t26 1 fun t28 =>
 zax [t27, t28] (K · H)))
 (zac .eql false t15 (.int .i64 7) fun t30 =>
 zag t30
 (zae H (fun K' => zaf 0 t5 (K' · H)) fun t31 =>
 zae H (fun K' => zan false 1 t31 H (K' · H)) fun t32 =>
 zae H (fun K' => zaf 0 t5 (K' · H)) fun t33 =>
 zae H (fun K' => zan false 1 t33 H (K' · H)) fun t34 =>
 zae H (fun K' => zac .geq false t34 (.int .i64 0) (K' · H)) fun t35 =>
 zae H (fun K' => K' t35 H) fun t36 =>
 zab t36 true H (fun K' => zae H (fun K'' => zaf 0 t5 (K'' · H)) (K' · H)) fun t37 H =>
 zab t36 true H (fun K' => zae H (fun K'' => zan false 1 t37 H (K'' · H)) (K' · H)) fun t38 H =>
 zab t36 true H (fun K' => zae H (fun K'' => zac .leq false t38 (.int .i64 6) (K'' · H)) (K' · H)) fun t39 H =>
 zae H (fun K' => zaj t36 t39 (.bool false) (K' · H)) fun t40 =>
 zae H (fun K' => K' t40 H) fun t41 =>
 zab t41 true H (fun K' => zae H (fun K'' => zaf 1 t5 (K'' · H)) (K' · H)) fun t42 H =>
 zab t41 true H (fun K' => zae H (fun K'' => zan false 1 t42 H (K'' · H)) (K' · H)) fun t43 H =>
 zab t41 true H (fun K' => zae H (fun K'' => zah 1 t43 (K'' · H)) (K' · H)) fun t44 H =>
 zab t41 true H (fun K' => zae H (fun K'' => zac .eql false t44 (.int .i64 0) (K'' · H)) (K' · H)) fun t45 H =>
 zae H (fun K' => zaj t41 t45 (.bool false) (K' · H)) fun t46 =>
 zae H (fun K' => K' t32 H) fun t6 =>
 zae H (fun K' => K' t46 H) fun t7 =>
 zax [t6, t7] (K · H))
 (zac .eql false t15 (.int .i64 5) fun t48 =>
 zag t48
 (zaf 0 t5 fun t49 =>
 zad false 1 t49 H fun t50 =>
 zac .neq false t50 (.int .i64 0) fun t51 =>
 zag t51
 (zax [(.int .i64 0), (.bool false)] (K · H))
 (zaf 1 t5 fun t52 =>
 zad false 1 t52 H fun t53 =>
 zah 1 t53 fun t54 =>
 zs9 t0 t4 (.int .i64 0) t53 t54 (.int .i64 0) H K))
 (zae H (fun K' => zaf 0 t5 (K' · H)) fun t89 =>
 zae H (fun K' => zan false 1 t89 H (K' · H)) fun t90 =>
 zae H (fun K' => zac .eql false t90 (.int .i64 0) (K' · H)) fun t91 =>
 zae H (fun K' => K' t91 H) fun t92 =>
 zab t92 true H (fun K' => zae H (fun K'' => zaf 1 t5 (K'' · H)) (K' · H)) fun t93 H =>
 zab t92 true H (fun K' => zae H (fun K'' => zan false 1 t93 H (K'' · H)) (K' · H)) fun t94 H =>
 zab t92 true H (fun K' => zae H (fun K'' => zah 1 t94 (K'' · H)) (K' · H)) fun t95 H =>
 zab t92 true H (fun K' => zae H (fun K'' => zac .eql false t95 (.int .i64 0) (K'' · H)) (K' · H)) fun t96 H =>
 zae H (fun K' => zaj t92 t96 (.bool false) (K' · H)) fun t97 =>
 zae H (fun K' => K' (.int .i64 0) H) fun t6 =>
 zae H (fun K' => K' t97 H) fun t7 =>
 zax [t6, t7] (K · H))))
theorem zDT {t0 t4 t8 t53 t54 t55 : AV} {H : zaa} {K : Kt} (Inv : Nat → AV → AV → zaa → Prop) (n : Nat) (h0 : HSc H → Inv n t8 t55 H)
  (round : Rd2 (fun t8 => fun t55 => zjh t0 t4 t8 t53 t54 t55) (fun t8 => fun t55 => fun H Kb13 => znw t0 t4 t8 t53 t54 t55 H K Kb13) H Inv) : zs9 t0 t4 t8 t53 t54 t55 H K :=
 lp2 (M := zjg) zDU t8 t55 (by kernel_rfl) Inv n h0 round
theorem zDV {t0 t1 t2 : AV} {H : zaa} {K : Kt} (h : HSc H → zcA t0 t1 t2 H K) : ACalls tP zgT [t0, t1, t2] H K :=
 zam (M := zjg) Tryz.func68 (c := znx) (by kernel_rfl) (fun hs => Eq.mpr (by kernel_rfl) (h hs))
def zBx (_ : Nat) : List Bool := []
noncomputable def zBy : Code := Tryz.f39.body.getD .skip
def zss (t0 t1 : AV) (H : zaa) (K : Kt) : Prop :=
 zaq t1 H fun t3 H =>
 ACalls tP zkK [t0] H fun t6 H =>
 zab t6 true H (fun K' => K' t0 H) fun t8 H =>
 zab t6 true H (fun K' => zad true 3 t3 H (K' · H)) fun t9 H =>
 zab t6 true H (fun K' => ACalls tP zgQ [t8, t9, (.int .i64 0)] H K') fun t10 H =>
 zaj t6 t10 (.bool false) fun t11 =>
 K t11 H
theorem zBz {t0 t1 : AV} {H : zaa} {K : Kt} (h : HSc H → zss t0 t1 H K) : ACalls tP zkF [t0, t1] H K :=
 zam (M := zBx) Tryz.func39 (c := zBy) (by kernel_rfl) (fun hs => Eq.mpr (by kernel_rfl) (h hs))
def ziu : Nat → List Bool
 | 15 => rl false [0,1,3,1,2,1,48,3,50]
 | _ => []
noncomputable def zmH : Code := Tryz.f40.body.getD .skip
noncomputable def zBG : List ResultVar := Tryz.f40.results.toList
def ziv (t0 t4 t7 t56 t57 t58 : AV) : List AV := t0 :: ux 3 (t4 :: ux 2 (t7 :: ux 48 (t56 :: t57 :: t58 :: ux 50 [])))
def zBE : List Bool := ziu 15
noncomputable def zBC : Code := zao [1, 0, 1, 0, 1, 1, 1, 1, 1, 0, 1, 1, 0, 1, 0, 0] zmH
def zBB (K : Kt) : AExit → List AV → zaa → Prop := zap tP ziu [1, 0, 1, 0, 1, 1, 1, 1, 1, 0, 1, 1, 0, 1, 0] zmH (zaw tP zBG K)
def zst (t0 t4 t7 t56 t57 t58 : AV) (H : zaa) (K : Kt) : Prop := ALoop tP zBC (zBB K) (ziv t0 t4 t7 t56 t57 t58) H
def zfV (t0 t4 t7 t56 t57 t58 : AV) (H : zaa) (K : Kt) (Kb15 : Lt) : Prop :=
 zac .lss false t58 t57 fun t59 =>
 zag t59
 (zai 2 t56 t58 fun t60 =>
 zad true 2 t60 H fun t61 =>
 zau [(.int .i64 0), .snil] H fun t9 H =>
 zak 2 t9 t61 H fun H =>
 zaf 0 t9 fun t62 =>
 zad false 1 t62 H fun t63 =>
 zac .lss false t63 (.int .i64 0) fun t64 =>
 zab t64 false H (fun K' => zaf 0 t9 (K' · H)) fun t66 H =>
 zab t64 false H (fun K' => zad false 1 t66 H (K' · H)) fun t67 H =>
 zab t64 false H (fun K' => zac .geq false t67 (.int .i64 8) (K' · H)) fun t68 H =>
 zaj t64 (.bool true) t68 fun t69 =>
 zag t69
 (K (.int .i64 (-1)) H)
 (zad true 3 t4 H fun t72 =>
 zaf 0 t9 fun t73 =>
 zad false 1 t73 H fun t74 =>
 ACalls tP zkL [t0, t72, t74] H fun t75 H =>
 zas t75 0 fun t76 =>
 zas t75 1 fun t77 =>
 aUn .not t77 fun t79 =>
 zag t79
 (K (.int .i64 (-1)) H)
 (zaf 1 t9 fun t82 =>
 zad false 1 t82 H fun t83 =>
 ACalls tP zgR [t0, t76, t83] H fun t84 H =>
 zac .lss false t84 (.int .i64 0) fun t86 =>
 zab t86 false H (fun K' => K' t7 H) fun t88 H =>
 zab t86 false H (fun K' => zac .add false t88 (.int .i64 1) (K' · H)) fun t89 H =>
 zab t86 false H (fun K' => K' t84 H) fun t90 H =>
 zab t86 false H (fun K' => zac .add false t89 t90 (K' · H)) fun t91 H =>
 zab t86 false H (fun K' => zac .gtr false t91 (.int .i64 6) (K' · H)) fun t92 H =>
 zaj t86 (.bool true) t92 fun t93 =>
 zag t93
 (K (.int .i64 (-1)) H)
 (zac .add false (.int .i64 1) t84 fun t96 =>
 zac .add false t7 t96 fun t97 =>
 zac .add false t58 (.int .i64 1) fun t98 =>
 Kb15 (ziv t0 t4 t97 t56 t57 t98) H))))
 (K t7 H)
def zcn (t0 t1 t2 : AV) (H : zaa) (K : Kt) : Prop :=
 zaq t1 H fun t4 H =>
 zaq t2 H fun t5 H =>
 zaf 0 t4 fun t13 =>
 zad false 1 t13 H fun t14 =>
 zac .eql false t14 (.int .i64 6) fun t16 =>
 zag t16
 (zaf 0 t5 fun t17 =>
 zad false 1 t17 H fun t18 =>
 zac .neq false t18 (.int .i64 0) fun t19 =>
 zag t19
 (K (.int .i64 (-1)) H)
 (zaf 2 t4 fun t21 =>
 zad false 1 t21 H fun t22 =>
 zaf 1 t5 fun t23 =>
 zad false 1 t23 H fun t24 =>
 ACalls tP zgR [t0, t22, t24] H fun t25 H =>
 K t25 H))
 (zac .eql false t14 (.int .i64 7) fun t27 =>
 zag t27
 (zaf 0 t5 fun t28 =>
 zad false 1 t28 H fun t29 =>
 zac .lss false t29 (.int .i64 0) fun t30 =>
 zab t30 false H (fun K' => zaf 0 t5 (K' · H)) fun t32 H =>
 zab t30 false H (fun K' => zad false 1 t32 H (K' · H)) fun t33 H =>
 zab t30 false H (fun K' => zac .gtr false t33 (.int .i64 6) (K' · H)) fun t34 H =>
 zaj t30 (.bool true) t34 fun t35 =>
 zab t35 false H (fun K' => zaf 1 t5 (K' · H)) fun t37 H =>
 zab t35 false H (fun K' => zad false 1 t37 H (K' · H)) fun t38 H =>
 zab t35 false H (fun K' => zah 1 t38 (K' · H)) fun t39 H =>
 zab t35 false H (fun K' => zac .gtr false t39 (.int .i64 0) (K' · H)) fun t40 H =>
 zaj t35 (.bool true) t40 fun t41 =>
 zag t41
 (K (.int .i64 (-1)) H)
 (zaf 0 t5 fun t42 =>
 zad false 1 t42 H fun t43 =>
 K t43 H))
 (zac .eql false t14 (.int .i64 5) fun t45 =>
 zag t45
 (zaf 0 t5 fun t46 =>
 zad false 1 t46 H fun t47 =>
 zac .neq false t47 (.int .i64 0) fun t48 =>
 zab t48 false H (fun K' => zaf 1 t5 (K' · H)) fun t50 H =>
 zab t48 false H (fun K' => zad false 1 t50 H (K' · H)) fun t51 H =>
 zab t48 false H (fun K' => zah 1 t51 (K' · H)) fun t52 H =>
 zab t48 false H (fun K' => zac .gtr false t52 (.int .i64 6) (K' · H)) fun t53 H =>
 zaj t48 (.bool true) t53 fun t54 =>
 zag t54
 (K (.int .i64 (-1)) H)
 (zaf 1 t5 fun t55 =>
 zad false 1 t55 H fun t56 =>
 zah 1 t56 fun t57 =>
 zst t0 t4 (.int .i64 0) t56 t57 (.int .i64 0) H K))
 (zaf 0 t5 fun t100 =>
 zad false 1 t100 H fun t101 =>
 zac .neq false t101 (.int .i64 0) fun t102 =>
 zab t102 false H (fun K' => zaf 1 t5 (K' · H)) fun t104 H =>
 zab t102 false H (fun K' => zad false 1 t104 H (K' · H)) fun t105 H =>
 zab t102 false H (fun K' => zah 1 t105 (K' · H)) fun t106 H =>
 zab t102 false H (fun K' => zac .gtr false t106 (.int .i64 0) (K' · H)) fun t107 H =>
 zaj t102 (.bool true) t107 fun t108 =>
 zag t108
 (K (.int .i64 (-1)) H)
 (K (.int .i64 0) H))))
theorem zBD {t0 t4 t7 t56 t57 t58 : AV} {H : zaa} {K : Kt} (Inv : Nat → AV → AV → zaa → Prop) (n : Nat) (h0 : HSc H → Inv n t7 t58 H)
  (round : Rd2 (fun t7 => fun t58 => ziv t0 t4 t7 t56 t57 t58) (fun t7 => fun t58 => fun H Kb15 => zfV t0 t4 t7 t56 t57 t58 H K Kb15) H Inv) : zst t0 t4 t7 t56 t57 t58 H K :=
 lp2 (M := ziu) zBE t7 t58 (by kernel_rfl) Inv n h0 round
theorem zBF {t0 t1 t2 : AV} {H : zaa} {K : Kt} (h : HSc H → zcn t0 t1 t2 H K) : ACalls tP zgF [t0, t1, t2] H K :=
 zam (M := ziu) Tryz.func40 (c := zmH) (by kernel_rfl) (fun hs => Eq.mpr (by kernel_rfl) (h hs))
def zjt : Nat → List Bool
 | 5 => rl false [0,1,1,1,5,1,9,3,23]
 | _ => []
noncomputable def znJ : Code := Tryz.f87.body.getD .skip
noncomputable def zEO : List ResultVar := Tryz.f87.results.toList
def zju (t0 t2 t8 t18 t19 t20 : AV) : List AV := t0 :: ux 1 (t2 :: ux 5 (t8 :: ux 9 (t18 :: t19 :: t20 :: ux 23 [])))
def zEM : List Bool := zjt 5
noncomputable def zEK : Code := zao [1, 1, 1, 0, 1, 0, 0] znJ
def zEJ (K : Kt) : AExit → List AV → zaa → Prop := zap tP zjt [1, 1, 1, 0, 1, 0] znJ (zaw tP zEO K)
def ztq (t0 t2 t8 t18 t19 t20 : AV) (H : zaa) (K : Kt) : Prop := ALoop tP zEK (zEJ K) (zju t0 t2 t8 t18 t19 t20) H
def znI (t0 t2 t8 t18 t19 t20 : AV) (H : zaa) (K : Kt) (Kb5 : Lt) : Prop :=
 zac .lss false t20 t19 fun t21 =>
 zag t21
 (zai 3 t18 t20 fun t23 =>
 zad true 3 t23 H fun t24 =>
 zau [(.int .i64 0), (.int .i64 0), .snil] H fun t10 H =>
 zak 3 t10 t24 H fun H =>
 zae H (fun K' => K' t0 H) fun t26 =>
 zae H (fun K' => zan true 3 t10 H (K' · H)) fun t27 =>
 zae H (fun K' => K' t2 H) fun t28 =>
 zae H (fun K' => K' t20 H) fun t29 =>
 zae H (fun K' => zai 2 t28 t29 (K' · H)) fun t30 =>
 zae H (fun K' => zan true 2 t30 H (K' · H)) fun t31 =>
 zbl H (fun H K' => ACalls tP zgT [t26, t27, t31] H K') fun t32 =>
 zae H (fun K' => K' t32 H) fun t25 =>
 zae H (fun K' => zas t25 0 (K' · H)) fun t33 =>
 zae H (fun K' => zas t25 1 (K' · H)) fun t34 =>
 zae H (fun K' => K' t33 H) fun t11 =>
 zae H (fun K' => K' t34 H) fun t12 =>
 aUn .not t12 fun t36 =>
 zag t36
 (zax [(.int .i64 0), (.bool false)] (K · H))
 (zac .add false t8 t11 fun t39 =>
 zac .add false t20 (.int .i64 1) fun t40 =>
 Kb5 (zju t0 t2 t39 t18 t19 t40) H))
 (zac .leq false t8 (.int .i64 6) fun t43 =>
 zax [t8, t43] (K · H))
def znH (t0 t1 t2 : AV) (H : zaa) (K : Kt) : Prop :=
 zah 1 t1 fun t14 =>
 zah 1 t2 fun t16 =>
 zac .neq false t14 t16 fun t17 =>
 zag t17
 (zax [(.int .i64 0), (.bool false)] (K · H))
 (zah 1 t1 fun t19 =>
 ztq t0 t2 (.int .i64 0) t1 t19 (.int .i64 0) H K)
theorem zEL {t0 t2 t8 t18 t19 t20 : AV} {H : zaa} {K : Kt} (Inv : Nat → AV → AV → zaa → Prop) (n : Nat) (h0 : HSc H → Inv n t8 t20 H)
  (round : Rd2 (fun t8 => fun t20 => zju t0 t2 t8 t18 t19 t20) (fun t8 => fun t20 => fun H Kb5 => znI t0 t2 t8 t18 t19 t20 H K Kb5) H Inv) : ztq t0 t2 t8 t18 t19 t20 H K :=
 lp2 (M := zjt) zEM t8 t20 (by kernel_rfl) Inv n h0 round
theorem zEN {t0 t1 t2 : AV} {H : zaa} {K : Kt} (h : HSc H → znH t0 t1 t2 H K) : ACalls tP zgZ [t0, t1, t2] H K :=
 zam (M := zjt) Tryz.func87 (c := znJ) (by kernel_rfl) (fun hs => Eq.mpr (by kernel_rfl) (h hs))
def zjv : Nat → List Bool
 | 6 => rl false [8,1,1,1,15,3,15]
 | _ => []
noncomputable def znL : Code := Tryz.f88.body.getD .skip
noncomputable def zEU : List ResultVar := Tryz.f88.results.toList
def zjw (t8 t10 t26 t27 t28 : AV) : List AV := ux 8 (t8 :: ux 1 (t10 :: ux 15 (t26 :: t27 :: t28 :: ux 15 [])))
def zES : List Bool := zjv 6
noncomputable def zEQ : Code := zao [1, 1, 1, 1, 0, 1, 0, 0] znL
def zEP (K : Kt) : AExit → List AV → zaa → Prop := zap tP zjv [1, 1, 1, 1, 0, 1, 0] znL (zaw tP zEU K)
def zjy (t8 t10 t26 t27 t28 : AV) (H : zaa) (K : Kt) : Prop := ALoop tP zEQ (zEP K) (zjw t8 t10 t26 t27 t28) H
def ztt (t8 t10 t26 t27 t28 : AV) (H : zaa) (K : Kt) (Kb6 : Lt) : Prop :=
 zac .add false t28 (.int .i64 1) fun t42 =>
 Kb6 (zjw t8 t10 t26 t27 t42) H
def zjx (t8 t10 t26 t27 t28 : AV) (H : zaa) (K : Kt) (Kb6 : Lt) : Prop :=
 ztt t8 t10 t26 t27 t28 H K Kb6
def znK (t8 t10 t26 t27 t28 : AV) (H : zaa) (K : Kt) (Kb6 : Lt) : Prop :=
 zac .lss false t28 t27 fun t29 =>
 zag t29
 (zai 1 t26 t28 fun t31 =>
 zad false 1 t31 H fun t32 =>
 aUn .not t32 fun t34 =>
 zag t34
 (zai 3 t8 t28 fun t38 =>
 zad true 3 t38 H fun t39 =>
 zaA 3 [(.int .i64 0), (.int .i64 0), .snil] 1 [(0, t39)] fun t40 =>
 zar zaP 3 40 t10 t40 H fun t41 H =>
 zjx t8 t41 t26 t27 t28 H K Kb6)
 (zjx t8 t10 t26 t27 t28 H K Kb6))
 (zax [t10, (.bool true)] (K · H))
def zts (t0 t1 t2 : AV) (H : zaa) (K : Kt) : Prop :=
 zaq t1 H fun t4 H =>
 zad true 3 t4 H fun t15 =>
 ACalls tP zfq [t0, t15, t2] H fun t17 H =>
 zas t17 0 fun t18 =>
 zas t17 1 fun t19 =>
 aUn .not t19 fun t21 =>
 zag t21
 (zax [.snil, (.bool false)] (K · H))
 (zaf 1 t4 fun t23 =>
 zad false 1 t23 H fun t24 =>
 ACalls tP zc7 [t0, t24, t2] H fun t26 H =>
 zah 1 t26 fun t27 =>
 zjy t18 .snil t26 t27 (.int .i64 0) H K)
theorem zER {t8 t10 t26 t27 t28 : AV} {H : zaa} {K : Kt} (Inv : Nat → AV → AV → zaa → Prop) (n : Nat) (h0 : HSc H → Inv n t10 t28 H)
  (round : Rd2 (fun t10 => fun t28 => zjw t8 t10 t26 t27 t28) (fun t10 => fun t28 => fun H Kb6 => znK t8 t10 t26 t27 t28 H K Kb6) H Inv) : zjy t8 t10 t26 t27 t28 H K :=
 lp2 (M := zjv) zES t10 t28 (by kernel_rfl) Inv n h0 round
theorem zET {t0 t1 t2 : AV} {H : zaa} {K : Kt} (h : HSc H → zts t0 t1 t2 H K) : ACalls tP zkO [t0, t1, t2] H K :=
 zam (M := zjv) Tryz.func88 (c := znL) (by kernel_rfl) (fun hs => Eq.mpr (by kernel_rfl) (h hs))
def zjb : Nat → List Bool
 | 7 => rl false [8,1,4,1,19,3,12]
 | _ => []
noncomputable def znt : Code := Tryz.f66.body.getD .skip
noncomputable def zDJ : List ResultVar := Tryz.f66.results.toList
def zjc (t8 t13 t33 t34 t35 : AV) : List AV := ux 8 (t8 :: ux 4 (t13 :: ux 19 (t33 :: t34 :: t35 :: ux 12 [])))
def zDH : List Bool := zjb 7
noncomputable def zDF : Code := zao [1, 1, 1, 1, 1, 0, 1, 0, 0] znt
def zDE (K : Kt) : AExit → List AV → zaa → Prop := zap tP zjb [1, 1, 1, 1, 1, 0, 1, 0] znt (zaw tP zDJ K)
def zjd (t8 t13 t33 t34 t35 : AV) (H : zaa) (K : Kt) : Prop := ALoop tP zDF (zDE K) (zjc t8 t13 t33 t34 t35) H
def zns (t8 t13 t33 t34 t35 : AV) (H : zaa) (K : Kt) (Kb7 : Lt) : Prop :=
 zac .lss false t35 t34 fun t36 =>
 zag t36
 (zai 1 t33 t35 fun t37 =>
 zad false 1 t37 H fun t38 =>
 zai 3 t8 t38 fun t42 =>
 zad true 3 t42 H fun t43 =>
 zaA 3 [(.int .i64 0), (.int .i64 0), .snil] 1 [(0, t43)] fun t44 =>
 zar zaP 3 40 t13 t44 H fun t45 H =>
 zac .add false t35 (.int .i64 1) fun t46 =>
 Kb7 (zjc t8 t45 t33 t34 t46) H)
 (zax [t13, (.bool true)] (K · H))
def zs6 (t0 t1 t2 : AV) (H : zaa) (K : Kt) : Prop :=
 zaq t1 H fun t4 H =>
 zad true 3 t4 H fun t18 =>
 ACalls tP zfl [t0, t18, t2] H fun t20 H =>
 zas t20 0 fun t21 =>
 zas t20 1 fun t22 =>
 aUn .not t22 fun t24 =>
 zag t24
 (zax [.snil, (.bool false)] (K · H))
 (zad true 3 t4 H fun t27 =>
 ACalls tP zgU [t0, t27, t2] H fun t29 H =>
 zas t29 0 fun t30 =>
 zas t29 1 fun t31 =>
 zas t29 2 fun t32 =>
 zah 1 t30 fun t34 =>
 zjd t21 .snil t30 t34 (.int .i64 0) H K)
theorem zDG {t8 t13 t33 t34 t35 : AV} {H : zaa} {K : Kt} (Inv : Nat → AV → AV → zaa → Prop) (n : Nat) (h0 : HSc H → Inv n t13 t35 H)
  (round : Rd2 (fun t13 => fun t35 => zjc t8 t13 t33 t34 t35) (fun t13 => fun t35 => fun H Kb7 => zns t8 t13 t33 t34 t35 H K Kb7) H Inv) : zjd t8 t13 t33 t34 t35 H K :=
 lp2 (M := zjb) zDH t13 t35 (by kernel_rfl) Inv n h0 round
theorem zDI {t0 t1 t2 : AV} {H : zaa} {K : Kt} (h : HSc H → zs6 t0 t1 t2 H K) : ACalls tP zkL [t0, t1, t2] H K :=
 zam (M := zjb) Tryz.func66 (c := znt) (by kernel_rfl) (fun hs => Eq.mpr (by kernel_rfl) (h hs))
def zji : Nat → List Bool
 | 6 => rl false [11,2,15,3,16]
 | _ => []
noncomputable def zny : Code := Tryz.f69.body.getD .skip
noncomputable def zD3 : List ResultVar := Tryz.f69.results.toList
def zjk (t11 t12 t28 t29 t30 : AV) : List AV := ux 11 (t11 :: t12 :: ux 15 (t28 :: t29 :: t30 :: ux 16 []))
def zD1 : List Bool := zji 6
noncomputable def zDZ : Code := zao [1, 1, 1, 0, 1, 0, 0] zny
def zDY (K : Kt) : AExit → List AV → zaa → Prop := zap tP zji [1, 1, 1, 0, 1, 0] zny (zaw tP zD3 K)
def zjm (t11 t12 t28 t29 t30 : AV) (H : zaa) (K : Kt) : Prop := ALoop tP zDZ (zDY K) (zjk t11 t12 t28 t29 t30) H
def ztb (t11 t12 t28 t29 t30 : AV) (H : zaa) (K : Kt) (Kb6 : Lt) : Prop :=
 zac .add false t30 (.int .i64 1) fun t44 =>
 Kb6 (zjk t11 t12 t28 t29 t44) H
def zjl (t11 t12 t28 t29 t30 : AV) (H : zaa) (K : Kt) (Kb6 : Lt) : Prop :=
 ztb t11 t12 t28 t29 t30 H K Kb6
def zjj (t11 t12 t28 t29 t30 : AV) (H : zaa) (K : Kt) (Kb6 : Lt) : Prop :=
 zac .lss false t30 t29 fun t31 =>
 zag t31
 (zai 1 t28 t30 fun t33 =>
 zad false 1 t33 H fun t34 =>
 zag t34
 (zaA 1 [(.int .i64 0)] 1 [(0, t30)] fun t38 =>
 zar zaZ 1 8 t12 t38 H fun t39 H =>
 zjl t11 t39 t28 t29 t30 H K Kb6)
 (zaA 1 [(.int .i64 0)] 1 [(0, t30)] fun t42 =>
 zar zaZ 1 8 t11 t42 H fun t43 H =>
 zjl t43 t12 t28 t29 t30 H K Kb6))
 (zax [t11, t12, (.bool true)] (K · H))
def zta (t0 t1 t2 : AV) (H : zaa) (K : Kt) : Prop :=
 zaq t1 H fun t4 H =>
 zad true 3 t4 H fun t17 =>
 ACalls tP zfl [t0, t17, t2] H fun t19 H =>
 zas t19 0 fun t20 =>
 zas t19 1 fun t21 =>
 aUn .not t21 fun t23 =>
 zag t23
 (zax [.snil, .snil, (.bool false)] (K · H))
 (zaf 1 t4 fun t25 =>
 zad false 1 t25 H fun t26 =>
 ACalls tP zc8 [t0, t26, t2] H fun t28 H =>
 zah 1 t28 fun t29 =>
 zjm .snil .snil t28 t29 (.int .i64 0) H K)
theorem zD0 {t11 t12 t28 t29 t30 : AV} {H : zaa} {K : Kt} (Inv : Nat → AV → AV → AV → zaa → Prop) (n : Nat) (h0 : HSc H → Inv n t11 t12 t30 H)
  (round : Rd3 (fun t11 => fun t12 => fun t30 => zjk t11 t12 t28 t29 t30) (fun t11 => fun t12 => fun t30 => fun H Kb6 => zjj t11 t12 t28 t29 t30 H K Kb6) H Inv) : zjm t11 t12 t28 t29 t30 H K :=
 lp3 (M := zji) zD1 t11 t12 t30 (by kernel_rfl) Inv n h0 round
theorem zD2 {t0 t1 t2 : AV} {H : zaa} {K : Kt} (h : HSc H → zta t0 t1 t2 H K) : ACalls tP zgU [t0, t1, t2] H K :=
 zam (M := zji) Tryz.func69 (c := zny) (by kernel_rfl) (fun hs => Eq.mpr (by kernel_rfl) (h hs))
def zi9 : Nat → List Bool
 | 5 => rl false [0,3,4,1,8,2,25]
 | _ => []
noncomputable def znr : Code := Tryz.f65.body.getD .skip
noncomputable def zDD : List ResultVar := Tryz.f65.results.toList
def zja (t0 t1 t2 t7 t16 t17 : AV) : List AV := t0 :: t1 :: t2 :: ux 4 (t7 :: ux 8 (t16 :: t17 :: ux 25 []))
def zDB : List Bool := zi9 5
noncomputable def zDz : Code := zao [1, 1, 1, 0, 1, 0, 0] znr
def zDy (K : Kt) : AExit → List AV → zaa → Prop := zap tP zi9 [1, 1, 1, 0, 1, 0] znr (zaw tP zDD K)
def zs4 (t0 t1 t2 t7 t16 t17 : AV) (H : zaa) (K : Kt) : Prop := ALoop tP zDz (zDy K) (zja t0 t1 t2 t7 t16 t17) H
def znq (t0 t1 t2 t7 t16 t17 : AV) (H : zaa) (K : Kt) (Kb5 : Lt) : Prop :=
 zac .lss false t17 t16 fun t18 =>
 zag t18
 (zae H (fun K' => K' t0 H) fun t20 =>
 zae H (fun K' => K' t1 H) fun t21 =>
 zae H (fun K' => K' t17 H) fun t22 =>
 zae H (fun K' => zai 3 t21 t22 (K' · H)) fun t23 =>
 zae H (fun K' => zan true 3 t23 H (K' · H)) fun t24 =>
 zae H (fun K' => K' t2 H) fun t25 =>
 zae H (fun K' => K' t17 H) fun t26 =>
 zae H (fun K' => zai 2 t25 t26 (K' · H)) fun t27 =>
 zae H (fun K' => zan true 2 t27 H (K' · H)) fun t28 =>
 zbl H (fun H K' => ACalls tP zgF [t20, t24, t28] H K') fun t29 =>
 zae H (fun K' => K' t29 H) fun t9 =>
 zac .lss false t9 (.int .i64 0) fun t31 =>
 zab t31 false H (fun K' => K' t7 H) fun t33 H =>
 zab t31 false H (fun K' => K' t9 H) fun t34 H =>
 zab t31 false H (fun K' => zac .add false t33 t34 (K' · H)) fun t35 H =>
 zab t31 false H (fun K' => zac .gtr false t35 (.int .i64 6) (K' · H)) fun t36 H =>
 zaj t31 (.bool true) t36 fun t37 =>
 zag t37
 (K (.int .i64 (-1)) H)
 (zac .add false t7 t9 fun t40 =>
 zac .add false t17 (.int .i64 1) fun t41 =>
 Kb5 (zja t0 t1 t2 t40 t16 t41) H))
 (K t7 H)
def znp (t0 t1 t2 : AV) (H : zaa) (K : Kt) : Prop :=
 zah 1 t1 fun t11 =>
 zah 1 t2 fun t13 =>
 zac .neq false t11 t13 fun t14 =>
 zag t14
 (K (.int .i64 (-1)) H)
 (zah 1 t1 fun t16 =>
 zs4 t0 t1 t2 (.int .i64 0) t16 (.int .i64 0) H K)
theorem zDA {t0 t1 t2 t7 t16 t17 : AV} {H : zaa} {K : Kt} (Inv : Nat → AV → AV → zaa → Prop) (n : Nat) (h0 : HSc H → Inv n t7 t17 H)
  (round : Rd2 (fun t7 => fun t17 => zja t0 t1 t2 t7 t16 t17) (fun t7 => fun t17 => fun H Kb5 => znq t0 t1 t2 t7 t16 t17 H K Kb5) H Inv) : zs4 t0 t1 t2 t7 t16 t17 H K :=
 lp2 (M := zi9) zDB t7 t17 (by kernel_rfl) Inv n h0 round
theorem zDC {t0 t1 t2 : AV} {H : zaa} {K : Kt} (h : HSc H → znp t0 t1 t2 H K) : ACalls tP zgR [t0, t1, t2] H K :=
 zam (M := zi9) Tryz.func65 (c := znr) (by kernel_rfl) (fun hs => Eq.mpr (by kernel_rfl) (h hs))
end Go.Proofs.YtacebbdfgbfgiaaGreat

namespace Go.Proofs.YtacebbdfgbfgiaaGreat
open Go Go.Abs
set_option maxRecDepth 100000
def zjz : Nat → List Bool
 | 5 => rl false [0,2,5,1,32,3,16]
 | _ => []
noncomputable def znN : Code := Tryz.f89.body.getD .skip
noncomputable def zE1 : List ResultVar := Tryz.f89.results.toList
def zjA (t0 t1 t7 t40 t41 t42 : AV) : List AV := t0 :: t1 :: ux 5 (t7 :: ux 32 (t40 :: t41 :: t42 :: ux 16 []))
def zEZ : List Bool := zjz 5
noncomputable def zEX : Code := zao [1, 1, 1, 0, 1, 0, 0] znN
def zEW (K : Kt) : AExit → List AV → zaa → Prop := zap tP zjz [1, 1, 1, 0, 1, 0] znN (zaw tP zE1 K)
def zjB (t0 t1 t7 t40 t41 t42 : AV) (H : zaa) (K : Kt) : Prop := ALoop tP zEX (zEW K) (zjA t0 t1 t7 t40 t41 t42) H
def znM (t0 t1 t7 t40 t41 t42 : AV) (H : zaa) (K : Kt) (Kb5 : Lt) : Prop :=
 zac .lss false t42 t41 fun t43 =>
 zag t43
 (zai 3 t40 t42 fun t44 =>
 zad true 3 t44 H fun t45 =>
 zau [(.int .i64 0), (.int .i64 0), .snil] H fun t9 H =>
 zak 3 t9 t45 H fun H =>
 zae H (fun K' => K' t7 H) fun t46 =>
 zae H (fun K' => zan true 3 t9 H (K' · H)) fun t47 =>
 zae H (fun K' => K' t1 H) fun t48 =>
 zae H (fun K' => K' t0 H) fun t49 =>
 zae H (fun K' => K' t1 H) fun t50 =>
 zae H (fun K' => zai 3 t49 t50 (K' · H)) fun t51 =>
 zae H (fun K' => zaf 1 t51 (K' · H)) fun t52 =>
 zae H (fun K' => zan false 1 t52 H (K' · H)) fun t53 =>
 zbl H (fun H K' => ACalls tP zgX [t47, t48, t53] H K') fun t54 =>
 zae H (fun K' => zaA 1 [(.bool false)] 1 [(0, t54)] (K' · H)) fun t55 =>
 zar zeq 1 1 t46 t55 H fun t56 H =>
 zae H (fun K' => K' t56 H) fun t7 =>
 zac .add false t42 (.int .i64 1) fun t57 =>
 Kb5 (zjA t0 t1 t7 t40 t41 t57) H)
 (K t7 H)
def ztu (t0 t1 t2 : AV) (H : zaa) (K : Kt) : Prop :=
 zac .lss false t1 (.int .i64 0) fun t11 =>
 zab t11 false H (fun K' => K' t1 H) fun t13 H =>
 zab t11 false H (fun K' => K' t0 H) fun t14 H =>
 zab t11 false H (fun K' => zah 1 t14 (K' · H)) fun t15 H =>
 zab t11 false H (fun K' => zac .geq false t13 t15 (K' · H)) fun t16 H =>
 zaj t11 (.bool true) t16 fun t17 =>
 zab t17 false H (fun K' => K' t2 H) fun t19 H =>
 zab t17 false H (fun K' => zac .lss false t19 (.int .i64 0) (K' · H)) fun t20 H =>
 zaj t17 (.bool true) t20 fun t21 =>
 zab t21 false H (fun K' => K' t2 H) fun t23 H =>
 zab t21 false H (fun K' => K' t0 H) fun t24 H =>
 zab t21 false H (fun K' => K' t1 H) fun t25 H =>
 zab t21 false H (fun K' => zai 3 t24 t25 (K' · H)) fun t26 H =>
 zab t21 false H (fun K' => zaf 2 t26 (K' · H)) fun t27 H =>
 zab t21 false H (fun K' => zad false 1 t27 H (K' · H)) fun t28 H =>
 zab t21 false H (fun K' => zah 1 t28 (K' · H)) fun t29 H =>
 zab t21 false H (fun K' => zac .geq false t23 t29 (K' · H)) fun t30 H =>
 zaj t21 (.bool true) t30 fun t31 =>
 zag t31
 (K .snil H)
 (zai 3 t0 t1 fun t34 =>
 zaf 2 t34 fun t35 =>
 zad false 1 t35 H fun t36 =>
 zai 2 t36 t2 fun t38 =>
 zaf 1 t38 fun t39 =>
 zad false 1 t39 H fun t40 =>
 zah 1 t40 fun t41 =>
 zjB t0 t1 .snil t40 t41 (.int .i64 0) H K)
theorem zEY {t0 t1 t7 t40 t41 t42 : AV} {H : zaa} {K : Kt} (Inv : Nat → AV → AV → zaa → Prop) (n : Nat) (h0 : HSc H → Inv n t7 t42 H)
  (round : Rd2 (fun t7 => fun t42 => zjA t0 t1 t7 t40 t41 t42) (fun t7 => fun t42 => fun H Kb5 => znM t0 t1 t7 t40 t41 t42 H K Kb5) H Inv) : zjB t0 t1 t7 t40 t41 t42 H K :=
 lp2 (M := zjz) zEZ t7 t42 (by kernel_rfl) Inv n h0 round
theorem zE0 {t0 t1 t2 : AV} {H : zaa} {K : Kt} (h : HSc H → ztu t0 t1 t2 H K) : ACalls tP zc8 [t0, t1, t2] H K :=
 zam (M := zjz) Tryz.func89 (c := znN) (by kernel_rfl) (fun hs => Eq.mpr (by kernel_rfl) (h hs))
end Go.Proofs.YtacebbdfgbfgiaaGreat

namespace Go.Proofs.YtacebbdfgbfgiaaGreat
open Go Go.Abs
set_option maxRecDepth 8000
def zaY (l : List Bool) : List (List AV) := l.map fun b => [.bool b]
theorem ztv (data : List Dat) (d : Nat) (c : Nat) (hd : d < data.length) (hc : c < (data[d]).cons.length) (hl : data.length ≤ 1000000) (hcl : (data[d]).cons.length ≤ 1000000) (hal : ((data[d]).cons[c]).args.length ≤ 1000000)
  (hb : ∀ x ∈ ((data[d]).cons[c]).args, x.nodes ≤ 1000000) (H : zaa) (K : Kt)
  (hK : K (.sl (zaY (zbQ d data[d] (data[d]).cons[c])) .none) H) :
  ACalls tP zc8 [.sl (data.map Dat.cs) .none, .int .i64 d, .int .i64 c] H K := by
 refine ACalls.out (zE0 fun hs => ?_)
 have e1 : (data.map Dat.cs)[d]? = some (data[d]).cs := by simp [hd]
 have e2 : ((data[d]).cons.map Con.cs)[c]? = some ((data[d]).cons[c]).cs := by simp [hc]
 generalize hD : data[d] = D at *
 generalize hA : D.cons[c] = C at *
 have h1 : ¬ (d : Int) < 0 := by omega
 have h2 : ¬ (data.length : Int) ≤ d := by omega
 have h3 : ¬ (c : Int) < 0 := by omega
 have h4 : ¬ (D.cons.length : Int) ≤ c := by omega
 simp [ztu, h1, h2, h3, h4, e1, e2, Dat.cs, Con.cs, hd, hD, hc, hA]
 unfold zjB
 refine ALoop.own 7 zeq 1 rfl ?_
 show zjB (.sl (data.map Dat.cs) .none) (.int .i64 d) (.sl [] (.own H.length)) (.sl (VT.css C.args) .none) (.int .i64 C.args.length) (.int .i64 0) (H ++ [.perm zeq 1 0]) (Out H.length K)
 have hperm : ∀ n, HSc (H ++ [.perm zeq 1 n]) := fun n => hs.append rfl
 refine zEY (Inv := fun q t7 t42 H' => ∃ i : Nat, i ≤ C.args.length ∧ q = C.args.length - i ∧ t42 = .int .i64 i ∧ t7 = .sl (zaY ((zbQ d D C).take i)) (.own H.length) ∧ H' = H ++ [.perm zeq 1 i]) C.args.length ?_ ?_
 ·intro _; exact ⟨0, by omega, by omega, rfl, rfl, rfl⟩
 ·rintro q t7 t42 H' ⟨i, hi, rfl, rfl, rfl, rfl⟩ hsc hlen hsF Kb hKb
  have hrl : (zbQ d D C).length = C.args.length := by simp [zbQ]
  by_cases hlt : i < C.args.length
  ·obtain ⟨x, y, z, hvx, hx, hy, hz⟩ := zbj C.args[i]
   have hnb := hb _ (List.getElem_mem hlt)
   simp [znM, hlt, hvx, Nat.add_assoc, e1, hd, hD, Dat.cs]
   rw [← hvx]
   refine ⟨⟨hx, hy, hz⟩, ?_⟩
   refine zbE (.bool (zbu d D.vars C.args[i])) (fun J => zod _ _ _ hnb _ _ ⟨rfl, rfl⟩) ?_
   simp [zaA, zbt, zaB, AV.pd, zar, zaW, zaI, zaY]
   have hmin : min i (zbQ d D C).length = i := by omega
   rw [hmin]
   refine ⟨rfl, ⟨by omega, by omega⟩, ?_⟩
   rw [zal (by omega) (by omega)]
   have hst : List.take i (List.map (fun b => [AV.bool b]) (zbQ d D C)) ++ [[AV.bool (zbu (↑d) D.vars C.args[i])]] = zaY ((zbQ d D C).take (i + 1)) := by
    rw [List.take_succ_eq_append_getElem (by omega)]
    simp [zaY, zbQ]
   rw [hst]
   refine hKb _ _ ⟨C.args.length - (i + 1), by omega, Back.at (J := [.cells C.args[i].cs]) (H2 := H ++ [.perm zeq 1 (i + 1)]) (by simp) (by simp) (hperm _) ?_ ⟨_, _, rfl, i + 1, by omega, rfl, by simp, rfl, rfl⟩⟩
   simp [zjA, AV.sc, AV.scV, AV.scA, AV.scB]
  ·obtain rfl : i = C.args.length := by omega
   rw [List.take_of_length_le (by omega)]
   simp [znM]
   exact Out.at rfl (Nat.le_refl _) hs (.atom (.sl _ _)) rfl (by simp [zaY, AV.scV, AV.scA, AV.scB]) hK
end Go.Proofs.YtacebbdfgbfgiaaGreat
