import Derived.Test.YtacebbdfgbfgiaaGreatKGH
import Derived.Test.YtacebbdfgbfgiaaGreatKY16
import Derived.Test.YtacebbdfgbfgiaaGreatIT
import Derived.Test.YtacebbdfgbfgiaaGreatKNum
import Derived.Test.YtacebbdfgbfgiaaGreatProg
import Derived.KernelRfl
set_option linter.unusedSimpArgs false
set_option linter.unusedVariables false
namespace Go.Proofs.YtacebbdfgbfgiaaGreat
open Go Go.Abs
set_option maxRecDepth 8000
def zmS (c : Con) : Prop := c.name.length ≤ 40 ∧ c.args.length ≤ 8 ∧ ∀ t ∈ c.args, t.nodes ≤ 20
def ziU (d : Dat) : Prop := d.name.length ≤ 40 ∧ d.cons.length ≤ 10 ∧ ∀ c ∈ d.cons, zmS c
def za8 (ds : List Dat) : Prop := ds.length ≤ 14 ∧ ∀ d ∈ ds, ziU d
theorem ze2 {α : Type} {l : List α} {i : Nat} (h : i < l.length) {p : α → Prop} (h1 : ∀ x ∈ l.take i, p x) (h2 : p l[i]) : ∀ x ∈ l.take (i + 1), p x := by
 rw [List.take_succ_eq_append_getElem h]
 intro x hx
 rcases List.mem_append.1 hx with hx | hx
 ·exact h1 x hx
 ·simp at hx; subst hx; exact h2
theorem zn3 {α : Type} {cs : α → List AV} {l : List α} {i : Nat} (h : i < l.length) : (l.map cs)[i]?.getD [] = cs l[i] := by simp [h]
theorem vt3 (v : VT) : ∃ a b c, v.cs = [a, b, c] ∧ a.known = true ∧ b.known = true ∧ c.known = true := by
 obtain ⟨k, n, ks⟩ := v; exact ⟨_, _, _, rfl, rfl, rfl, rfl⟩
theorem zxY (ds : List Dat) (H : zaa) (K : AV → zaa → Prop) (hlen : ds.length ≤ 9223372036854775807) (hK : ∀ b, (b = true → za8 ds) → K (.bool b) H) : ACalls tP zjI [.sl (ds.map Dat.cs) .none] H K := by
 refine ACalls.out (zxW fun hs => ?_)
 have hF : ∀ J, Out H.length K (.bool false) (H ++ J) := fun J => Out.bool rfl (Nat.le_refl _) hs (hK false fun h => by cases h)
 have hF0 : Out H.length K (.bool false) H := by simpa using hF []
 by_cases h14 : ds.length > 14
 ·have : (14 : Int) < ds.length := by omega
  simp [zk6, this]
  exact hF0
 have : ¬ (14 : Int) < ds.length := by omega
 simp [zk6, this]
 refine zxT (Inv := fun q t15 H' => ∃ i : Nat, i ≤ ds.length ∧ q = ds.length - i ∧ t15 = .int .i64 i ∧ (∀ d ∈ ds.take i, ziU d) ∧ H = H') ds.length ?_ ?_
 ·intro _; exact ⟨0, by omega, by omega, rfl, by simp, rfl⟩
 ·rintro q t15 H' ⟨i, hi, rfl, rfl, ha, rfl⟩ hsc hl hsF Kb4 hKb4
  by_cases hil : i < ds.length
  ·have hat : (ds.map Dat.cs)[i]?.getD [] = [.str ds[i].name, .int .i64 ds[i].vars, .sl (ds[i].cons.map Con.cs) .none] := zn3 hil
   have next : ziU ds[i] → ∀ J, Kb4 (zfv (.sl (ds.map Dat.cs) .none) (.int .i64 ds.length) (.int .i64 (i + 1))) (H ++ J) := by
    intro hd J
    refine hKb4 _ _ ⟨ds.length - (i + 1), by omega, Back.same (Nat.le_refl _) hs ?_ ⟨_, rfl, i + 1, by omega, rfl, by simp, ze2 hil ha hd, rfl⟩⟩
    simp [zfv, AV.sc, AV.scV, AV.scA, AV.scB]
   generalize hdd : ds[i] = d at *
   simp [zk8, hil, hat, AV.known, hdd, Dat.cs]
   by_cases hn : d.name.length > 40
   ·have : (40 : Int) < d.name.length := by omega
    simp [this]
    exact hF _
   have hn' : ¬ (40 : Int) < d.name.length := by omega
   by_cases hc : d.cons.length > 10
   ·have : (10 : Int) < d.cons.length := by omega
    simp [hn', this]
    exact hF _
   have hc' : ¬ (10 : Int) < d.cons.length := by omega
   simp [hn', hc']
   refine zxU (Inv := fun q t32 H' => ∃ j : Nat, j ≤ d.cons.length ∧ q = d.cons.length - j ∧ t32 = .int .i64 j ∧ (∀ c ∈ d.cons.take j, zmS c) ∧ H' = H ++ [.cells [.str d.name, .int .i64 d.vars, .sl (d.cons.map Con.cs) .none]]) d.cons.length ?_ ?_
   ·intro _; exact ⟨0, by omega, by omega, rfl, by simp, rfl⟩
   ·rintro q t32 H' ⟨j, hj, rfl, rfl, hb, rfl⟩ hsc9 hl9 hsF9 Kb9 hKb9
    by_cases hjl : j < d.cons.length
    ·have hat : (d.cons.map Con.cs)[j]?.getD [] = [.str d.cons[j].name, .sl (VT.css d.cons[j].args) .none] := zn3 hjl
     generalize hcc : d.cons[j] = c at *
     simp [zk9, hjl, hat, AV.known, hcc, Con.cs]
     by_cases hn : c.name.length > 40
     ·have : (40 : Int) < c.name.length := by omega
      simp [this]
      exact hF _
     have hn' : ¬ (40 : Int) < c.name.length := by omega
     by_cases hc : c.args.length > 8
     ·have : (8 : Int) < c.args.length := by omega
      simp [hn', this]
      exact hF _
     have hc' : ¬ (8 : Int) < c.args.length := by omega
     simp [hn', hc']
     refine zxS (Inv := fun q t49 H' => ∃ (k : Nat) (l : Int), k ≤ c.args.length ∧ q = c.args.length - k ∧ t49 = .int .i64 k ∧ -1 ≤ l ∧ l ≤ 20 ∧ (∀ t ∈ c.args.take k, t.nodes ≤ 20) ∧ H' = H ++ [.cells [.str d.name, .int .i64 d.vars, .sl (d.cons.map Con.cs) .none], .cells [.str c.name, .sl (VT.css c.args) .none], .cells [.int .i64 l]]) c.args.length ?_ ?_
     ·intro _; exact ⟨0, 20, by omega, by omega, rfl, by omega, by omega, by simp, rfl⟩
     ·rintro q t49 H' ⟨k, l, hk, rfl, rfl, hl0, hl1, hb15, rfl⟩ hsc15 hl15 hsF15 Kb15 hKb15
      by_cases hkl : k < c.args.length
      ·obtain ⟨x, y, z, hv, hx, hy, hz⟩ := vt3 c.args[k]
       simp [zk7, hkl, hv, hx, hy, hz]
       rw [← hv]
       refine zqR _ _ (Nat.le_refl _) l (by omega) hl0 _ (H.length + 2) (by simp) _ ?_ ?_
       ·intro hle
        simp
        rw [zan (by omega) (by omega)]
        refine hKb15 _ _ ⟨c.args.length - (k + 1), by omega, Back.at (J := [_]) (H2 := H ++ [.cells [.str d.name, .int .i64 d.vars, .sl (d.cons.map Con.cs) .none], .cells [.str c.name, .sl (VT.css c.args) .none], .cells [.int .i64 (l - c.args[k].nodes)]]) (by simp; rfl) (by simp) (hs.append rfl) ?_ ⟨_, rfl, k + 1, l - c.args[k].nodes, by omega, rfl, by simp, by omega, by omega, ze2 hkl hb15 (by omega), rfl⟩⟩
        simp [zhn, AV.sc, AV.scV, AV.scA, AV.scB]
       ·intro hle l'
        simp
        exact hF _
      ·obtain rfl : k = c.args.length := by omega
       rw [List.take_length] at hb15
       simp [zk7]
       rw [zan (by omega) (by omega)]
       refine hKb9 _ _ ⟨d.cons.length - (j + 1), by omega, Back.at (J := [_, _]) (H2 := H ++ [.cells [.str d.name, .int .i64 d.vars, .sl (d.cons.map Con.cs) .none]]) (by simp; exact ⟨rfl, rfl⟩) (by simp) (hs.append rfl) ?_ ⟨_, rfl, j + 1, by omega, rfl, by simp, ze2 hjl hb (by rw [hcc]; exact ⟨by omega, by omega, hb15⟩), rfl⟩⟩
       simp [zho, AV.sc, AV.scV, AV.scA, AV.scB]
    ·obtain rfl : j = d.cons.length := by omega
     rw [List.take_length] at hb
     simp [zk9]
     rw [zan (by omega) (by omega)]
     exact next ⟨by omega, by omega, hb⟩ _
  ·obtain rfl : i = ds.length := by omega
   rw [List.take_length] at ha
   simp [zk8]
   exact Out.bool (J := []) (by simp) (Nat.le_refl _) hs (hK true fun _ => ⟨by omega, ha⟩)
def zcW (data : List Dat) (d : Nat) (vars : Int) (t : VT) : Bool := zbs d vars t || za6 (data.take d) vars t
structure RCon (data : List Dat) (d : Nat) (vars : Int) (c : Con) : Prop where
 up : zb5 c.name = true
 len : c.args.length ≤ 6
 args : ∀ x ∈ c.args, zcW data d vars x = true
structure RDat (data : List Dat) (d : Nat) (D : Dat) : Prop where
 v0 : 0 ≤ D.vars
 v6 : D.vars ≤ 6
 c1 : 1 ≤ D.cons.length
 c8 : D.cons.length ≤ 8
 up : zb5 D.name = true
 cons : ∀ c ∈ D.cons, RCon data d D.vars c
structure RData (data : List Dat) : Prop where
 len : data.length ≤ 12
 dats : ∀ d (h : d < data.length), RDat data d data[d]
 names : (zaX data).Nodup
 cons : (zaz data).Nodup
theorem zkt {α : Type} {l : List α} {i : Nat} (h : i < l.length) : l.take (i + 1) = l.take i ++ [l[i]] := by rw [List.take_append_getElem h]
theorem znp : ∀ l : List Dat, (∀ D ∈ l, D.cons.length ≤ 10) → (zaz l).length ≤ l.length * 10
 | [], _ => by simp [zaz]
 | D :: l, h => by
  have h1 := znp l (fun D hD => h D (by simp [hD]))
  have h2 := h D (by simp)
  rw [zaz] at h1 ⊢
  rw [List.flatMap_cons, List.length_append, List.length_map, List.length_cons]; omega
theorem ztd {data : List Dat} {d : Nat} (h : d < data.length) : zaX (data.take (d + 1)) = zaX (data.take d) ++ [(data[d]).name] := by
 rw [zaX, zkt h, List.map_append]; rfl
theorem zs2 {data : List Dat} {d : Nat} (h : d < data.length) : zaz (data.take (d + 1)) = zaz (data.take d) ++ (data[d]).cons.map Con.name := by
 rw [zaz, zkt h, List.flatMap_append]; simp [zaz]
theorem zo3 (l : List (List UInt8)) (s : List UInt8) : strs (l ++ [s]) = strs l ++ [[.str s]] := by simp [strs]
theorem zni {s : List UInt8} {k : AV → Prop} : zaw 1 [.str []] 1 [(0, .str s)] k = k (.sl [[.str s]] .full) := propext Iff.rfl
theorem zoJ (l : List (List UInt8)) (hl : l.length ≤ 1000000) {tok : Tok} (H : zaa) (K : AV → zaa → Prop) (hK : K (.bool (zbA l)) H) : ACalls tP zfg [.sl (strs l) tok] H K :=
 ACalls.wk (zBP l hl H K hK) ⟨.atom (.sl _ _), trivial⟩
theorem zs5 {D : Dat} {i : Nat} (h : i < D.cons.length) : (D.cons.map Con.cs)[i]?.getD [] = [.str (D.cons[i]).name, .sl (VT.css (D.cons[i]).args) .none] := by simp [h, Con.cs]
theorem zAH (data : List Dat) (hkd : za8 data) (H : zaa) (K : AV → zaa → Prop) (hK : ∀ b, (b = true ↔ RData data) → K (.bool b) H) : ACalls tP zjT [.sl (data.map Dat.cs) .none] H K := by
 refine ACalls.out (zAF fun hs => ?_)
 obtain ⟨kl, kd⟩ := hkd
 have hF : ¬ RData data → ∀ J, Out H.length K (.bool false) (H ++ J) := fun h J => Out.bool rfl (Nat.le_refl _) hs (hK _ (by simp [h]))
 have hT : ∀ b : Bool, (b = true ↔ RData data) → ∀ J, Out H.length K (.bool b) (H ++ J) := fun b h J => Out.bool rfl (Nat.le_refl _) hs (hK _ h)
 by_cases h12 : data.length > 12
 ·have h12' : (12 : Int) < data.length := by omega
  simp [zlX, h12']
  have := hF (fun h => by have := h.len; omega) []
  simpa using this
 have h12' : ¬ (12 : Int) < data.length := by omega
 simp [zlX, h12']
 unfold zif
 refine ALoop.own 3 zbo 1 rfl ?_
 refine ALoop.own 4 zbo 1 rfl ?_
 rw [List.append_assoc]
 have hcn : ∀ d, (zaz (data.take d)).length ≤ 140 := fun d => by
  have := znp (data.take d) (fun D hD => (kd D (List.mem_of_mem_take hD)).2.1)
  rw [List.length_take] at this
  have : min d data.length * 10 ≤ 14 * 10 := Nat.mul_le_mul_right _ (by omega)
  omega
 have hl1 : (H ++ [AB.perm zbo 1 0]).length = H.length + 1 := by simp
 rw [hl1]
 show zif (.sl (data.map Dat.cs) .none) (.sl [] (.own H.length)) (.sl [] (.own (H.length + 1))) (.int .i64 0) (H ++ [.perm zbo 1 0, .perm zbo 1 0]) (Out H.length K)
 have hsP : ∀ m n, HSc (H ++ [.perm zbo 1 m, .perm zbo 1 n]) := fun m n => hs.append rfl
 refine zAD (Inv := fun q t3 t4 t5 H' => ∃ d : Nat, d ≤ data.length ∧ q = data.length - d ∧ t5 = .int .i64 d ∧ t3 = .sl (strs (zaX (data.take d))) (.own H.length) ∧ t4 = .sl (strs (zaz (data.take d))) (.own (H.length + 1)) ∧ (∀ j (h : j < data.length), j < d → RDat data j data[j]) ∧ H' = H ++ [.perm zbo 1 d, .perm zbo 1 (zaz (data.take d)).length]) data.length ?_ ?_
 ·intro _; exact ⟨0, by omega, by omega, rfl, by simp [zaX, strs], by simp [zaz, strs], by omega, by simp [zaz]⟩
 ·rintro q t3 t4 t5 H' ⟨d, hd, rfl, rfl, rfl, rfl, hok, rfl⟩ hsc hlen hsF Kb hKb
  by_cases hlt : d < data.length
  ·have hbad : ¬ RDat data d data[d] → ∀ J, Out H.length K (.bool false) (H ++ J) := fun h => hF fun hh => h (hh.dats d hlt)
   have hcd := hcn d
   have hds := ztd hlt
   have hcs := zs2 hlt
   obtain ⟨kn, kc, kcc⟩ := kd _ (List.getElem_mem hlt)
   have hdl : (zaX (data.take d)).length = d := by simp [zaX]; omega
   generalize hD : data[d] = D at *
   have hge : (data.map Dat.cs)[d]?.getD [] = [.str D.name, .int .i64 D.vars, .sl (D.cons.map Con.cs) .none] := by simp [hlt, hD, Dat.cs]
   by_cases hv0 : D.vars < 0
   ·simp [zdZ, hlt, hD, Dat.cs, hv0]
    exact hbad (fun h => by have := h.v0; omega) _
   by_cases hv6 : 6 < D.vars
   ·simp [zdZ, hlt, hD, Dat.cs, hv0, hv6]
    exact hbad (fun h => by have := h.v6; omega) _
   by_cases hc1 : D.cons.length < 1
   ·have hc1' : (D.cons.length : Int) < 1 := by omega
    simp [zdZ, hlt, hD, Dat.cs, hv0, hv6, hc1']
    exact hbad (fun h => by have := h.c1; omega) _
   have hc1' : ¬ (D.cons.length : Int) < 1 := by omega
   by_cases hc8 : 8 < D.cons.length
   ·have hc8' : (8 : Int) < D.cons.length := by omega
    simp [zdZ, hlt, hD, Dat.cs, hv0, hv6, hc1', hc8']
    exact hbad (fun h => by have := h.c8; omega) _
   have hc8' : ¬ (8 : Int) < D.cons.length := by omega
   simp [zdZ, hlt, hD, Dat.cs, hv0, hv6, hc1', hc8']
   refine zru _ _ _ ?_
   cases hup : zb5 D.name with
   | false => simp; exact hbad (fun h => by have := h.up; rw [hup] at this; cases this) _
   | true =>
   simp [zni]
   simp [zar, zaW, zaF, hdl]
   refine ⟨by omega, ?_⟩
   rw [← zo3, ← hds]
   refine zAB (Inv := fun q t4 t7 H' => ∃ k : Nat, k ≤ D.cons.length ∧ q = D.cons.length - k ∧ t7 = .int .i64 k ∧ t4 = .sl (strs (zaz (data.take d) ++ (D.cons.map Con.name).take k)) (.own (H.length + 1)) ∧ (∀ c ∈ D.cons.take k, RCon data d D.vars c) ∧ H' = H ++ [.perm zbo 1 (d + 1), .perm zbo 1 ((zaz (data.take d)).length + k), .cells [.str D.name, .int .i64 D.vars, .sl (D.cons.map Con.cs) .none]]) D.cons.length ?_ ?_
   ·intro _; exact ⟨0, by omega, by omega, rfl, by simp, by simp, by simp⟩
   ·rintro q t4 t7 H' ⟨k, hk, rfl, rfl, rfl, hck, rfl⟩ hsc1 hlen1 hsF1 Kb1 hKb1
    have hlk : (zaz (data.take d) ++ (D.cons.map Con.name).take k).length = (zaz (data.take d)).length + k := by simp; omega
    by_cases hkl : k < D.cons.length
    ·have hkI : (k : Int) < D.cons.length := by omega
     have hca := zs5 hkl
     have hcbad : ¬ RCon data d D.vars D.cons[k] → ∀ J, Out H.length K (.bool false) (H ++ J) := fun h => hbad fun hh => h (hh.cons _ (List.getElem_mem hkl))
     have hns : zaz (data.take d) ++ (D.cons.map Con.name).take (k + 1) = (zaz (data.take d) ++ (D.cons.map Con.name).take k) ++ [(D.cons[k]).name] := by rw [zkt (by simpa using hkl)]; simp
     obtain ⟨_, ka, kan⟩ := kcc _ (List.getElem_mem hkl)
     generalize hC : D.cons[k] = C at *
     simp [zlY, hkl, hC, Con.cs]
     refine zru _ _ _ ?_
     cases hupc : zb5 C.name with
     | false => simp; exact hcbad (fun h => by have := h.up; rw [hupc] at this; cases this) _
     | true =>
     by_cases ha6 : 6 < C.args.length
     ·have ha6' : (6 : Int) < C.args.length := by omega
      simp [hkl, hC, Con.cs, ha6']
      exact hcbad (fun h => by have := h.len; omega) _
     have ha6' : ¬ (6 : Int) < C.args.length := by omega
     simp [hkl, hC, Con.cs, ha6', zni]
     generalize hA : zaz (data.take d) ++ (D.cons.map Con.name).take k = A at *
     have hAl : A.length = (zaz (data.take d)).length + k := hlk
     simp [zar, zaW, zaF, hAl, hkl, hC, Con.cs]
     refine ⟨by omega, ?_⟩
     rw [← zo3, ← hns]
     refine zAC (Inv := fun q t95 H' => ∃ i : Nat, i ≤ C.args.length ∧ q = C.args.length - i ∧ t95 = .int .i64 i ∧ (∀ x ∈ C.args.take i, zcW data d D.vars x = true) ∧ H' = H ++ [.perm zbo 1 (d + 1), .perm zbo 1 ((zaz (data.take d)).length + k + 1), .cells [.str D.name, .int .i64 D.vars, .sl (D.cons.map Con.cs) .none]]) C.args.length ?_ ?_
     ·intro _; exact ⟨0, by omega, by omega, rfl, by simp, rfl⟩
     ·rintro q t95 H' ⟨i, hi, rfl, rfl, hok3, rfl⟩ hsc2 hlen2 hsF2 Kb2 hKb2
      by_cases hil : i < C.args.length
      ·have hxn := kan _ (List.getElem_mem hil)
       have habad : zcW data d D.vars C.args[i] = false → ∀ J, Out H.length K (.bool false) (H ++ J) := fun h => hcbad fun hh => by
        have := hh.args _ (List.getElem_mem hil)
        rw [h] at this; cases this
       obtain ⟨x, y, z, hvx, hx, hy, hz⟩ := vt3 C.args[i]
       have good : zcW data d D.vars C.args[i] = true → zie (.sl (data.map Dat.cs) .none) (.sl (strs (zaX (data.take (d + 1)))) (.own H.length)) (.sl (strs (zaz (data.take d) ++ (D.cons.map Con.name).take (k + 1))) (.own (H.length + 1))) (.int .i64 d) (.ptr (H.length + 2) 0) (.int .i64 k) (.sl (VT.css C.args) .none) (.int .i64 C.args.length) (.int .i64 i) (H ++ [.perm zbo 1 (d + 1), .perm zbo 1 ((zaz (data.take d)).length + k + 1), .cells [.str D.name, .int .i64 D.vars, .sl (D.cons.map Con.cs) .none], .cells [x, y, z]]) (Out H.length K) Kb Kb1 Kb2 := fun hg => by
        simp [zie, zra]
        rw [zan (by omega) (by omega)]
        refine hKb2 _ _ ⟨C.args.length - (i + 1), by omega, Back.at (J := [_]) (H2 := H ++ [.perm zbo 1 (d + 1), .perm zbo 1 ((zaz (data.take d)).length + k + 1), .cells [.str D.name, .int .i64 D.vars, .sl (D.cons.map Con.cs) .none]]) (by simp; rfl) (by simp) hsc2 ?_ ⟨_, rfl, i + 1, by omega, rfl, by simp, ze2 hil hok3 hg, rfl⟩⟩
        simp [zic, AV.sc, AV.scV, AV.scA, AV.scB]
       simp [zlZ, hil, hvx, hx, hy, hz]
       rw [← hvx]
       refine zmR _ _ _ (by omega) _ _ ?_
       cases hself : zbs d D.vars C.args[i] with
       | true =>
        rw [hvx]
        simp
        exact good (by simp [zcW, hself])
       | false =>
        simp [hvx]
        refine ⟨⟨by omega, fun a _ => rfl⟩, ?_⟩
        rw [← List.map_take, ← hvx]
        refine zbL (.bool (za6 (data.take d) D.vars C.args[i])) (fun J => zrg (data.take d) (by simp; omega) _ _ (by omega) _ _ ⟨rfl, rfl⟩) ?_
        cases hty : za6 (data.take d) D.vars C.args[i] with
        | false => simp; exact habad (by simp [zcW, hself, hty]) _
        | true =>
         rw [hvx]
         simp
         exact good (by simp [zcW, hty])
      ·obtain rfl : i = C.args.length := by omega
       rw [List.take_length] at *
       simp [zlZ]
       rw [zan (by omega) (by omega)]
       refine hKb1 _ _ ⟨D.cons.length - (k + 1), by omega, Back.here (by simp) hsc2 ?_ ⟨_, _, rfl, k + 1, by omega, rfl, by simp, rfl, ?_, by simp [Nat.add_assoc]⟩⟩
       ·simp [zib, AV.sc, AV.scV, AV.scA, AV.scB]
       ·exact ze2 hkl hck (by rw [hC]; exact ⟨hupc, by omega, hok3⟩)
    ·obtain rfl : k = D.cons.length := by omega
     rw [List.take_length] at *
     simp [zlY]
     rw [zan (by omega) (by omega)]
     refine hKb _ _ ⟨data.length - (d + 1), by omega, Back.at (J := [_]) (H2 := H ++ [.perm zbo 1 (d + 1), .perm zbo 1 (zaz (data.take (d + 1))).length]) (by rw [hcs]; simp; rfl) (by simp) (hsP _ _) ?_ ⟨_, _, _, rfl, d + 1, by omega, rfl, by simp, rfl, by rw [hcs]; exact congrArg (fun l => AV.sl (strs (zaz (data.take d) ++ l)) (.own (H.length + 1))) (List.take_of_length_le (Nat.le_of_eq (List.length_map _))), fun j hj hji => ?_, rfl⟩⟩
     ·simp [zid, AV.sc, AV.scV, AV.scA, AV.scB]
     ·by_cases hjd : j = d
      ·subst hjd; rw [hD]; exact ⟨by omega, by omega, by omega, by omega, hup, hck⟩
      ·exact hok j hj (by omega)
  ·obtain rfl : d = data.length := by omega
   rw [List.take_length] at *
   have hdn : (zaX data).length = data.length := by simp [zaX]
   have hcn' := hcn data.length
   rw [List.take_length] at hcn'
   simp [zdZ]
   refine zoJ _ (by omega) _ _ ?_
   cases hr : zbA (zaX data) with
   | true =>
    simp
    refine hT _ ?_ _
    simp
    intro h
    have := zkg h.names
    rw [hr] at this; cases this
   | false =>
    simp
    refine zoJ _ (by omega) _ _ ?_
    refine hT _ ?_ _
    simp only [zbA, Bool.not_eq_false', decide_eq_true_eq, Bool.not_not] at hr ⊢
    exact ⟨fun h => ⟨by omega, fun j hj => hok j hj hj, hr, h⟩, fun h => h.cons⟩
mutual
theorem zum : ∀ v w : VT, v.same w = true ↔ v = w
 | .mk k n ks, .mk k' n' ks' => by
  have h := zoO ks ks'
  simp only [VT.same, Bool.and_eq_true, beq_iff_eq, VT.mk.injEq, h, and_assoc]
theorem zoO : ∀ v w : List VT, VT.sameL v w = true ↔ v = w
 | v :: vs, w :: ws => by
  have h1 := zum v w
  have h2 := zoO vs ws
  simp only [VT.sameL, Bool.and_eq_true, List.cons.injEq, h1, h2]
 | [], [] => by simp [VT.sameL]
 | [], _ :: _ => by simp [VT.sameL]
 | _ :: _, [] => by simp [VT.sameL]
end
theorem zgG {α : Type} (l : List α) (d n : Nat) : (l.take d)[n]? = if n < d then l[n]? else none := by
 by_cases h : n < d
 ·rw [if_pos h, List.getElem?_take_of_lt h]
 ·rw [if_neg h, List.getElem?_eq_none (by rw [List.length_take]; omega)]
theorem zut {data : List Dat} {d : Nat} {vars k n : Int} {len : Nat} (h : (k == 5 && n == (d : Int)) = false) : zaO (data.take (d + 1)) vars k n len = zaO (data.take d) vars k n len := by
 unfold zaO
 by_cases h5 : k = 5
 ·subst h5
  have hn : n ≠ d := by simpa using h
  simp only [zgG]
  by_cases h0 : 0 ≤ n
  ·have : (n.toNat < d + 1) = (n.toNat < d) := by
    apply propext; omega
   simp [this]
  ·simp [h0]
 ·have : (k == 5) = false := by simpa using h5
  simp [this]
mutual
theorem zpk (data : List Dat) (d : Nat) (vars : Int) : ∀ t : VT, zbF d t = false → zaH (data.take (d + 1)) vars t = zaH (data.take d) vars t
 | .mk k n ks => by
  intro h
  simp only [zbF, Bool.or_eq_false_iff] at h
  rw [zaH, zaH, zut h.1, zpi data d vars ks h.2]
theorem zpi (data : List Dat) (d : Nat) (vars : Int) : ∀ l : List VT, zdk d l = false → zaL (data.take (d + 1)) vars l = zaL (data.take d) vars l
 | [] => fun _ => rfl
 | t :: ts => by
  intro h
  simp only [zdk, Bool.or_eq_false_iff] at h
  rw [zaL, zaL, zpk data d vars t h.1, zpi data d vars ts h.2]
end
mutual
theorem zn8 (data : List Dat) (d : Nat) (vars : Int) : ∀ t : VT, zaH (data.take d) vars t = true → zbF d t = false
 | .mk k n ks => by
  intro h
  rw [zaH, Bool.and_eq_true] at h
  rw [zbF, zn7 data d vars ks h.2, Bool.or_false]
  by_cases h5 : k = 5
  ·subst h5
   have h1 := h.1
   simp [zaO, zgG] at h1
   obtain ⟨h0, h2⟩ := h1
   by_cases hn : n = d
   ·subst hn
    simp at h2
   ·simpa using hn
  ·have : (k == 5) = false := by simpa using h5
   simp [this]
theorem zn7 (data : List Dat) (d : Nat) (vars : Int) : ∀ l : List VT, zaL (data.take d) vars l = true → zdk d l = false
 | [] => fun _ => rfl
 | t :: ts => by
  intro h
  rw [zaL, Bool.and_eq_true] at h
  rw [zdk, zn8 data d vars t h.1, zn7 data d vars ts h.2]; rfl
end
theorem zoQ (data : List Dat) (vars : Int) : ∀ (l : List VT) (i : Nat), zb9 l i = true → ((i + l.length : Nat) : Int) ≤ vars → zaL data vars l = true ∧ VT.nodesL l = l.length
 | [], i, _, _ => ⟨rfl, rfl⟩
 | .mk k n ks :: l, i, h, hv => by
  rw [zb9, Bool.and_eq_true] at h
  obtain ⟨h1, h2⟩ := h
  simp only [zfV, Bool.and_eq_true, beq_iff_eq] at h1
  obtain ⟨⟨rfl, rfl⟩, h3⟩ := h1
  have hk : ks = [] := List.eq_nil_of_length_eq_zero h3
  subst hk
  obtain ⟨h4, h5⟩ := zoQ data vars l (i + 1) h2 (by simp at hv ⊢; omega)
  simp at hv
  constructor
  ·simp [zaL, zaH, zaO, h4]
   omega
  ·simp [VT.nodesL, VT.nodes, h5]; omega
theorem znb (data : List Dat) (d : Nat) (hd : d < data.length) (h0 : 0 ≤ (data[d]).vars) (h6 : (data[d]).vars ≤ 6) (t : VT) : zcC data d (data[d]).vars t = zcW data d (data[d]).vars t := by
 unfold zcC zcW
 cases hs : zbs d (data[d]).vars t with
 | true =>
  obtain ⟨k, n, ks⟩ := t
  simp only [zbs, Bool.and_eq_true, beq_iff_eq] at hs
  obtain ⟨⟨⟨rfl, rfl⟩, hl⟩, hs⟩ := hs
  obtain ⟨h1, h2⟩ := zoQ (data.take (d + 1)) (data[d]).vars ks 0 hs (by simp; omega)
  have hty : za6 (data.take (d + 1)) (data[d]).vars (.mk 5 d ks) = true := by
   simp [za6, zaH, h1, VT.nodes, h2, zaO, zgG, hd, hl]
   omega
  simp [hty]
 | false =>
  simp only [Bool.false_or]
  unfold za6
  cases hm : zbF d t with
  | false => rw [zpk data d _ t hm]; simp
  | true =>
   have : zaH (data.take d) (data[d]).vars t = false := by
    cases h : zaH (data.take d) (data[d]).vars t with
    | false => rfl
    | true => rw [zn8 data d _ t h] at hm; cases hm
   simp [this]
theorem zje (data : List Dat) : ∀ (l : List Dat) (d : Nat), zbY data l d = true ↔ ∀ j (h : j < l.length), zbR data (d + j) l[j] = true
 | [], d => by simp [zbY]
 | D :: l, d => by
  rw [zbY, Bool.and_eq_true, zje data l (d + 1)]
  constructor
  ·rintro ⟨h1, h2⟩ j hj
   cases j with
   | zero => exact h1
   | succ j =>
    have := h2 j (by simpa using hj)
    rw [show d + (j + 1) = d + 1 + j by omega]
    simpa using this
  ·intro h
   refine ⟨h 0 (by simp), fun j hj => ?_⟩
   have := h (j + 1) (by simpa using hj)
   rw [show d + (j + 1) = d + 1 + j by omega] at this
   simpa using this
theorem ztb (data : List Dat) : zba data = true ↔ RData data := by
 unfold zba
 simp only [Bool.and_eq_true, decide_eq_true_eq, zje, zbA, Bool.not_not, Nat.zero_add]
 constructor
 ·rintro ⟨⟨⟨h1, h2⟩, h3⟩, h4⟩
  refine ⟨h1, fun d hd => ?_, h3, h4⟩
  have := h2 d hd
  simp only [zbR, Bool.and_eq_true, decide_eq_true_eq, List.all_eq_true] at this
  obtain ⟨⟨⟨⟨⟨q1, q2⟩, q3⟩, q4⟩, q5⟩, q6⟩ := this
  refine ⟨q2, q3, q4, q5, q1, fun c hc => ?_⟩
  have := q6 c hc
  simp only [zcm, Bool.and_eq_true, decide_eq_true_eq, List.all_eq_true] at this
  exact ⟨this.1, this.2.1, fun x hx => by rw [← znb data d hd q2 q3 x]; exact this.2.2 x hx⟩
 ·rintro ⟨h1, h2, h3, h4⟩
  refine ⟨⟨⟨h1, fun d hd => ?_⟩, h3⟩, h4⟩
  obtain ⟨q2, q3, q4, q5, q1, q6⟩ := h2 d hd
  simp only [zbR, Bool.and_eq_true, decide_eq_true_eq, List.all_eq_true]
  refine ⟨⟨⟨⟨⟨q1, q2⟩, q3⟩, q4⟩, q5⟩, fun c hc => ?_⟩
  obtain ⟨r1, r2, r3⟩ := q6 c hc
  simp only [zcm, Bool.and_eq_true, decide_eq_true_eq, List.all_eq_true]
  exact ⟨r1, r2, fun x hx => by rw [znb data d hd q2 q3 x]; exact r3 x hx⟩
mutual
def zjm (data : List Dat) : VT → VT → Bool
 | .mk vk vn vks, .mk k n al =>
  if k = 1 then vk == 3 && decide (-1099511627776 ≤ vn) && decide (vn ≤ 1099511627776) && vks.length == 0
  else if k = 2 then vk == 2 && (vn == 0 || vn == 1) && vks.length == 0
  else if k = 3 then vk == 1 && vn == 0 && vks.length == 0
  else if k = 6 then vk == 4 && vn == 0 && zdI data vks al
  else if k = 5 then vk == 5 && decide (0 ≤ vn) && decide (vn < 8) && zec data vks (zaU data (.mk k n al) vn)
  else if k = 7 then vk == 6 && vn == 0 && decide (vks.length ≤ 4096) && znT data vks (al.getD 0 (.mk 0 0 []))
  else if k = 8 then vk == 7 && vn == 0 && zdI data vks al
  else vk == 8 && decide (0 ≤ vn) && decide (vn < 64) && vks.length == 0
def zec (data : List Dat) : List VT → Option (List VT) → Bool
 | _, none => false
 | [], some ts => ts.isEmpty
 | v :: vs, some ts => match ts with
  | [] => false
  | t :: ts => zjm data v t && zdI data vs ts
def zdI (data : List Dat) : List VT → List VT → Bool
 | [], ts => ts.isEmpty
 | v :: vs, ts => match ts with
  | [] => false
  | t :: ts => zjm data v t && zdI data vs ts
def znT (data : List Dat) : List VT → VT → Bool
 | [], _ => true
 | v :: vs, t => zjm data v t && znT data vs t
end
theorem zGs (data : List Dat) (vs ts : List VT) : zec data vs (some ts) = zdI data vs ts := by
 cases vs with
 | nil => cases ts <;> rw [zec, zdI]
 | cons v vs => cases ts <;> simp only [zec, zdI]
theorem zGr (data : List Dat) (vs : List VT) : zec data vs none = false := by cases vs <;> rw [zec]
theorem zuu {data : List Dat} {m : Nat} {vars k n : Int} {len : Nat} (h : zaO (data.take m) vars k n len = true) (h4 : k ≠ 4) : zaO data 0 k n len = true := by
 unfold zaO at h ⊢
 have h4' : (k == 4) = false := by simpa using h4
 rw [h4'] at h ⊢
 by_cases h5 : k = 5
 ·subst h5
  simp only [zgG] at h
  by_cases hm : n.toNat < m
  ·simpa [hm] using h
  ·simp [hm] at h
 ·have : (k == 5) = false := by simpa using h5
  simpa [this] using h
theorem zo5 (ks : List VT) : ∀ l : List VT, (zaB ks l).length = l.length
 | [] => rfl
 | t :: ts => by simp [zaB, zo5 ks ts]
mutual
theorem zpl {data : List Dat} {m : Nat} {vars : Int} {ks : List VT} (hk : ∀ x ∈ ks, zaH data 0 x = true) (hl : (ks.length : Int) = vars) : ∀ a : VT, zaH (data.take m) vars a = true → zaH data 0 (subst ks a) = true
 | .mk k n al => by
  intro h
  rw [zaH, Bool.and_eq_true] at h
  unfold subst
  by_cases h4 : k = 4
  ·have h1 := h.1
   subst h4
   simp [zaO] at h1
   rw [if_pos ⟨rfl, by omega, by omega⟩]
   have hn : n.toNat < ks.length := by omega
   rw [List.getElem?_eq_getElem hn]
   exact hk _ (List.getElem_mem hn)
  ·rw [if_neg (fun h => h4 h.1), zaH, Bool.and_eq_true, zo5]
   exact ⟨zuu h.1 h4, zpj hk hl al h.2⟩
theorem zpj {data : List Dat} {m : Nat} {vars : Int} {ks : List VT} (hk : ∀ x ∈ ks, zaH data 0 x = true) (hl : (ks.length : Int) = vars) : ∀ l : List VT, zaL (data.take m) vars l = true → zaL data 0 (zaB ks l) = true
 | [] => by intro _; simp [zaB, zaL]
 | t :: ts => by
  intro h
  rw [zaL, Bool.and_eq_true] at h
  rw [zaB, zaL, Bool.and_eq_true]
  exact ⟨zpl hk hl t h.1, zpj hk hl ts h.2⟩
end
theorem zph {data : List Dat} {vars : Int} : ∀ {l : List VT}, zaL data vars l = true → ∀ x ∈ l, zaH data vars x = true
 | [], _ => by simp
 | t :: ts, h => by
  rw [zaL, Bool.and_eq_true] at h
  intro x hx
  rcases List.mem_cons.1 hx with rfl | hx
  ·exact h.1
  ·exact zph h.2 x hx
theorem zvi {data : List Dat} {vars : Int} {k n : Int} {ks : List VT} (h : zaH data vars (.mk k n ks) = true) : ∀ x ∈ ks, zaH data vars x = true := by
 rw [zaH, Bool.and_eq_true] at h
 exact zph h.2
theorem zs4 {data : List Dat} (hD : zba data = true) {d c : Nat} (hd : d < data.length) (hc : c < data[d].cons.length) : ∀ x ∈ (data[d].cons[c]).args, zaH (data.take (d + 1)) data[d].vars x = true := by
 simp only [zba, Bool.and_eq_true, zje, Nat.zero_add] at hD
 have h1 := hD.1.1.2 d hd
 simp only [zbR, Bool.and_eq_true] at h1
 have h2 := List.all_eq_true.1 h1.2 _ (List.getElem_mem hc)
 simp only [zcm, Bool.and_eq_true] at h2
 intro x hx
 have h3 := List.all_eq_true.1 h2.2.2 x hx
 simp only [zcC, za6, Bool.and_eq_true] at h3
 exact h3.1.2
theorem zfT {data : List Dat} {k n : Int} {ks : List VT} {c : Int} {l : List VT} (h : zaU data (.mk k n ks) c = some l) :
  k = 5 ∧ 0 ≤ n ∧ 0 ≤ c ∧ ∃ (hn : n.toNat < data.length) (hc : c.toNat < (data[n.toNat]).cons.length), (ks.length : Int) = (data[n.toNat]).vars ∧ l = ((data[n.toNat]).cons[c.toNat]).args.map (subst ks) ∧ ∀ x ∈ l, x.nodes ≤ 200 := by
 rw [zb8] at h
 split at h
 ·rename_i h5
  split at h
  ·rename_i D hD
   obtain ⟨hn, rfl⟩ := List.getElem?_eq_some_iff.1 hD
   split at h
   ·rename_i hv
    split at h
    ·rename_i C hC
     obtain ⟨hc, rfl⟩ := List.getElem?_eq_some_iff.1 hC
     split at h
     ·rename_i ha
      simp only [Option.some.injEq] at h
      subst h
      exact ⟨h5.1, h5.2.1, h5.2.2, hn, hc, hv, rfl, fun x hx => of_decide_eq_true (List.all_eq_true.1 ha x hx)⟩
     ·cases h
    ·cases h
   ·cases h
  ·cases h
 ·cases h
theorem ztg {data : List Dat} (hD : zba data = true) {t : VT} (ht : zaH data 0 t = true) {c : Int} {l : List VT} (h : zaU data t c = some l) : ∀ x ∈ l, za6 data 0 x = true := by
 obtain ⟨k, n, ks⟩ := t
 obtain ⟨rfl, h0, hc0, hn, hc, hv, rfl, hsz⟩ := zfT h
 intro x hx
 rw [za6, Bool.and_eq_true, decide_eq_true_eq]
 refine ⟨hsz x hx, ?_⟩
 obtain ⟨a, ha, rfl⟩ := List.mem_map.1 hx
 exact zpl (zvi ht) hv a (zs4 hD hn hc a ha)
def zco (d : Nat) (D : Dat) (C : Con) : List Bool := C.args.map (zbs d D.vars)
def zoG (data : List Dat) (d : Nat) : List (List Bool) := match data[d]? with
 | some D => D.cons.map (zco d D)
 | none => []
mutual
def zke (rs : List (List Bool)) : VT → List VT
 | .mk k n ks => .mk k n ks :: zen rs ks (rs.getD n.toNat [])
def zen (rs : List (List Bool)) : List VT → List Bool → List VT
 | [], _ => []
 | v :: vs, bs => match bs with
  | [] => []
  | b :: bs => (if b = true then zke rs v else []) ++ zen rs vs bs
end
mutual
theorem zt2 (rs : List (List Bool)) : ∀ v : VT, (zke rs v).length ≤ v.nodes
 | .mk k n ks => by
  have := zoD rs ks (rs.getD n.toNat [])
  simp only [zke, VT.nodes, List.length_cons]
  omega
theorem zoD (rs : List (List Bool)) : ∀ (vs : List VT) (bs : List Bool), (zen rs vs bs).length ≤ VT.nodesL vs
 | [], _ => by simp [zen, VT.nodesL]
 | v :: vs, [] => by simp [zen]
 | v :: vs, b :: bs => by
  have h1 := zt2 rs v
  have h2 := zoD rs vs bs
  simp only [zen, VT.nodesL, List.length_append]
  split
  ·omega
  ·simp; omega
end
end Go.Proofs.YtacebbdfgbfgiaaGreat
namespace Go.Proofs.YtacebbdfgbfgiaaGreat
open Go Go.Abs
def pick : List VT → List Bool → List VT
 | x :: l, b :: bs => if b then pick l bs else x :: pick l bs
 | _, _ => []
def zbN (data : List Dat) (t : VT) (c : Int) : Option (List VT) := (zaU data t c).map fun l => pick l ((zoG data t.num.toNat).getD c.toNat [])
mutual
def zbE (data : List Dat) : IT → VT → Int × Bool
 | .mk n ks, t =>
  if t.kind = 6 then (if n = 0 then (if t.kids.length = ks.length then zbh data ks t.kids 0 else (0, false)) else (0, false))
  else if t.kind = 7 then (n, decide (0 ≤ n) && decide (n ≤ 6) && decide (ks.length = 0))
  else if t.kind = 5 then (if n = 0 then zbZ data ks t 0 else (0, false))
  else (0, decide (n = 0) && decide (ks.length = 0))
def zbh (data : List Dat) : List IT → List VT → Int → Int × Bool
 | [], _, a => (a, decide (a ≤ 6))
 | v :: vs, ts, a => match ts with
  | t :: ts => if (zbE data v t).2 then zbh data vs ts (a + (zbE data v t).1) else (0, false)
  | [] => (0, false)
def zbZ (data : List Dat) : List IT → VT → Int → Int × Bool
 | [], _, a => (a, true)
 | .mk c ks :: es, t, a => match zbN data t c with
  | none => (0, false)
  | some ps => if ps.length = ks.length then
    (if (zbh data ks ps 0).2 && decide (a + (1 + (zbh data ks ps 0).1) ≤ 6) then zbZ data es t (a + (1 + (zbh data ks ps 0).1)) else (0, false))
   else (0, false)
end
mutual
def rdV (data : List Dat) : IT → VT → Int
 | .mk n ks, t =>
  if t.kind = 6 then (if n = 0 then (if t.kids.length = ks.length then rdA data ks t.kids 0 else -1) else -1)
  else if t.kind = 7 then (if 0 ≤ n ∧ n ≤ 6 ∧ ks.length = 0 then n else -1)
  else if t.kind = 5 then (if n = 0 ∧ ks.length ≤ 6 then rdE data ks t 0 else -1)
  else (if n = 0 ∧ ks.length = 0 then 0 else -1)
def rdA (data : List Dat) : List IT → List VT → Int → Int
 | [], _, a => a
 | v :: vs, ts, a => match ts with
  | t :: ts => if rdV data v t < 0 ∨ a + rdV data v t > 6 then -1 else rdA data vs ts (a + rdV data v t)
  | [] => -1
def rdE (data : List Dat) : List IT → VT → Int → Int
 | [], _, a => a
 | .mk c ks :: es, t, a => if c < 0 ∨ 8 ≤ c then -1 else match zbN data t c with
  | none => -1
  | some ps => if ps.length = ks.length then
    (if rdA data ks ps 0 < 0 ∨ a + 1 + rdA data ks ps 0 > 6 then -1 else rdE data es t (a + (1 + rdA data ks ps 0)))
   else -1
end
theorem ztZ {data : List Dat} (h8 : ∀ D ∈ data, D.cons.length ≤ 8) {t : VT} {c : Int} {ps : List VT} (h : zbN data t c = some ps) : 0 ≤ c ∧ c < 8 := by
 unfold zbN at h
 cases hf : zaU data t c with
 | none => rw [hf] at h; cases h
 | some l =>
  obtain ⟨_, k1, k2, hn, hc, _⟩ := zfT hf
  have := h8 _ (List.getElem_mem hn)
  omega
def agr (m : Int × Bool) (r : Int) : Prop := (m.2 = true → m.1 = r ∧ 0 ≤ r ∧ r ≤ 6) ∧ (m.2 = false → r = -1)
theorem zcP : agr (0, false) (-1) := ⟨fun h => (by cases h), fun _ => rfl⟩
mutual
theorem zfL {data : List Dat} (h8 : ∀ D ∈ data, D.cons.length ≤ 8) : ∀ (v : IT) (t : VT), agr (zbE data v t) (rdV data v t)
 | .mk n ks, t => by
  have hA := (zfK h8 ks t.kids 0 (by omega)).1 (by omega)
  have hE := zm7 h8 ks t 0 (by omega) (by omega)
  unfold zbE rdV
  split
  ·split
   ·split
    ·exact hA
    ·exact zcP
   ·exact zcP
  ·split
   ·refine ⟨fun h => ?_, fun h => ?_⟩
    ·simp at h
     rw [if_pos ⟨h.1.1, h.1.2, by simpa using h.2⟩]
     exact ⟨rfl, h.1.1, h.1.2⟩
    ·rw [if_neg]
     rintro ⟨h1, h2, h3⟩
     simp [h1, h2, h3] at h
   ·split
    ·by_cases hn : n = 0
     ·simp only [hn, if_true, true_and]
      by_cases hl : ks.length ≤ 6
      ·rw [if_pos hl]; exact hE.1
      ·rw [if_neg hl]
       refine ⟨fun h => ?_, fun _ => rfl⟩
       have := hE.2 h
       omega
     ·simp only [hn, if_false, false_and]
      exact zcP
    ·refine ⟨fun h => ?_, fun h => ?_⟩
     ·simp at h
      simp [h]
     ·rw [if_neg]
      rintro ⟨h1, h2⟩
      simp [h1, h2] at h
theorem zfK {data : List Dat} (h8 : ∀ D ∈ data, D.cons.length ≤ 8) : ∀ (vs : List IT) (ts : List VT) (a : Int), 0 ≤ a → (a ≤ 6 → agr (zbh data vs ts a) (rdA data vs ts a)) ∧ (6 < a → (zbh data vs ts a).2 = false)
 | [], ts, a, ha => by
  simp only [zbh, rdA]
  exact ⟨fun h => ⟨fun _ => ⟨rfl, ha, h⟩, fun h2 => by simp at h2; omega⟩, fun h => by simp; omega⟩
 | v :: vs, ts, a, ha => by
  match ts with
  | [] => simp only [zbh, rdA]; exact ⟨fun _ => zcP, fun _ => by trivial⟩
  | t :: ts =>
   obtain ⟨g1, g2⟩ := zfL h8 v t
   simp only [zbh, rdA]
   cases hb : (zbE data v t).2 with
   | false =>
    rw [g2 hb]
    simp
    exact fun _ => zcP
   | true =>
    obtain ⟨e1, e2, e3⟩ := g1 hb
    rw [e1]
    have hn := zfK h8 vs ts (a + rdV data v t) (by omega)
    simp only [if_true]
    refine ⟨fun h => ?_, fun h => hn.2 (by omega)⟩
    by_cases h6 : a + rdV data v t > 6
    ·rw [if_pos (.inr h6)]
     exact ⟨fun h => (by rw [hn.2 (by omega)] at h; cases h), fun _ => rfl⟩
    ·rw [if_neg (by omega)]
     exact hn.1 (by omega)
theorem zm7 {data : List Dat} (h8 : ∀ D ∈ data, D.cons.length ≤ 8) : ∀ (es : List IT) (t : VT) (a : Int), 0 ≤ a → a ≤ 6 → agr (zbZ data es t a) (rdE data es t a) ∧ ((zbZ data es t a).2 = true → a + es.length ≤ 6)
 | [], t, a, h0, h6 => by
  simp only [zbZ, rdE]
  exact ⟨⟨fun _ => ⟨rfl, h0, h6⟩, fun h => by cases h⟩, fun _ => by simpa using h6⟩
 | .mk c ks :: es, t, a, h0, h6 => by
  simp only [zbZ, rdE]
  cases hp : zbN data t c with
  | none => simp only [ite_self]; exact ⟨zcP, fun h => by cases h⟩
  | some ps =>
   obtain ⟨c0, c8⟩ := ztZ h8 hp
   rw [if_neg (show ¬(c < 0 ∨ 8 ≤ c) by omega)]
   simp only
   by_cases hl : ps.length = ks.length
   ·simp only [hl, if_true]
    obtain ⟨g1, g2⟩ := (zfK h8 ks ps 0 (by omega)).1 (by omega)
    cases hb : (zbh data ks ps 0).2 with
    | false =>
     rw [g2 hb]
     simp
     exact zcP
    | true =>
     obtain ⟨e1, e2, e3⟩ := g1 hb
     rw [e1]
     by_cases hh : a + (1 + rdA data ks ps 0) ≤ 6
     ·have hn := zm7 h8 es t (a + (1 + rdA data ks ps 0)) (by omega) hh
      rw [if_neg (show ¬(rdA data ks ps 0 < 0 ∨ a + 1 + rdA data ks ps 0 > 6) by omega)]
      simp only [hh, decide_true, Bool.and_self, if_true]
      refine ⟨hn.1, fun h => ?_⟩
      have := hn.2 h
      simp only [List.length_cons]
      omega
     ·rw [if_pos (show rdA data ks ps 0 < 0 ∨ a + 1 + rdA data ks ps 0 > 6 by omega)]
      simp [hh]
      exact zcP
   ·simp only [hl, if_false]
    exact ⟨zcP, fun h => by cases h⟩
end
end Go.Proofs.YtacebbdfgbfgiaaGreat
namespace Go.Proofs.YtacebbdfgbfgiaaGreat
open Go Go.Abs
set_option maxRecDepth 100000
def zBs (_ : Nat) : List Bool := []
noncomputable def zBt : Code := Tryz.f9.body.getD .skip
def zq7 (t0 : AV) (H : zaa) (K : Kt) : Prop :=
 zao t0 H fun t1 H =>
 zau [(.int .i64 0)] H fun t3 H =>
 zak 1 t3 (.int .i64 40) H fun H =>
 zad true 2 t1 H fun t4 =>
 ACalls tP zf6 [t4, t3] H fun t5 H =>
 K t5 H
theorem zBu {t0 : AV} {H : zaa} {K : Kt} (h : HSc H → zq7 t0 H K) : ACalls tP zjX [t0] H K :=
 zal (M := zBs) Tryz.func9 (c := zBt) (by kernel_rfl) (fun hs => Eq.mpr (by kernel_rfl) (h hs))
def zhp : Nat → List Bool
 | 5 => rl false [1,2,2,1,24]
 | _ => []
noncomputable def zle : Code := Tryz.f26.body.getD .skip
noncomputable def zx8 : List ResultVar := Tryz.f26.results.toList
def zhq (t1 t2 t5 : AV) : List AV := ux 1 (t1 :: t2 :: ux 2 (t5 :: ux 24 []))
def zx6 : List Bool := zhp 5
noncomputable def zx4 : Code := zap [1, 1, 1, 0, 1, 0, 0] zle
def zx3 (K : Kt) : AExit → List AV → zaa → Prop := zaq tP zhp [1, 1, 1, 0, 1, 0] zle (zax tP zx8 K)
def zqn (t1 t2 t5 : AV) (H : zaa) (K : Kt) : Prop := ALoop tP zx4 (zx3 K) (zhq t1 t2 t5) H
def zld (t1 t2 t5 : AV) (H : zaa) (K : Kt) (Kb5 : Lt) : Prop :=
 zaf 1 t2 fun t16 =>
 zad false 1 t16 H fun t17 =>
 zah 1 t17 fun t18 =>
 zac .lss false t5 t18 fun t19 =>
 zag t19
 (zaf 1 t2 fun t22 =>
 zad false 1 t22 H fun t23 =>
 zaj 2 t23 t5 fun t25 =>
 zad true 2 t25 H fun t26 =>
 ACalls tP zf6 [t26, t1] H fun t28 H =>
 aUn .not t28 fun t29 =>
 zag t29
 (K (.bool false) H)
 (zac .add false t5 (.int .i64 1) fun t21 =>
 Kb5 (zhq t1 t2 t21) H))
 (K (.bool true) H)
def zqm (t0 t1 : AV) (H : zaa) (K : Kt) : Prop :=
 zao t0 H fun t2 H =>
 za3 t1 fun t7 =>
 zad false 1 t7 H fun t8 =>
 zac .sub false t8 (.int .i64 1) fun t9 =>
 za3 t1 fun t10 =>
 zak 1 t10 t9 H fun H =>
 za3 t1 fun t12 =>
 zad false 1 t12 H fun t13 =>
 zac .lss false t13 (.int .i64 0) fun t14 =>
 zag t14
 (K (.bool false) H)
 (zqn t1 t2 (.int .i64 0) H K)
theorem zx5 {t1 t2 t5 : AV} {H : zaa} {K : Kt} (Inv : Nat → AV → zaa → Prop) (n : Nat) (h0 : HSc H → Inv n t5 H)
  (round : Rd1 (fun t5 => zhq t1 t2 t5) (fun t5 => fun H Kb5 => zld t1 t2 t5 H K Kb5) H Inv) : zqn t1 t2 t5 H K :=
 lp1 (M := zhp) zx6 t5 (by kernel_rfl) Inv n h0 round
theorem zx7 {t0 t1 : AV} {H : zaa} {K : Kt} (h : HSc H → zqm t0 t1 H K) : ACalls tP zf6 [t0, t1] H K :=
 zal (M := zhp) Tryz.func26 (c := zle) (by kernel_rfl) (fun hs => Eq.mpr (by kernel_rfl) (h hs))
def zya (_ : Nat) : List Bool := []
noncomputable def zyb : Code := Tryz.f27.body.getD .skip
def zqo (t0 t1 t2 : AV) (H : zaa) (K : Kt) : Prop :=
 zao t1 H fun t4 H =>
 zao t2 H fun t5 H =>
 zad true 3 t4 H fun t8 =>
 zad true 2 t5 H fun t9 =>
 ACalls tP zjQ [t0, t8, t9] H fun t10 H =>
 zac .geq false t10 (.int .i64 0) fun t11 =>
 K t11 H
theorem zyc {t0 t1 t2 : AV} {H : zaa} {K : Kt} (h : HSc H → zqo t0 t1 t2 H K) : ACalls tP zf7 [t0, t1, t2] H K :=
 zal (M := zya) Tryz.func27 (c := zyb) (by kernel_rfl) (fun hs => Eq.mpr (by kernel_rfl) (h hs))
def zyZ (_ : Nat) : List Bool := []
noncomputable def zy0 : Code := Tryz.f37.body.getD .skip
def zqH (t0 t1 t2 : AV) (H : zaa) (K : Kt) : Prop :=
 zao t1 H fun t4 H =>
 zao t2 H fun t5 H =>
 zad true 3 t4 H fun t8 =>
 zad true 2 t5 H fun t9 =>
 ACalls tP zjz [t0, t8, t9] H fun t10 H =>
 zac .geq false t10 (.int .i64 0) fun t11 =>
 K t11 H
theorem zy1 {t0 t1 t2 : AV} {H : zaa} {K : Kt} (h : HSc H → zqH t0 t1 t2 H K) : ACalls tP zjO [t0, t1, t2] H K :=
 zal (M := zyZ) Tryz.func37 (c := zy0) (by kernel_rfl) (fun hs => Eq.mpr (by kernel_rfl) (h hs))
def zzB (_ : Nat) : List Bool := []
noncomputable def zzC : Code := Tryz.f46.body.getD .skip
def zqO (t0 t1 t2 : AV) (H : zaa) (K : Kt) : Prop :=
 zao t1 H fun t4 H =>
 zao t2 H fun t5 H =>
 zad true 3 t4 H fun t10 =>
 ACalls tP zfe [t0, t10] H fun t11 H =>
 aUn .not t11 fun t12 =>
 zag t12
 (K (.int .i64 (-1)) H)
 (zad true 3 t4 H fun t15 =>
 zad true 2 t5 H fun t16 =>
 ACalls tP zgk [t0, t15, t16] H fun t17 H =>
 zat t17 0 fun t18 =>
 zat t17 1 fun t19 =>
 aUn .not t19 fun t21 =>
 zag t21
 (K (.int .i64 (-1)) H)
 (K t18 H))
theorem zzD {t0 t1 t2 : AV} {H : zaa} {K : Kt} (h : HSc H → zqO t0 t1 t2 H K) : ACalls tP zjQ [t0, t1, t2] H K :=
 zal (M := zzB) Tryz.func46 (c := zzC) (by kernel_rfl) (fun hs => Eq.mpr (by kernel_rfl) (h hs))
def zwL (_ : Nat) : List Bool := []
noncomputable def zwM : Code := Tryz.f14.body.getD .skip
def zpM (t0 t1 t2 : AV) (H : zaa) (K : Kt) : Prop :=
 zao t1 H fun t4 H =>
 zao t2 H fun t5 H =>
 zad true 3 t4 H fun t8 =>
 ACalls tP zjP [t0, t8] H fun t9 H =>
 aUn .not t9 fun t10 =>
 zag t10
 (K (.int .i64 (-1)) H)
 (zad true 3 t4 H fun t12 =>
 zad true 2 t5 H fun t13 =>
 ACalls tP zf9 [t0, t12, t13] H fun t14 H =>
 K t14 H)
theorem zwN {t0 t1 t2 : AV} {H : zaa} {K : Kt} (h : HSc H → zpM t0 t1 t2 H K) : ACalls tP zjz [t0, t1, t2] H K :=
 zal (M := zwL) Tryz.func14 (c := zwM) (by kernel_rfl) (fun hs => Eq.mpr (by kernel_rfl) (h hs))
def zz6 (_ : Nat) : List Bool := []
noncomputable def zz7 : Code := Tryz.f52.body.getD .skip
def zqU (t0 t1 : AV) (H : zaa) (K : Kt) : Prop :=
 zao t1 H fun t3 H =>
 zav [.snil, .snil, .snil, .snil] [(0, 1), (1, 1), (2, 1), (3, 1)] [(0, t0)] fun t6 =>
 ACalls tP zjW [t6] H fun t7 H =>
 zab t7 true H (fun K' => K' t0 H) fun t9 H =>
 zab t7 true H (fun K' => zad true 3 t3 H (K' · H)) fun t10 H =>
 zab t7 true H (fun K' => ACalls tP zff [t9, t10, (.int .i64 0)] H K') fun t11 H =>
 zai t7 t11 (.bool false) fun t12 =>
 K t12 H
theorem zz8 {t0 t1 : AV} {H : zaa} {K : Kt} (h : HSc H → zqU t0 t1 H K) : ACalls tP zfe [t0, t1] H K :=
 zal (M := zz6) Tryz.func52 (c := zz7) (by kernel_rfl) (fun hs => Eq.mpr (by kernel_rfl) (h hs))
def zin : Nat → List Bool
 | 13 => rl false [0,1,3,1,3,1,44,3,42]
 | _ => []
noncomputable def zmb : Code := Tryz.f68.body.getD .skip
noncomputable def zA9 : List ResultVar := Tryz.f68.results.toList
def zio (t0 t4 t8 t53 t54 t55 : AV) : List AV := t0 :: ux 3 (t4 :: ux 3 (t8 :: ux 44 (t53 :: t54 :: t55 :: ux 42 [])))
def zA7 : List Bool := zin 13
noncomputable def zA5 : Code := zap [1, 0, 1, 0, 1, 1, 1, 1, 1, 0, 1, 1, 0, 1, 0, 0] zmb
def zA4 (K : Kt) : AExit → List AV → zaa → Prop := zaq tP zin [1, 0, 1, 0, 1, 1, 1, 1, 1, 0, 1, 1, 0, 1, 0] zmb (zax tP zA9 K)
def zrm (t0 t4 t8 t53 t54 t55 : AV) (H : zaa) (K : Kt) : Prop := ALoop tP zA5 (zA4 K) (zio t0 t4 t8 t53 t54 t55) H
def zma (t0 t4 t8 t53 t54 t55 : AV) (H : zaa) (K : Kt) (Kb13 : Lt) : Prop :=
 zac .lss false t55 t54 fun t56 =>
 zag t56
 (zaj 2 t53 t55 fun t57 =>
 zad true 2 t57 H fun t58 =>
 zau [(.int .i64 0), .snil] H fun t10 H =>
 zak 2 t10 t58 H fun H =>
 zad true 3 t4 H fun t61 =>
 zaf 0 t10 fun t62 =>
 zad false 1 t62 H fun t63 =>
 ACalls tP zjY [t0, t61, t63] H fun t64 H =>
 zat t64 0 fun t65 =>
 zat t64 1 fun t66 =>
 aUn .not t66 fun t68 =>
 zag t68
 (zas [(.int .i64 0), (.bool false)] (K · H))
 (zaf 1 t10 fun t72 =>
 zad false 1 t72 H fun t73 =>
 ACalls tP zgq [t0, t65, t73] H fun t74 H =>
 zat t74 0 fun t75 =>
 zat t74 1 fun t76 =>
 zac .add false (.int .i64 1) t75 fun t79 =>
 zac .add false t8 t79 fun t80 =>
 aUn .not t76 fun t82 =>
 zab t82 false H (fun K' => K' t80 H) fun t84 H =>
 zab t82 false H (fun K' => zac .gtr false t84 (.int .i64 6) (K' · H)) fun t85 H =>
 zai t82 (.bool true) t85 fun t86 =>
 zag t86
 (zas [(.int .i64 0), (.bool false)] (K · H))
 (zac .add false t55 (.int .i64 1) fun t87 =>
 Kb13 (zio t0 t4 t80 t53 t54 t87) H)))
 (zas [t8, (.bool true)] (K · H))
def zcr (t0 t1 t2 : AV) (H : zaa) (K : Kt) : Prop :=
 zao t1 H fun t4 H =>
 zao t2 H fun t5 H =>
 zaf 0 t4 fun t14 =>
 zad false 1 t14 H fun t15 =>
 zac .eql false t15 (.int .i64 6) fun t17 =>
 zag t17
 (zaf 0 t5 fun t18 =>
 zad false 1 t18 H fun t19 =>
 zac .neq false t19 (.int .i64 0) fun t20 =>
 zag t20
 (zas [(.int .i64 0), (.bool false)] (K · H))
 (zaf 2 t4 fun t22 =>
 zad false 1 t22 H fun t23 =>
 zaf 1 t5 fun t24 =>
 zad false 1 t24 H fun t25 =>
 ACalls tP zgq [t0, t23, t25] H fun t26 H =>
 zat t26 0 fun t27 =>
 zat t26 1 fun t28 =>
 zas [t27, t28] (K · H)))
 (zac .eql false t15 (.int .i64 7) fun t30 =>
 zag t30
 (zae H (fun K' => zaf 0 t5 (K' · H)) fun t31 =>
 zae H (fun K' => zam false 1 t31 H (K' · H)) fun t32 =>
 zae H (fun K' => zaf 0 t5 (K' · H)) fun t33 =>
 zae H (fun K' => zam false 1 t33 H (K' · H)) fun t34 =>
 zae H (fun K' => zac .geq false t34 (.int .i64 0) (K' · H)) fun t35 =>
 zae H (fun K' => K' t35 H) fun t36 =>
 zab t36 true H (fun K' => zae H (fun K'' => zaf 0 t5 (K'' · H)) (K' · H)) fun t37 H =>
 zab t36 true H (fun K' => zae H (fun K'' => zam false 1 t37 H (K'' · H)) (K' · H)) fun t38 H =>
 zab t36 true H (fun K' => zae H (fun K'' => zac .leq false t38 (.int .i64 6) (K'' · H)) (K' · H)) fun t39 H =>
 zae H (fun K' => zai t36 t39 (.bool false) (K' · H)) fun t40 =>
 zae H (fun K' => K' t40 H) fun t41 =>
 zab t41 true H (fun K' => zae H (fun K'' => zaf 1 t5 (K'' · H)) (K' · H)) fun t42 H =>
 zab t41 true H (fun K' => zae H (fun K'' => zam false 1 t42 H (K'' · H)) (K' · H)) fun t43 H =>
 zab t41 true H (fun K' => zae H (fun K'' => zah 1 t43 (K'' · H)) (K' · H)) fun t44 H =>
 zab t41 true H (fun K' => zae H (fun K'' => zac .eql false t44 (.int .i64 0) (K'' · H)) (K' · H)) fun t45 H =>
 zae H (fun K' => zai t41 t45 (.bool false) (K' · H)) fun t46 =>
 zae H (fun K' => K' t32 H) fun t6 =>
 zae H (fun K' => K' t46 H) fun t7 =>
 zas [t6, t7] (K · H))
 (zac .eql false t15 (.int .i64 5) fun t48 =>
 zag t48
 (zaf 0 t5 fun t49 =>
 zad false 1 t49 H fun t50 =>
 zac .neq false t50 (.int .i64 0) fun t51 =>
 zag t51
 (zas [(.int .i64 0), (.bool false)] (K · H))
 (zaf 1 t5 fun t52 =>
 zad false 1 t52 H fun t53 =>
 zah 1 t53 fun t54 =>
 zrm t0 t4 (.int .i64 0) t53 t54 (.int .i64 0) H K))
 (zae H (fun K' => zaf 0 t5 (K' · H)) fun t89 =>
 zae H (fun K' => zam false 1 t89 H (K' · H)) fun t90 =>
 zae H (fun K' => zac .eql false t90 (.int .i64 0) (K' · H)) fun t91 =>
 zae H (fun K' => K' t91 H) fun t92 =>
 zab t92 true H (fun K' => zae H (fun K'' => zaf 1 t5 (K'' · H)) (K' · H)) fun t93 H =>
 zab t92 true H (fun K' => zae H (fun K'' => zam false 1 t93 H (K'' · H)) (K' · H)) fun t94 H =>
 zab t92 true H (fun K' => zae H (fun K'' => zah 1 t94 (K'' · H)) (K' · H)) fun t95 H =>
 zab t92 true H (fun K' => zae H (fun K'' => zac .eql false t95 (.int .i64 0) (K'' · H)) (K' · H)) fun t96 H =>
 zae H (fun K' => zai t92 t96 (.bool false) (K' · H)) fun t97 =>
 zae H (fun K' => K' (.int .i64 0) H) fun t6 =>
 zae H (fun K' => K' t97 H) fun t7 =>
 zas [t6, t7] (K · H))))
theorem zA6 {t0 t4 t8 t53 t54 t55 : AV} {H : zaa} {K : Kt} (Inv : Nat → AV → AV → zaa → Prop) (n : Nat) (h0 : HSc H → Inv n t8 t55 H)
  (round : Rd2 (fun t8 => fun t55 => zio t0 t4 t8 t53 t54 t55) (fun t8 => fun t55 => fun H Kb13 => zma t0 t4 t8 t53 t54 t55 H K Kb13) H Inv) : zrm t0 t4 t8 t53 t54 t55 H K :=
 lp2 (M := zin) zA7 t8 t55 (by kernel_rfl) Inv n h0 round
theorem zA8 {t0 t1 t2 : AV} {H : zaa} {K : Kt} (h : HSc H → zcr t0 t1 t2 H K) : ACalls tP zgk [t0, t1, t2] H K :=
 zal (M := zin) Tryz.func68 (c := zmb) (by kernel_rfl) (fun hs => Eq.mpr (by kernel_rfl) (h hs))
def zy3 (_ : Nat) : List Bool := []
noncomputable def zy4 : Code := Tryz.f39.body.getD .skip
def zqI (t0 t1 : AV) (H : zaa) (K : Kt) : Prop :=
 zao t1 H fun t3 H =>
 ACalls tP zjT [t0] H fun t6 H =>
 zab t6 true H (fun K' => K' t0 H) fun t8 H =>
 zab t6 true H (fun K' => zad true 3 t3 H (K' · H)) fun t9 H =>
 zab t6 true H (fun K' => ACalls tP zgh [t8, t9, (.int .i64 0)] H K') fun t10 H =>
 zai t6 t10 (.bool false) fun t11 =>
 K t11 H
theorem zy5 {t0 t1 : AV} {H : zaa} {K : Kt} (h : HSc H → zqI t0 t1 H K) : ACalls tP zjP [t0, t1] H K :=
 zal (M := zy3) Tryz.func39 (c := zy4) (by kernel_rfl) (fun hs => Eq.mpr (by kernel_rfl) (h hs))
def zhJ : Nat → List Bool
 | 15 => rl false [0,1,3,1,2,1,48,3,50]
 | _ => []
noncomputable def zlu : Code := Tryz.f40.body.getD .skip
noncomputable def zzc : List ResultVar := Tryz.f40.results.toList
def zhK (t0 t4 t7 t56 t57 t58 : AV) : List AV := t0 :: ux 3 (t4 :: ux 2 (t7 :: ux 48 (t56 :: t57 :: t58 :: ux 50 [])))
def zza : List Bool := zhJ 15
noncomputable def zy8 : Code := zap [1, 0, 1, 0, 1, 1, 1, 1, 1, 0, 1, 1, 0, 1, 0, 0] zlu
def zy7 (K : Kt) : AExit → List AV → zaa → Prop := zaq tP zhJ [1, 0, 1, 0, 1, 1, 1, 1, 1, 0, 1, 1, 0, 1, 0] zlu (zax tP zzc K)
def zqJ (t0 t4 t7 t56 t57 t58 : AV) (H : zaa) (K : Kt) : Prop := ALoop tP zy8 (zy7 K) (zhK t0 t4 t7 t56 t57 t58) H
def zfw (t0 t4 t7 t56 t57 t58 : AV) (H : zaa) (K : Kt) (Kb15 : Lt) : Prop :=
 zac .lss false t58 t57 fun t59 =>
 zag t59
 (zaj 2 t56 t58 fun t60 =>
 zad true 2 t60 H fun t61 =>
 zau [(.int .i64 0), .snil] H fun t9 H =>
 zak 2 t9 t61 H fun H =>
 zaf 0 t9 fun t62 =>
 zad false 1 t62 H fun t63 =>
 zac .lss false t63 (.int .i64 0) fun t64 =>
 zab t64 false H (fun K' => zaf 0 t9 (K' · H)) fun t66 H =>
 zab t64 false H (fun K' => zad false 1 t66 H (K' · H)) fun t67 H =>
 zab t64 false H (fun K' => zac .geq false t67 (.int .i64 8) (K' · H)) fun t68 H =>
 zai t64 (.bool true) t68 fun t69 =>
 zag t69
 (K (.int .i64 (-1)) H)
 (zad true 3 t4 H fun t72 =>
 zaf 0 t9 fun t73 =>
 zad false 1 t73 H fun t74 =>
 ACalls tP zjU [t0, t72, t74] H fun t75 H =>
 zat t75 0 fun t76 =>
 zat t75 1 fun t77 =>
 aUn .not t77 fun t79 =>
 zag t79
 (K (.int .i64 (-1)) H)
 (zaf 1 t9 fun t82 =>
 zad false 1 t82 H fun t83 =>
 ACalls tP zgi [t0, t76, t83] H fun t84 H =>
 zac .lss false t84 (.int .i64 0) fun t86 =>
 zab t86 false H (fun K' => K' t7 H) fun t88 H =>
 zab t86 false H (fun K' => zac .add false t88 (.int .i64 1) (K' · H)) fun t89 H =>
 zab t86 false H (fun K' => K' t84 H) fun t90 H =>
 zab t86 false H (fun K' => zac .add false t89 t90 (K' · H)) fun t91 H =>
 zab t86 false H (fun K' => zac .gtr false t91 (.int .i64 6) (K' · H)) fun t92 H =>
 zai t86 (.bool true) t92 fun t93 =>
 zag t93
 (K (.int .i64 (-1)) H)
 (zac .add false (.int .i64 1) t84 fun t96 =>
 zac .add false t7 t96 fun t97 =>
 zac .add false t58 (.int .i64 1) fun t98 =>
 Kb15 (zhK t0 t4 t97 t56 t57 t98) H))))
 (K t7 H)
def zcd (t0 t1 t2 : AV) (H : zaa) (K : Kt) : Prop :=
 zao t1 H fun t4 H =>
 zao t2 H fun t5 H =>
 zaf 0 t4 fun t13 =>
 zad false 1 t13 H fun t14 =>
 zac .eql false t14 (.int .i64 6) fun t16 =>
 zag t16
 (zaf 0 t5 fun t17 =>
 zad false 1 t17 H fun t18 =>
 zac .neq false t18 (.int .i64 0) fun t19 =>
 zag t19
 (K (.int .i64 (-1)) H)
 (zaf 2 t4 fun t21 =>
 zad false 1 t21 H fun t22 =>
 zaf 1 t5 fun t23 =>
 zad false 1 t23 H fun t24 =>
 ACalls tP zgi [t0, t22, t24] H fun t25 H =>
 K t25 H))
 (zac .eql false t14 (.int .i64 7) fun t27 =>
 zag t27
 (zaf 0 t5 fun t28 =>
 zad false 1 t28 H fun t29 =>
 zac .lss false t29 (.int .i64 0) fun t30 =>
 zab t30 false H (fun K' => zaf 0 t5 (K' · H)) fun t32 H =>
 zab t30 false H (fun K' => zad false 1 t32 H (K' · H)) fun t33 H =>
 zab t30 false H (fun K' => zac .gtr false t33 (.int .i64 6) (K' · H)) fun t34 H =>
 zai t30 (.bool true) t34 fun t35 =>
 zab t35 false H (fun K' => zaf 1 t5 (K' · H)) fun t37 H =>
 zab t35 false H (fun K' => zad false 1 t37 H (K' · H)) fun t38 H =>
 zab t35 false H (fun K' => zah 1 t38 (K' · H)) fun t39 H =>
 zab t35 false H (fun K' => zac .gtr false t39 (.int .i64 0) (K' · H)) fun t40 H =>
 zai t35 (.bool true) t40 fun t41 =>
 zag t41
 (K (.int .i64 (-1)) H)
 (zaf 0 t5 fun t42 =>
 zad false 1 t42 H fun t43 =>
 K t43 H))
 (zac .eql false t14 (.int .i64 5) fun t45 =>
 zag t45
 (zaf 0 t5 fun t46 =>
 zad false 1 t46 H fun t47 =>
 zac .neq false t47 (.int .i64 0) fun t48 =>
 zab t48 false H (fun K' => zaf 1 t5 (K' · H)) fun t50 H =>
 zab t48 false H (fun K' => zad false 1 t50 H (K' · H)) fun t51 H =>
 zab t48 false H (fun K' => zah 1 t51 (K' · H)) fun t52 H =>
 zab t48 false H (fun K' => zac .gtr false t52 (.int .i64 6) (K' · H)) fun t53 H =>
 zai t48 (.bool true) t53 fun t54 =>
 zag t54
 (K (.int .i64 (-1)) H)
 (zaf 1 t5 fun t55 =>
 zad false 1 t55 H fun t56 =>
 zah 1 t56 fun t57 =>
 zqJ t0 t4 (.int .i64 0) t56 t57 (.int .i64 0) H K))
 (zaf 0 t5 fun t100 =>
 zad false 1 t100 H fun t101 =>
 zac .neq false t101 (.int .i64 0) fun t102 =>
 zab t102 false H (fun K' => zaf 1 t5 (K' · H)) fun t104 H =>
 zab t102 false H (fun K' => zad false 1 t104 H (K' · H)) fun t105 H =>
 zab t102 false H (fun K' => zah 1 t105 (K' · H)) fun t106 H =>
 zab t102 false H (fun K' => zac .gtr false t106 (.int .i64 0) (K' · H)) fun t107 H =>
 zai t102 (.bool true) t107 fun t108 =>
 zag t108
 (K (.int .i64 (-1)) H)
 (K (.int .i64 0) H))))
theorem zy9 {t0 t4 t7 t56 t57 t58 : AV} {H : zaa} {K : Kt} (Inv : Nat → AV → AV → zaa → Prop) (n : Nat) (h0 : HSc H → Inv n t7 t58 H)
  (round : Rd2 (fun t7 => fun t58 => zhK t0 t4 t7 t56 t57 t58) (fun t7 => fun t58 => fun H Kb15 => zfw t0 t4 t7 t56 t57 t58 H K Kb15) H Inv) : zqJ t0 t4 t7 t56 t57 t58 H K :=
 lp2 (M := zhJ) zza t7 t58 (by kernel_rfl) Inv n h0 round
theorem zzb {t0 t1 t2 : AV} {H : zaa} {K : Kt} (h : HSc H → zcd t0 t1 t2 H K) : ACalls tP zf9 [t0, t1, t2] H K :=
 zal (M := zhJ) Tryz.func40 (c := zlu) (by kernel_rfl) (fun hs => Eq.mpr (by kernel_rfl) (h hs))
def ziA : Nat → List Bool
 | 5 => rl false [0,1,1,1,5,1,9,3,23]
 | _ => []
noncomputable def zmn : Code := Tryz.f87.body.getD .skip
noncomputable def zB2 : List ResultVar := Tryz.f87.results.toList
def ziB (t0 t2 t8 t18 t19 t20 : AV) : List AV := t0 :: ux 1 (t2 :: ux 5 (t8 :: ux 9 (t18 :: t19 :: t20 :: ux 23 [])))
def zB0 : List Bool := ziA 5
noncomputable def zBY : Code := zap [1, 1, 1, 0, 1, 0, 0] zmn
def zBX (K : Kt) : AExit → List AV → zaa → Prop := zaq tP ziA [1, 1, 1, 0, 1, 0] zmn (zax tP zB2 K)
def zrC (t0 t2 t8 t18 t19 t20 : AV) (H : zaa) (K : Kt) : Prop := ALoop tP zBY (zBX K) (ziB t0 t2 t8 t18 t19 t20) H
def zmm (t0 t2 t8 t18 t19 t20 : AV) (H : zaa) (K : Kt) (Kb5 : Lt) : Prop :=
 zac .lss false t20 t19 fun t21 =>
 zag t21
 (zaj 3 t18 t20 fun t23 =>
 zad true 3 t23 H fun t24 =>
 zau [(.int .i64 0), (.int .i64 0), .snil] H fun t10 H =>
 zak 3 t10 t24 H fun H =>
 zae H (fun K' => K' t0 H) fun t26 =>
 zae H (fun K' => zam true 3 t10 H (K' · H)) fun t27 =>
 zae H (fun K' => K' t2 H) fun t28 =>
 zae H (fun K' => K' t20 H) fun t29 =>
 zae H (fun K' => zaj 2 t28 t29 (K' · H)) fun t30 =>
 zae H (fun K' => zam true 2 t30 H (K' · H)) fun t31 =>
 zbr H (fun H K' => ACalls tP zgk [t26, t27, t31] H K') fun t32 =>
 zae H (fun K' => K' t32 H) fun t25 =>
 zae H (fun K' => zat t25 0 (K' · H)) fun t33 =>
 zae H (fun K' => zat t25 1 (K' · H)) fun t34 =>
 zae H (fun K' => K' t33 H) fun t11 =>
 zae H (fun K' => K' t34 H) fun t12 =>
 aUn .not t12 fun t36 =>
 zag t36
 (zas [(.int .i64 0), (.bool false)] (K · H))
 (zac .add false t8 t11 fun t39 =>
 zac .add false t20 (.int .i64 1) fun t40 =>
 Kb5 (ziB t0 t2 t39 t18 t19 t40) H))
 (zac .leq false t8 (.int .i64 6) fun t43 =>
 zas [t8, t43] (K · H))
def zml (t0 t1 t2 : AV) (H : zaa) (K : Kt) : Prop :=
 zah 1 t1 fun t14 =>
 zah 1 t2 fun t16 =>
 zac .neq false t14 t16 fun t17 =>
 zag t17
 (zas [(.int .i64 0), (.bool false)] (K · H))
 (zah 1 t1 fun t19 =>
 zrC t0 t2 (.int .i64 0) t1 t19 (.int .i64 0) H K)
theorem zBZ {t0 t2 t8 t18 t19 t20 : AV} {H : zaa} {K : Kt} (Inv : Nat → AV → AV → zaa → Prop) (n : Nat) (h0 : HSc H → Inv n t8 t20 H)
  (round : Rd2 (fun t8 => fun t20 => ziB t0 t2 t8 t18 t19 t20) (fun t8 => fun t20 => fun H Kb5 => zmm t0 t2 t8 t18 t19 t20 H K Kb5) H Inv) : zrC t0 t2 t8 t18 t19 t20 H K :=
 lp2 (M := ziA) zB0 t8 t20 (by kernel_rfl) Inv n h0 round
theorem zB1 {t0 t1 t2 : AV} {H : zaa} {K : Kt} (h : HSc H → zml t0 t1 t2 H K) : ACalls tP zgq [t0, t1, t2] H K :=
 zal (M := ziA) Tryz.func87 (c := zmn) (by kernel_rfl) (fun hs => Eq.mpr (by kernel_rfl) (h hs))
def ziC : Nat → List Bool
 | 6 => rl false [8,1,1,1,15,3,15]
 | _ => []
noncomputable def zmp : Code := Tryz.f88.body.getD .skip
noncomputable def zB8 : List ResultVar := Tryz.f88.results.toList
def ziD (t8 t10 t26 t27 t28 : AV) : List AV := ux 8 (t8 :: ux 1 (t10 :: ux 15 (t26 :: t27 :: t28 :: ux 15 [])))
def zB6 : List Bool := ziC 6
noncomputable def zB4 : Code := zap [1, 1, 1, 1, 0, 1, 0, 0] zmp
def zB3 (K : Kt) : AExit → List AV → zaa → Prop := zaq tP ziC [1, 1, 1, 1, 0, 1, 0] zmp (zax tP zB8 K)
def ziF (t8 t10 t26 t27 t28 : AV) (H : zaa) (K : Kt) : Prop := ALoop tP zB4 (zB3 K) (ziD t8 t10 t26 t27 t28) H
def zrF (t8 t10 t26 t27 t28 : AV) (H : zaa) (K : Kt) (Kb6 : Lt) : Prop :=
 zac .add false t28 (.int .i64 1) fun t42 =>
 Kb6 (ziD t8 t10 t26 t27 t42) H
def ziE (t8 t10 t26 t27 t28 : AV) (H : zaa) (K : Kt) (Kb6 : Lt) : Prop :=
 zrF t8 t10 t26 t27 t28 H K Kb6
def zmo (t8 t10 t26 t27 t28 : AV) (H : zaa) (K : Kt) (Kb6 : Lt) : Prop :=
 zac .lss false t28 t27 fun t29 =>
 zag t29
 (zaj 1 t26 t28 fun t31 =>
 zad false 1 t31 H fun t32 =>
 aUn .not t32 fun t34 =>
 zag t34
 (zaj 3 t8 t28 fun t38 =>
 zad true 3 t38 H fun t39 =>
 zaw 3 [(.int .i64 0), (.int .i64 0), .snil] 1 [(0, t39)] fun t40 =>
 zar zaK 3 40 t10 t40 H fun t41 H =>
 ziE t8 t41 t26 t27 t28 H K Kb6)
 (ziE t8 t10 t26 t27 t28 H K Kb6))
 (zas [t10, (.bool true)] (K · H))
def zrE (t0 t1 t2 : AV) (H : zaa) (K : Kt) : Prop :=
 zao t1 H fun t4 H =>
 zad true 3 t4 H fun t15 =>
 ACalls tP ze9 [t0, t15, t2] H fun t17 H =>
 zat t17 0 fun t18 =>
 zat t17 1 fun t19 =>
 aUn .not t19 fun t21 =>
 zag t21
 (zas [.snil, (.bool false)] (K · H))
 (zaf 1 t4 fun t23 =>
 zad false 1 t23 H fun t24 =>
 ACalls tP zdl [t0, t24, t2] H fun t26 H =>
 zah 1 t26 fun t27 =>
 ziF t18 .snil t26 t27 (.int .i64 0) H K)
theorem zB5 {t8 t10 t26 t27 t28 : AV} {H : zaa} {K : Kt} (Inv : Nat → AV → AV → zaa → Prop) (n : Nat) (h0 : HSc H → Inv n t10 t28 H)
  (round : Rd2 (fun t10 => fun t28 => ziD t8 t10 t26 t27 t28) (fun t10 => fun t28 => fun H Kb6 => zmo t8 t10 t26 t27 t28 H K Kb6) H Inv) : ziF t8 t10 t26 t27 t28 H K :=
 lp2 (M := ziC) zB6 t10 t28 (by kernel_rfl) Inv n h0 round
theorem zB7 {t0 t1 t2 : AV} {H : zaa} {K : Kt} (h : HSc H → zrE t0 t1 t2 H K) : ACalls tP zjY [t0, t1, t2] H K :=
 zal (M := ziC) Tryz.func88 (c := zmp) (by kernel_rfl) (fun hs => Eq.mpr (by kernel_rfl) (h hs))
def zii : Nat → List Bool
 | 7 => rl false [8,1,4,1,19,3,12]
 | _ => []
noncomputable def zl7 : Code := Tryz.f66.body.getD .skip
noncomputable def zAW : List ResultVar := Tryz.f66.results.toList
def zij (t8 t13 t33 t34 t35 : AV) : List AV := ux 8 (t8 :: ux 4 (t13 :: ux 19 (t33 :: t34 :: t35 :: ux 12 [])))
def zAU : List Bool := zii 7
noncomputable def zAS : Code := zap [1, 1, 1, 1, 1, 0, 1, 0, 0] zl7
def zAR (K : Kt) : AExit → List AV → zaa → Prop := zaq tP zii [1, 1, 1, 1, 1, 0, 1, 0] zl7 (zax tP zAW K)
def zik (t8 t13 t33 t34 t35 : AV) (H : zaa) (K : Kt) : Prop := ALoop tP zAS (zAR K) (zij t8 t13 t33 t34 t35) H
def zl6 (t8 t13 t33 t34 t35 : AV) (H : zaa) (K : Kt) (Kb7 : Lt) : Prop :=
 zac .lss false t35 t34 fun t36 =>
 zag t36
 (zaj 1 t33 t35 fun t37 =>
 zad false 1 t37 H fun t38 =>
 zaj 3 t8 t38 fun t42 =>
 zad true 3 t42 H fun t43 =>
 zaw 3 [(.int .i64 0), (.int .i64 0), .snil] 1 [(0, t43)] fun t44 =>
 zar zaK 3 40 t13 t44 H fun t45 H =>
 zac .add false t35 (.int .i64 1) fun t46 =>
 Kb7 (zij t8 t45 t33 t34 t46) H)
 (zas [t13, (.bool true)] (K · H))
def zrj (t0 t1 t2 : AV) (H : zaa) (K : Kt) : Prop :=
 zao t1 H fun t4 H =>
 zad true 3 t4 H fun t18 =>
 ACalls tP zf2 [t0, t18, t2] H fun t20 H =>
 zat t20 0 fun t21 =>
 zat t20 1 fun t22 =>
 aUn .not t22 fun t24 =>
 zag t24
 (zas [.snil, (.bool false)] (K · H))
 (zad true 3 t4 H fun t27 =>
 ACalls tP zjV [t0, t27, t2] H fun t29 H =>
 zat t29 0 fun t30 =>
 zat t29 1 fun t31 =>
 zat t29 2 fun t32 =>
 zah 1 t30 fun t34 =>
 zik t21 .snil t30 t34 (.int .i64 0) H K)
theorem zAT {t8 t13 t33 t34 t35 : AV} {H : zaa} {K : Kt} (Inv : Nat → AV → AV → zaa → Prop) (n : Nat) (h0 : HSc H → Inv n t13 t35 H)
  (round : Rd2 (fun t13 => fun t35 => zij t8 t13 t33 t34 t35) (fun t13 => fun t35 => fun H Kb7 => zl6 t8 t13 t33 t34 t35 H K Kb7) H Inv) : zik t8 t13 t33 t34 t35 H K :=
 lp2 (M := zii) zAU t13 t35 (by kernel_rfl) Inv n h0 round
theorem zAV {t0 t1 t2 : AV} {H : zaa} {K : Kt} (h : HSc H → zrj t0 t1 t2 H K) : ACalls tP zjU [t0, t1, t2] H K :=
 zal (M := zii) Tryz.func66 (c := zl7) (by kernel_rfl) (fun hs => Eq.mpr (by kernel_rfl) (h hs))
def zip : Nat → List Bool
 | 6 => rl false [11,2,15,3,16]
 | _ => []
noncomputable def zmc : Code := Tryz.f69.body.getD .skip
noncomputable def zBg : List ResultVar := Tryz.f69.results.toList
def zir (t11 t12 t28 t29 t30 : AV) : List AV := ux 11 (t11 :: t12 :: ux 15 (t28 :: t29 :: t30 :: ux 16 []))
def zBe : List Bool := zip 6
noncomputable def zBc : Code := zap [1, 1, 1, 0, 1, 0, 0] zmc
def zBb (K : Kt) : AExit → List AV → zaa → Prop := zaq tP zip [1, 1, 1, 0, 1, 0] zmc (zax tP zBg K)
def zit (t11 t12 t28 t29 t30 : AV) (H : zaa) (K : Kt) : Prop := ALoop tP zBc (zBb K) (zir t11 t12 t28 t29 t30) H
def zro (t11 t12 t28 t29 t30 : AV) (H : zaa) (K : Kt) (Kb6 : Lt) : Prop :=
 zac .add false t30 (.int .i64 1) fun t44 =>
 Kb6 (zir t11 t12 t28 t29 t44) H
def zis (t11 t12 t28 t29 t30 : AV) (H : zaa) (K : Kt) (Kb6 : Lt) : Prop :=
 zro t11 t12 t28 t29 t30 H K Kb6
def ziq (t11 t12 t28 t29 t30 : AV) (H : zaa) (K : Kt) (Kb6 : Lt) : Prop :=
 zac .lss false t30 t29 fun t31 =>
 zag t31
 (zaj 1 t28 t30 fun t33 =>
 zad false 1 t33 H fun t34 =>
 zag t34
 (zaw 1 [(.int .i64 0)] 1 [(0, t30)] fun t38 =>
 zar zaS 1 8 t12 t38 H fun t39 H =>
 zis t11 t39 t28 t29 t30 H K Kb6)
 (zaw 1 [(.int .i64 0)] 1 [(0, t30)] fun t42 =>
 zar zaS 1 8 t11 t42 H fun t43 H =>
 zis t43 t12 t28 t29 t30 H K Kb6))
 (zas [t11, t12, (.bool true)] (K · H))
def zrn (t0 t1 t2 : AV) (H : zaa) (K : Kt) : Prop :=
 zao t1 H fun t4 H =>
 zad true 3 t4 H fun t17 =>
 ACalls tP zf2 [t0, t17, t2] H fun t19 H =>
 zat t19 0 fun t20 =>
 zat t19 1 fun t21 =>
 aUn .not t21 fun t23 =>
 zag t23
 (zas [.snil, .snil, (.bool false)] (K · H))
 (zaf 1 t4 fun t25 =>
 zad false 1 t25 H fun t26 =>
 ACalls tP zfh [t0, t26, t2] H fun t28 H =>
 zah 1 t28 fun t29 =>
 zit .snil .snil t28 t29 (.int .i64 0) H K)
theorem zBd {t11 t12 t28 t29 t30 : AV} {H : zaa} {K : Kt} (Inv : Nat → AV → AV → AV → zaa → Prop) (n : Nat) (h0 : HSc H → Inv n t11 t12 t30 H)
  (round : Rd3 (fun t11 => fun t12 => fun t30 => zir t11 t12 t28 t29 t30) (fun t11 => fun t12 => fun t30 => fun H Kb6 => ziq t11 t12 t28 t29 t30 H K Kb6) H Inv) : zit t11 t12 t28 t29 t30 H K :=
 lp3 (M := zip) zBe t11 t12 t30 (by kernel_rfl) Inv n h0 round
theorem zBf {t0 t1 t2 : AV} {H : zaa} {K : Kt} (h : HSc H → zrn t0 t1 t2 H K) : ACalls tP zjV [t0, t1, t2] H K :=
 zal (M := zip) Tryz.func69 (c := zmc) (by kernel_rfl) (fun hs => Eq.mpr (by kernel_rfl) (h hs))
def zig : Nat → List Bool
 | 5 => rl false [0,3,4,1,8,2,25]
 | _ => []
noncomputable def zl5 : Code := Tryz.f65.body.getD .skip
noncomputable def zAQ : List ResultVar := Tryz.f65.results.toList
def zih (t0 t1 t2 t7 t16 t17 : AV) : List AV := t0 :: t1 :: t2 :: ux 4 (t7 :: ux 8 (t16 :: t17 :: ux 25 []))
def zAO : List Bool := zig 5
noncomputable def zAM : Code := zap [1, 1, 1, 0, 1, 0, 0] zl5
def zAL (K : Kt) : AExit → List AV → zaa → Prop := zaq tP zig [1, 1, 1, 0, 1, 0] zl5 (zax tP zAQ K)
def zrh (t0 t1 t2 t7 t16 t17 : AV) (H : zaa) (K : Kt) : Prop := ALoop tP zAM (zAL K) (zih t0 t1 t2 t7 t16 t17) H
def zl4 (t0 t1 t2 t7 t16 t17 : AV) (H : zaa) (K : Kt) (Kb5 : Lt) : Prop :=
 zac .lss false t17 t16 fun t18 =>
 zag t18
 (zae H (fun K' => K' t0 H) fun t20 =>
 zae H (fun K' => K' t1 H) fun t21 =>
 zae H (fun K' => K' t17 H) fun t22 =>
 zae H (fun K' => zaj 3 t21 t22 (K' · H)) fun t23 =>
 zae H (fun K' => zam true 3 t23 H (K' · H)) fun t24 =>
 zae H (fun K' => K' t2 H) fun t25 =>
 zae H (fun K' => K' t17 H) fun t26 =>
 zae H (fun K' => zaj 2 t25 t26 (K' · H)) fun t27 =>
 zae H (fun K' => zam true 2 t27 H (K' · H)) fun t28 =>
 zbr H (fun H K' => ACalls tP zf9 [t20, t24, t28] H K') fun t29 =>
 zae H (fun K' => K' t29 H) fun t9 =>
 zac .lss false t9 (.int .i64 0) fun t31 =>
 zab t31 false H (fun K' => K' t7 H) fun t33 H =>
 zab t31 false H (fun K' => K' t9 H) fun t34 H =>
 zab t31 false H (fun K' => zac .add false t33 t34 (K' · H)) fun t35 H =>
 zab t31 false H (fun K' => zac .gtr false t35 (.int .i64 6) (K' · H)) fun t36 H =>
 zai t31 (.bool true) t36 fun t37 =>
 zag t37
 (K (.int .i64 (-1)) H)
 (zac .add false t7 t9 fun t40 =>
 zac .add false t17 (.int .i64 1) fun t41 =>
 Kb5 (zih t0 t1 t2 t40 t16 t41) H))
 (K t7 H)
def zl3 (t0 t1 t2 : AV) (H : zaa) (K : Kt) : Prop :=
 zah 1 t1 fun t11 =>
 zah 1 t2 fun t13 =>
 zac .neq false t11 t13 fun t14 =>
 zag t14
 (K (.int .i64 (-1)) H)
 (zah 1 t1 fun t16 =>
 zrh t0 t1 t2 (.int .i64 0) t16 (.int .i64 0) H K)
theorem zAN {t0 t1 t2 t7 t16 t17 : AV} {H : zaa} {K : Kt} (Inv : Nat → AV → AV → zaa → Prop) (n : Nat) (h0 : HSc H → Inv n t7 t17 H)
  (round : Rd2 (fun t7 => fun t17 => zih t0 t1 t2 t7 t16 t17) (fun t7 => fun t17 => fun H Kb5 => zl4 t0 t1 t2 t7 t16 t17 H K Kb5) H Inv) : zrh t0 t1 t2 t7 t16 t17 H K :=
 lp2 (M := zig) zAO t7 t17 (by kernel_rfl) Inv n h0 round
theorem zAP {t0 t1 t2 : AV} {H : zaa} {K : Kt} (h : HSc H → zl3 t0 t1 t2 H K) : ACalls tP zgi [t0, t1, t2] H K :=
 zal (M := zig) Tryz.func65 (c := zl5) (by kernel_rfl) (fun hs => Eq.mpr (by kernel_rfl) (h hs))
end Go.Proofs.YtacebbdfgbfgiaaGreat

namespace Go.Proofs.YtacebbdfgbfgiaaGreat
open Go Go.Abs
set_option maxRecDepth 100000
def ziG : Nat → List Bool
 | 5 => rl false [0,2,5,1,32,3,16]
 | _ => []
noncomputable def zmr : Code := Tryz.f89.body.getD .skip
noncomputable def zCf : List ResultVar := Tryz.f89.results.toList
def ziH (t0 t1 t7 t40 t41 t42 : AV) : List AV := t0 :: t1 :: ux 5 (t7 :: ux 32 (t40 :: t41 :: t42 :: ux 16 []))
def zCd : List Bool := ziG 5
noncomputable def zCb : Code := zap [1, 1, 1, 0, 1, 0, 0] zmr
def zCa (K : Kt) : AExit → List AV → zaa → Prop := zaq tP ziG [1, 1, 1, 0, 1, 0] zmr (zax tP zCf K)
def ziI (t0 t1 t7 t40 t41 t42 : AV) (H : zaa) (K : Kt) : Prop := ALoop tP zCb (zCa K) (ziH t0 t1 t7 t40 t41 t42) H
def zmq (t0 t1 t7 t40 t41 t42 : AV) (H : zaa) (K : Kt) (Kb5 : Lt) : Prop :=
 zac .lss false t42 t41 fun t43 =>
 zag t43
 (zaj 3 t40 t42 fun t44 =>
 zad true 3 t44 H fun t45 =>
 zau [(.int .i64 0), (.int .i64 0), .snil] H fun t9 H =>
 zak 3 t9 t45 H fun H =>
 zae H (fun K' => K' t7 H) fun t46 =>
 zae H (fun K' => zam true 3 t9 H (K' · H)) fun t47 =>
 zae H (fun K' => K' t1 H) fun t48 =>
 zae H (fun K' => K' t0 H) fun t49 =>
 zae H (fun K' => K' t1 H) fun t50 =>
 zae H (fun K' => zaj 3 t49 t50 (K' · H)) fun t51 =>
 zae H (fun K' => zaf 1 t51 (K' · H)) fun t52 =>
 zae H (fun K' => zam false 1 t52 H (K' · H)) fun t53 =>
 zbr H (fun H K' => ACalls tP zgo [t47, t48, t53] H K') fun t54 =>
 zae H (fun K' => zaw 1 [(.bool false)] 1 [(0, t54)] (K' · H)) fun t55 =>
 zar zeb 1 1 t46 t55 H fun t56 H =>
 zae H (fun K' => K' t56 H) fun t7 =>
 zac .add false t42 (.int .i64 1) fun t57 =>
 Kb5 (ziH t0 t1 t7 t40 t41 t57) H)
 (K t7 H)
def zrG (t0 t1 t2 : AV) (H : zaa) (K : Kt) : Prop :=
 zac .lss false t1 (.int .i64 0) fun t11 =>
 zab t11 false H (fun K' => K' t1 H) fun t13 H =>
 zab t11 false H (fun K' => K' t0 H) fun t14 H =>
 zab t11 false H (fun K' => zah 1 t14 (K' · H)) fun t15 H =>
 zab t11 false H (fun K' => zac .geq false t13 t15 (K' · H)) fun t16 H =>
 zai t11 (.bool true) t16 fun t17 =>
 zab t17 false H (fun K' => K' t2 H) fun t19 H =>
 zab t17 false H (fun K' => zac .lss false t19 (.int .i64 0) (K' · H)) fun t20 H =>
 zai t17 (.bool true) t20 fun t21 =>
 zab t21 false H (fun K' => K' t2 H) fun t23 H =>
 zab t21 false H (fun K' => K' t0 H) fun t24 H =>
 zab t21 false H (fun K' => K' t1 H) fun t25 H =>
 zab t21 false H (fun K' => zaj 3 t24 t25 (K' · H)) fun t26 H =>
 zab t21 false H (fun K' => zaf 2 t26 (K' · H)) fun t27 H =>
 zab t21 false H (fun K' => zad false 1 t27 H (K' · H)) fun t28 H =>
 zab t21 false H (fun K' => zah 1 t28 (K' · H)) fun t29 H =>
 zab t21 false H (fun K' => zac .geq false t23 t29 (K' · H)) fun t30 H =>
 zai t21 (.bool true) t30 fun t31 =>
 zag t31
 (K .snil H)
 (zaj 3 t0 t1 fun t34 =>
 zaf 2 t34 fun t35 =>
 zad false 1 t35 H fun t36 =>
 zaj 2 t36 t2 fun t38 =>
 zaf 1 t38 fun t39 =>
 zad false 1 t39 H fun t40 =>
 zah 1 t40 fun t41 =>
 ziI t0 t1 .snil t40 t41 (.int .i64 0) H K)
theorem zCc {t0 t1 t7 t40 t41 t42 : AV} {H : zaa} {K : Kt} (Inv : Nat → AV → AV → zaa → Prop) (n : Nat) (h0 : HSc H → Inv n t7 t42 H)
  (round : Rd2 (fun t7 => fun t42 => ziH t0 t1 t7 t40 t41 t42) (fun t7 => fun t42 => fun H Kb5 => zmq t0 t1 t7 t40 t41 t42 H K Kb5) H Inv) : ziI t0 t1 t7 t40 t41 t42 H K :=
 lp2 (M := ziG) zCd t7 t42 (by kernel_rfl) Inv n h0 round
theorem zCe {t0 t1 t2 : AV} {H : zaa} {K : Kt} (h : HSc H → zrG t0 t1 t2 H K) : ACalls tP zfh [t0, t1, t2] H K :=
 zal (M := ziG) Tryz.func89 (c := zmr) (by kernel_rfl) (fun hs => Eq.mpr (by kernel_rfl) (h hs))
end Go.Proofs.YtacebbdfgbfgiaaGreat

namespace Go.Proofs.YtacebbdfgbfgiaaGreat
open Go Go.Abs
set_option maxRecDepth 8000
def zbd (l : List Bool) : List (List AV) := l.map fun b => [.bool b]
theorem zCg (data : List Dat) (d : Nat) (c : Nat) (hd : d < data.length) (hc : c < (data[d]).cons.length) (hl : data.length ≤ 1000000) (hcl : (data[d]).cons.length ≤ 1000000) (hal : ((data[d]).cons[c]).args.length ≤ 1000000)
  (hb : ∀ x ∈ ((data[d]).cons[c]).args, x.nodes ≤ 1000000) (H : zaa) (K : Kt)
  (hK : K (.sl (zbd (zco d data[d] (data[d]).cons[c])) .none) H) :
  ACalls tP zfh [.sl (data.map Dat.cs) .none, .int .i64 d, .int .i64 c] H K := by
 refine ACalls.out (zCe fun hs => ?_)
 have e1 : (data.map Dat.cs)[d]? = some (data[d]).cs := by simp [hd]
 have e2 : ((data[d]).cons.map Con.cs)[c]? = some ((data[d]).cons[c]).cs := by simp [hc]
 generalize hD : data[d] = D at *
 generalize hA : D.cons[c] = C at *
 have h1 : ¬ (d : Int) < 0 := by omega
 have h2 : ¬ (data.length : Int) ≤ d := by omega
 have h3 : ¬ (c : Int) < 0 := by omega
 have h4 : ¬ (D.cons.length : Int) ≤ c := by omega
 simp [zrG, h1, h2, h3, h4, e1, e2, Dat.cs, Con.cs, hd, hD, hc, hA]
 unfold ziI
 refine ALoop.own 7 zeb 1 rfl ?_
 show ziI (.sl (data.map Dat.cs) .none) (.int .i64 d) (.sl [] (.own H.length)) (.sl (VT.css C.args) .none) (.int .i64 C.args.length) (.int .i64 0) (H ++ [.perm zeb 1 0]) (Out H.length K)
 have hperm : ∀ n, HSc (H ++ [.perm zeb 1 n]) := fun n => hs.append rfl
 refine zCc (Inv := fun q t7 t42 H' => ∃ i : Nat, i ≤ C.args.length ∧ q = C.args.length - i ∧ t42 = .int .i64 i ∧ t7 = .sl (zbd ((zco d D C).take i)) (.own H.length) ∧ H' = H ++ [.perm zeb 1 i]) C.args.length ?_ ?_
 ·intro _; exact ⟨0, by omega, by omega, rfl, rfl, rfl⟩
 ·rintro q t7 t42 H' ⟨i, hi, rfl, rfl, rfl, rfl⟩ hsc hlen hsF Kb hKb
  have hrl : (zco d D C).length = C.args.length := by simp [zco]
  by_cases hlt : i < C.args.length
  ·obtain ⟨x, y, z, hvx, hx, hy, hz⟩ := zbf C.args[i]
   have hnb := hb _ (List.getElem_mem hlt)
   simp [zmq, hlt, hvx, Nat.add_assoc, e1, hd, hD, Dat.cs]
   rw [← hvx]
   refine ⟨⟨hx, hy, hz⟩, ?_⟩
   refine zbL (.bool (zbs d D.vars C.args[i])) (fun J => zmR _ _ _ hnb _ _ ⟨rfl, rfl⟩) ?_
   simp [zaw, zbp, zaD, AV.pd, zar, zaW, zaF, zbd]
   have hmin : min i (zco d D C).length = i := by omega
   rw [hmin]
   refine ⟨rfl, ⟨by omega, by omega⟩, ?_⟩
   rw [zan (by omega) (by omega)]
   have hst : List.take i (List.map (fun b => [AV.bool b]) (zco d D C)) ++ [[AV.bool (zbs (↑d) D.vars C.args[i])]] = zbd ((zco d D C).take (i + 1)) := by
    rw [List.take_succ_eq_append_getElem (by omega)]
    simp [zbd, zco]
   rw [hst]
   refine hKb _ _ ⟨C.args.length - (i + 1), by omega, Back.at (J := [.cells C.args[i].cs]) (H2 := H ++ [.perm zeb 1 (i + 1)]) (by simp) (by simp) (hperm _) ?_ ⟨_, _, rfl, i + 1, by omega, rfl, by simp, rfl, rfl⟩⟩
   simp [ziH, AV.sc, AV.scV, AV.scA, AV.scB]
  ·obtain rfl : i = C.args.length := by omega
   rw [List.take_of_length_le (by omega)]
   simp [zmq]
   exact Out.at rfl (Nat.le_refl _) hs (.atom (.sl _ _)) rfl (by simp [zbd, AV.scV, AV.scA, AV.scB]) hK
end Go.Proofs.YtacebbdfgbfgiaaGreat
