import Derived.Test.YtacebbdfgbfgiaaGreatKY15
import Derived.Test.YtacebbdfgbfgiaaGreatKY4
set_option linter.unusedSimpArgs false
set_option linter.unusedVariables false
namespace Go.Proofs.YtacebbdfgbfgiaaGreat
open Go Go.Abs
set_option maxRecDepth 8000
def zbq (l : List (List UInt8)) : List (List UInt8 × AV) := l.map fun s => (s, .bool true)
theorem zdT (s : List UInt8) : ∀ l : List (List UInt8), (zbC (zbq l) s).getD (.bool false) = .bool (decide (s ∈ l))
 | [] => by simp [zbq, zbC]
 | a :: l => by
  have := zdT s l
  cases h : a == s with
  | true =>
   have h' : a = s := by simpa using h
   simp [zbq, zbC, h, h']
  | false =>
   have h' : a ≠ s := by simpa using h
   have h'' : s ≠ a := fun e => h' e.symm
   simp only [zbq, List.map_cons, zbC, h] at this ⊢
   rw [this]; simp [h'']
theorem zkA (s : List UInt8) : ∀ l : List (List UInt8), s ∉ l → zcr (zbq l) s (.bool true) = zbq (l ++ [s])
 | [], _ => rfl
 | a :: l, h => by
  have h1 : (a == s) = false := by simp at h; simpa using fun e => h.1 e.symm
  have := zkA s l (by simp at h; exact h.2)
  simp only [zbq, List.map_cons, zcr, h1, List.cons_append] at this ⊢
  rw [this]
theorem zu4 (m : Nat) (l : List (List UInt8)) : (AB.map (zbq l)).sc m = true := by simp [AB.sc, zbq, AV.scV]
def zaW (data : List Dat) : List (List UInt8) := data.map Dat.name
def zaB (data : List Dat) : List (List UInt8) := data.flatMap fun D => D.cons.map Con.name
def zcp (data : List Dat) (d : Nat) (vars : Int) (c : Con) : Bool := zca c.name && (decide (c.args.length ≤ 6) && c.args.all (zcG data d vars))
def zbV (data : List Dat) (d : Nat) (D : Dat) : Bool := zca D.name && decide (0 ≤ D.vars) && decide (D.vars ≤ 6) && decide (1 ≤ D.cons.length) && decide (D.cons.length ≤ 8) && D.cons.all (zcp data d D.vars)
def zb3 (data : List Dat) : List Dat → Nat → Bool
 | [], _ => true
 | D :: l, d => zbV data d D && zb3 data l (d + 1)
def zbb (data : List Dat) : Bool := decide (data.length ≤ 12) && zb3 data data 0 && !zbH (zaW data) && !zbH (zaB data)
theorem zpd {A R : List (List UInt8)} {s : List UInt8} (h : s ∈ A) : zbH (A ++ s :: R) = true := by
 simp only [zbH, Bool.not_eq_true', decide_eq_false_iff_not, List.nodup_append]
 rintro ⟨_, _, h3⟩
 exact h3 s h s (by simp) rfl
theorem zkv {l : List (List UInt8)} (h : l.Nodup) : zbH l = false := by simp [zbH, h]
theorem zoE {A : List (List UInt8)} {s : List UInt8} (h : A.Nodup) (hs : s ∉ A) : (A ++ [s]).Nodup := by
 rw [List.nodup_append]
 refine ⟨h, by simp, ?_⟩
 intro a ha b hb
 simp at hb; subst hb
 exact fun e => hs (e ▸ ha)
def zi9 (data : List Dat) : Prop := ∀ D ∈ data, D.cons.length ≤ 1000000 ∧ ∀ c ∈ D.cons, c.args.length ≤ 1000000 ∧ ∀ x ∈ c.args, x.nodes ≤ 1000000
theorem zCQ (data : List Dat) (hB : zi9 data) (hl : data.length ≤ 1000000) (H : zaa) (K : AV → zaa → Prop) (hK : K (.bool (zbb data)) H) : ACalls tP zkb [.sl (data.map Dat.cs) .none] H K := by
 refine ACalls.out (zCO fun hs => ?_)
 have hO : ∀ J, Out H.length K (.bool (zbb data)) (H ++ J) := fun J => Out.bool rfl (Nat.le_refl _) hs hK
 by_cases h12 : data.length ≤ 12
 ·have h12' : ¬ (12 : Int) < data.length := by omega
  have h12'' : ¬ 12 < data.length := by omega
  have hD0 : zb3 data data 0 = false → ∀ J, Out H.length K (.bool false) (H ++ J) := fun h J => by
   have := hO J; rwa [show zbb data = false by simp [zbb, h]] at this
  have hD1 : zbH (zaW data) = true → ∀ J, Out H.length K (.bool false) (H ++ J) := fun h J => by
   have := hO J; rwa [show zbb data = false by simp [zbb, h]] at this
  have hD2 : zbH (zaB data) = true → ∀ J, Out H.length K (.bool false) (H ++ J) := fun h J => by
   have := hO J; rwa [show zbb data = false by simp [zbb, h]] at this
  simp [zmM, h12', h12'']
  refine zCM (Inv := fun q t15 H' => ∃ i : Nat, i ≤ data.length ∧ q = data.length - i ∧ t15 = .int .i64 i ∧ zb3 data (data.drop i) i = zb3 data data 0 ∧ (zaW (data.take i)).Nodup ∧ (zaB (data.take i)).Nodup ∧ H' = H ++ [.map (zbq (zaW (data.take i))), .map (zbq (zaB (data.take i)))]) data.length ?_ ?_
  ·intro _; exact ⟨0, by omega, by omega, rfl, by simp, by simp [zaW], by simp [zaB], by simp [zaW, zaB, zbq]⟩
  ·rintro q t15 H' ⟨i, hi, rfl, rfl, ho, hdn, hcn, rfl⟩ hsc hlen hsF Kb hKb
   by_cases hlt : i < data.length
   ·have e1 : (data.map Dat.cs)[i]? = some (data[i]).cs := by simp [hlt]
    obtain ⟨hB1, hB2⟩ := hB _ (List.getElem_mem hlt)
    have hargs := fun c hc => zwz data i c hlt hc hl hB1 (hB2 _ (List.getElem_mem hc)).1 (hB2 _ (List.getElem_mem hc)).2
    rw [List.drop_eq_getElem_cons hlt, zb3] at ho
    have htk : data.take (i + 1) = data.take i ++ [data[i]] := by rw [List.take_append_getElem hlt]
    have hsplit : data = data.take i ++ data[i] :: data.drop (i + 1) := by rw [List.getElem_cons_drop, List.take_append_drop]
    generalize hD : data[i] = D at *
    have hbad : zbV data i D = false → zb3 data data 0 = false := fun h => by rw [← ho, h, Bool.false_and]
    have hno : ∀ J, zbV data i D = false → Out H.length K (.bool false) (H ++ [.map (zbq (zaW (data.take i))), .map (zbq (zaB (data.take i)))] ++ J) := fun J h => by
     rw [List.append_assoc]; exact hD0 (hbad h) _
    simp [zmO, hlt, e1, hD, Dat.cs]
    refine zqf _ _ _ ?_
    cases hu : zca D.name with
    | false => simp; exact hD0 (hbad (by simp [zbV, hu])) _
    | true =>
    by_cases hmem : D.name ∈ zaW (data.take i)
    ·simp [hlt, e1, hD, Dat.cs, zdT, hmem]
     refine hD1 ?_ _
     rw [hsplit]; simp only [zaW, List.map_append, List.map_cons]
     exact zpd hmem
    by_cases hv0 : D.vars < 0
    ·simp [hlt, e1, hD, Dat.cs, zdT, hmem, hv0]
     exact hD0 (hbad (by simp [zbV, show ¬ 0 ≤ D.vars by omega])) _
    by_cases hv6 : 6 < D.vars
    ·simp [hlt, e1, hD, Dat.cs, zdT, hmem, hv0, hv6]
     exact hD0 (hbad (by simp [zbV, show ¬ D.vars ≤ 6 by omega])) _
    simp [hlt, e1, hD, Dat.cs, zdT, hmem, hv0, hv6, zkA _ _ hmem]
    by_cases hc1 : D.cons.length < 1
    ·have hc1' : (D.cons.length : Int) < 1 := by omega
     simp [hc1']
     exact hD0 (hbad (by simp [zbV, show ¬ 1 ≤ D.cons.length by omega])) _
    have hc1' : ¬ (D.cons.length : Int) < 1 := by omega
    by_cases hc8 : 8 < D.cons.length
    ·have hc8' : (8 : Int) < D.cons.length := by omega
     simp [hlt, e1, hD, Dat.cs, hc1', hc8', hc8]
     exact hD0 (hbad (by simp [zbV, show ¬ D.cons.length ≤ 8 by omega])) _
    have hc8' : ¬ (8 : Int) < D.cons.length := by omega
    have hdat : zbV data i D = D.cons.all (zcp data i D.vars) := by
     simp [zbV, hu, show 0 ≤ D.vars by omega, show D.vars ≤ 6 by omega, show 1 ≤ D.cons.length by omega, show D.cons.length ≤ 8 by omega]
    simp [hlt, e1, hD, Dat.cs, hc1', hc8', hc8]
    have hdn' : (zaW (data.take (i + 1))).Nodup := by
     rw [htk]; simp only [zaW, List.map_append, List.map_cons, List.map_nil]; exact zoE hdn hmem
    have hde : zaW (data.take i) ++ [D.name] = zaW (data.take (i + 1)) := by rw [htk]; simp [zaW]
    rw [hde]
    refine zCL (Inv := fun q t78 H' => ∃ j : Nat, j ≤ D.cons.length ∧ q = D.cons.length - j ∧ t78 = .int .i64 j ∧ (D.cons.drop j).all (zcp data i D.vars) = D.cons.all (zcp data i D.vars) ∧ (zaB (data.take i) ++ (D.cons.take j).map Con.name).Nodup ∧ H' = H ++ [.map (zbq (zaW (data.take (i + 1)))), .map (zbq (zaB (data.take i) ++ (D.cons.take j).map Con.name))]) D.cons.length ?_ ?_
    ·intro _; exact ⟨0, by omega, by omega, rfl, by simp, by simpa using hcn, by simp⟩
    ·rintro q t78 H' ⟨j, hj, rfl, rfl, hoc, hcj, rfl⟩ hsc1 hlen1 hsF1 Kb1 hKb1
     have hscH : ∀ A B, HSc (H ++ [.map (zbq A), .map (zbq B)]) := fun A B => hs.append (by simp [zu4])
     by_cases hjl : j < D.cons.length
     ·have e2 : (D.cons.map Con.cs)[j]? = some (D.cons[j]).cs := by simp [hjl]
      have hargs' := hargs j hjl
      rw [List.drop_eq_getElem_cons hjl, List.all_cons] at hoc
      have htj : zaB (data.take i) ++ (D.cons.take (j + 1)).map Con.name = (zaB (data.take i) ++ (D.cons.take j).map Con.name) ++ [(D.cons[j]).name] := by
       rw [← List.take_append_getElem hjl, List.map_append, List.append_assoc]; rfl
      have hcs : zaB data = (zaB (data.take i) ++ (D.cons.take j).map Con.name) ++ (D.cons[j]).name :: ((D.cons.drop (j + 1)).map Con.name ++ zaB (data.drop (i + 1))) := by
       have h1 : D.cons.map Con.name = (D.cons.take j).map Con.name ++ (D.cons[j]).name :: (D.cons.drop (j + 1)).map Con.name := by
        rw [← List.map_cons (f := Con.name), List.getElem_cons_drop, ← List.map_append, List.take_append_drop]
       conv => lhs; rw [hsplit]
       simp only [zaB, List.flatMap_append, List.flatMap_cons, List.append_assoc, h1, List.cons_append]
      generalize hC : D.cons[j] = C at *
      have hbad' : zcp data i D.vars C = false → zb3 data data 0 = false := fun h => hbad (by rw [hdat, ← hoc, h, Bool.false_and])
      generalize hA : zaB (data.take i) ++ (D.cons.take j).map Con.name = A at *
      simp only [zmN]
      simp [hjl, hC, Con.cs, Nat.add_assoc]
      refine zqf _ _ _ ?_
      cases hu2 : zca C.name with
      | false => simp; exact hD0 (hbad' (by simp [zcp, hu2])) _
      | true =>
      by_cases hm2 : C.name ∈ A
      ·simp [zdT, hm2]
       exact hD2 (by rw [hcs]; exact zpd hm2) _
      ·simp [zdT, hm2]
       refine hargs' _ _ ?_
       have hce : zcp data i D.vars C = (decide (C.args.length ≤ 6) && C.args.all (zcG data i D.vars)) := by simp [zcp, hu2]
       rw [← hce]
       cases hco : zcp data i D.vars C with
       | false => simp; exact hD0 (hbad' hco) _
       | true =>
        rw [hco, Bool.true_and] at hoc
        simp [zkA _ _ hm2]
        rw [zal (by omega) (by omega)]
        refine hKb1 _ _ ⟨D.cons.length - (j + 1), by omega, Back.at (J := [.cells [.str C.name, .sl (VT.css C.args) .none]]) (H2 := H ++ [.map (zbq (zaW (data.take (i + 1)))), .map (zbq (A ++ [C.name]))]) (by simp) (by simp) (hscH _ _) ?_ ⟨_, rfl, j + 1, by omega, rfl, by simp, hoc, ?_, ?_⟩⟩
        ·simp [ziX, AV.sc, AV.scV, AV.scA, AV.scB]
        ·rw [htj]; exact zoE hcj hm2
        ·rw [htj]
     ·obtain rfl : j = D.cons.length := by omega
      rw [List.drop_length, List.all_nil] at hoc
      rw [List.take_length] at *
      simp [zmN]
      rw [zal (by omega) (by omega)]
      have hce : zaB (data.take i) ++ D.cons.map Con.name = zaB (data.take (i + 1)) := by rw [htk]; simp [zaB]
      rw [hce] at hcj ⊢
      refine hKb _ _ ⟨data.length - (i + 1), by omega, Back.at (J := []) (by simp) (by simp) (hscH _ _) ?_ ⟨_, rfl, i + 1, by omega, rfl, by simp, ?_, hdn', hcj, rfl⟩⟩
      ·simp [ziY, AV.sc, AV.scV, AV.scA, AV.scB]
      ·rw [← ho, hdat, ← hoc, Bool.true_and]
   ·obtain rfl : i = data.length := by omega
    rw [List.drop_length, zb3] at ho
    rw [List.take_length] at *
    simp [zmO]
    have := hO [.map (zbq (zaW data)), .map (zbq (zaB data))]
    rwa [show zbb data = true by simp [zbb, h12, ← ho, zkv hdn, zkv hcn]] at this
 ·have h12' : (12 : Int) < data.length := by omega
  have h12'' : 12 < data.length := by omega
  rw [show zbb data = false by simp [zbb, h12]] at hO
  simp [zmM, h12', h12'']
  simpa using hO []
def znc (c : Con) : Prop := c.name.length ≤ 40 ∧ c.args.length ≤ 8 ∧ ∀ t ∈ c.args, t.nodes ≤ 20
def zi8 (d : Dat) : Prop := d.name.length ≤ 40 ∧ d.cons.length ≤ 10 ∧ ∀ c ∈ d.cons, znc c
def zbf (ds : List Dat) : Prop := ds.length ≤ 14 ∧ ∀ d ∈ ds, zi8 d
theorem zff {α : Type} {l : List α} {i : Nat} (h : i < l.length) {p : α → Prop} (h1 : ∀ x ∈ l.take i, p x) (h2 : p l[i]) : ∀ x ∈ l.take (i + 1), p x := by
 rw [List.take_succ_eq_append_getElem h]
 intro x hx
 rcases List.mem_append.1 hx with hx | hx
 ·exact h1 x hx
 ·simp at hx; subst hx; exact h2
theorem zor {α : Type} {cs : α → List AV} {l : List α} {i : Nat} (h : i < l.length) : (l.map cs)[i]?.getD [] = cs l[i] := by simp [h]
theorem vt3 (v : VT) : ∃ a b c, v.cs = [a, b, c] ∧ a.known = true ∧ b.known = true ∧ c.known = true := by
 obtain ⟨k, n, ks⟩ := v; exact ⟨_, _, _, rfl, rfl, rfl, rfl⟩
theorem zyr (ds : List Dat) (H : zaa) (K : AV → zaa → Prop) (hlen : ds.length ≤ 9223372036854775807) (hK : ∀ b, (b = true → zbf ds) → K (.bool b) H) : ACalls tP zjV [.sl (ds.map Dat.cs) .none] H K := by
 refine ACalls.out (zyp fun hs => ?_)
 have hF : ∀ J, Out H.length K (.bool false) (H ++ J) := fun J => Out.bool rfl (Nat.le_refl _) hs (hK false fun h => by cases h)
 have hF0 : Out H.length K (.bool false) H := by simpa using hF []
 by_cases h14 : ds.length > 14
 ·have : (14 : Int) < ds.length := by omega
  simp [zlo, this]
  exact hF0
 have : ¬ (14 : Int) < ds.length := by omega
 simp [zlo, this]
 refine zym (Inv := fun q t15 H' => ∃ i : Nat, i ≤ ds.length ∧ q = ds.length - i ∧ t15 = .int .i64 i ∧ (∀ d ∈ ds.take i, zi8 d) ∧ H = H') ds.length ?_ ?_
 ·intro _; exact ⟨0, by omega, by omega, rfl, by simp, rfl⟩
 ·rintro q t15 H' ⟨i, hi, rfl, rfl, ha, rfl⟩ hsc hl hsF Kb4 hKb4
  by_cases hil : i < ds.length
  ·have hat : (ds.map Dat.cs)[i]?.getD [] = [.str ds[i].name, .int .i64 ds[i].vars, .sl (ds[i].cons.map Con.cs) .none] := zor hil
   have next : zi8 ds[i] → ∀ J, Kb4 (zfK (.sl (ds.map Dat.cs) .none) (.int .i64 ds.length) (.int .i64 (i + 1))) (H ++ J) := by
    intro hd J
    refine hKb4 _ _ ⟨ds.length - (i + 1), by omega, Back.same (Nat.le_refl _) hs ?_ ⟨_, rfl, i + 1, by omega, rfl, by simp, zff hil ha hd, rfl⟩⟩
    simp [zfK, AV.sc, AV.scV, AV.scA, AV.scB]
   generalize hdd : ds[i] = d at *
   simp [zlq, hil, hat, AV.known, hdd, Dat.cs]
   by_cases hn : d.name.length > 40
   ·have : (40 : Int) < d.name.length := by omega
    simp [this]
    exact hF _
   have hn' : ¬ (40 : Int) < d.name.length := by omega
   by_cases hc : d.cons.length > 10
   ·have : (10 : Int) < d.cons.length := by omega
    simp [hn', this]
    exact hF _
   have hc' : ¬ (10 : Int) < d.cons.length := by omega
   simp [hn', hc']
   refine zyn (Inv := fun q t32 H' => ∃ j : Nat, j ≤ d.cons.length ∧ q = d.cons.length - j ∧ t32 = .int .i64 j ∧ (∀ c ∈ d.cons.take j, znc c) ∧ H' = H ++ [.cells [.str d.name, .int .i64 d.vars, .sl (d.cons.map Con.cs) .none]]) d.cons.length ?_ ?_
   ·intro _; exact ⟨0, by omega, by omega, rfl, by simp, rfl⟩
   ·rintro q t32 H' ⟨j, hj, rfl, rfl, hb, rfl⟩ hsc9 hl9 hsF9 Kb9 hKb9
    by_cases hjl : j < d.cons.length
    ·have hat : (d.cons.map Con.cs)[j]?.getD [] = [.str d.cons[j].name, .sl (VT.css d.cons[j].args) .none] := zor hjl
     generalize hcc : d.cons[j] = c at *
     simp [zlr, hjl, hat, AV.known, hcc, Con.cs]
     by_cases hn : c.name.length > 40
     ·have : (40 : Int) < c.name.length := by omega
      simp [this]
      exact hF _
     have hn' : ¬ (40 : Int) < c.name.length := by omega
     by_cases hc : c.args.length > 8
     ·have : (8 : Int) < c.args.length := by omega
      simp [hn', this]
      exact hF _
     have hc' : ¬ (8 : Int) < c.args.length := by omega
     simp [hn', hc']
     refine zyl (Inv := fun q t49 H' => ∃ (k : Nat) (l : Int), k ≤ c.args.length ∧ q = c.args.length - k ∧ t49 = .int .i64 k ∧ -1 ≤ l ∧ l ≤ 20 ∧ (∀ t ∈ c.args.take k, t.nodes ≤ 20) ∧ H' = H ++ [.cells [.str d.name, .int .i64 d.vars, .sl (d.cons.map Con.cs) .none], .cells [.str c.name, .sl (VT.css c.args) .none], .cells [.int .i64 l]]) c.args.length ?_ ?_
     ·intro _; exact ⟨0, 20, by omega, by omega, rfl, by omega, by omega, by simp, rfl⟩
     ·rintro q t49 H' ⟨k, l, hk, rfl, rfl, hl0, hl1, hb15, rfl⟩ hsc15 hl15 hsF15 Kb15 hKb15
      by_cases hkl : k < c.args.length
      ·obtain ⟨x, y, z, hv, hx, hy, hz⟩ := vt3 c.args[k]
       simp [zlp, hkl, hv, hx, hy, hz]
       rw [← hv]
       refine zrw _ _ (Nat.le_refl _) l (by omega) hl0 _ (H.length + 2) (by simp) _ ?_ ?_
       ·intro hle
        simp
        rw [zal (by omega) (by omega)]
        refine hKb15 _ _ ⟨c.args.length - (k + 1), by omega, Back.at (J := [_]) (H2 := H ++ [.cells [.str d.name, .int .i64 d.vars, .sl (d.cons.map Con.cs) .none], .cells [.str c.name, .sl (VT.css c.args) .none], .cells [.int .i64 (l - c.args[k].nodes)]]) (by simp; rfl) (by simp) (hs.append rfl) ?_ ⟨_, rfl, k + 1, l - c.args[k].nodes, by omega, rfl, by simp, by omega, by omega, zff hkl hb15 (by omega), rfl⟩⟩
        simp [zhC, AV.sc, AV.scV, AV.scA, AV.scB]
       ·intro hle l'
        simp
        exact hF _
      ·obtain rfl : k = c.args.length := by omega
       rw [List.take_length] at hb15
       simp [zlp]
       rw [zal (by omega) (by omega)]
       refine hKb9 _ _ ⟨d.cons.length - (j + 1), by omega, Back.at (J := [_, _]) (H2 := H ++ [.cells [.str d.name, .int .i64 d.vars, .sl (d.cons.map Con.cs) .none]]) (by simp; exact ⟨rfl, rfl⟩) (by simp) (hs.append rfl) ?_ ⟨_, rfl, j + 1, by omega, rfl, by simp, zff hjl hb (by rw [hcc]; exact ⟨by omega, by omega, hb15⟩), rfl⟩⟩
       simp [zhD, AV.sc, AV.scV, AV.scA, AV.scB]
    ·obtain rfl : j = d.cons.length := by omega
     rw [List.take_length] at hb
     simp [zlr]
     rw [zal (by omega) (by omega)]
     exact next ⟨by omega, by omega, hb⟩ _
  ·obtain rfl : i = ds.length := by omega
   rw [List.take_length] at ha
   simp [zlq]
   exact Out.bool (J := []) (by simp) (Nat.le_refl _) hs (hK true fun _ => ⟨by omega, ha⟩)
def zcX (data : List Dat) (d : Nat) (vars : Int) (t : VT) : Bool := zbp d vars t || za3 (data.take d) vars t
structure RCon (data : List Dat) (d : Nat) (vars : Int) (c : Con) : Prop where
 up : zca c.name = true
 len : c.args.length ≤ 6
 args : ∀ x ∈ c.args, zcX data d vars x = true
structure RDat (data : List Dat) (d : Nat) (D : Dat) : Prop where
 v0 : 0 ≤ D.vars
 v6 : D.vars ≤ 6
 c1 : 1 ≤ D.cons.length
 c8 : D.cons.length ≤ 8
 up : zca D.name = true
 cons : ∀ c ∈ D.cons, RCon data d D.vars c
structure RData (data : List Dat) : Prop where
 len : data.length ≤ 12
 dats : ∀ d (h : d < data.length), RDat data d data[d]
 names : (zaW data).Nodup
 cons : (zaB data).Nodup
theorem zkI {α : Type} {l : List α} {i : Nat} (h : i < l.length) : l.take (i + 1) = l.take i ++ [l[i]] := by rw [List.take_append_getElem h]
theorem znL : ∀ l : List Dat, (∀ D ∈ l, D.cons.length ≤ 10) → (zaB l).length ≤ l.length * 10
 | [], _ => by simp [zaB]
 | D :: l, h => by
  have h1 := znL l (fun D hD => h D (by simp [hD]))
  have h2 := h D (by simp)
  rw [zaB] at h1 ⊢
  rw [List.flatMap_cons, List.length_append, List.length_map, List.length_cons]; omega
theorem ztQ {data : List Dat} {d : Nat} (h : d < data.length) : zaW (data.take (d + 1)) = zaW (data.take d) ++ [(data[d]).name] := by
 rw [zaW, zkI h, List.map_append]; rfl
theorem ztE {data : List Dat} {d : Nat} (h : d < data.length) : zaB (data.take (d + 1)) = zaB (data.take d) ++ (data[d]).cons.map Con.name := by
 rw [zaB, zkI h, List.flatMap_append]; simp [zaB]
theorem zpD (l : List (List UInt8)) (s : List UInt8) : strs (l ++ [s]) = strs l ++ [[.str s]] := by simp [strs]
theorem znE {s : List UInt8} {k : AV → Prop} : zax 1 [.str []] 1 [(0, .str s)] k = k (.sl [[.str s]] .full) := propext Iff.rfl
theorem zpe (l : List (List UInt8)) (hl : l.length ≤ 1000000) {tok : Tok} (H : zaa) (K : AV → zaa → Prop) (hK : K (.bool (zbH l)) H) : ACalls tP zfs [.sl (strs l) tok] H K :=
 ACalls.wk (zCi l hl H K hK) ⟨.atom (.sl _ _), trivial⟩
theorem ztH {D : Dat} {i : Nat} (h : i < D.cons.length) : (D.cons.map Con.cs)[i]?.getD [] = [.str (D.cons[i]).name, .sl (VT.css (D.cons[i]).args) .none] := by simp [h, Con.cs]
theorem zBa (data : List Dat) (hkd : zbf data) (H : zaa) (K : AV → zaa → Prop) (hK : ∀ b, (b = true ↔ RData data) → K (.bool b) H) : ACalls tP zj5 [.sl (data.map Dat.cs) .none] H K := by
 refine ACalls.out (zA8 fun hs => ?_)
 obtain ⟨kl, kd⟩ := hkd
 have hF : ¬ RData data → ∀ J, Out H.length K (.bool false) (H ++ J) := fun h J => Out.bool rfl (Nat.le_refl _) hs (hK _ (by simp [h]))
 have hT : ∀ b : Bool, (b = true ↔ RData data) → ∀ J, Out H.length K (.bool b) (H ++ J) := fun b h J => Out.bool rfl (Nat.le_refl _) hs (hK _ h)
 by_cases h12 : data.length > 12
 ·have h12' : (12 : Int) < data.length := by omega
  simp [zmh, h12']
  have := hF (fun h => by have := h.len; omega) []
  simpa using this
 have h12' : ¬ (12 : Int) < data.length := by omega
 simp [zmh, h12']
 unfold zit
 refine ALoop.own 3 zbu 1 rfl ?_
 refine ALoop.own 4 zbu 1 rfl ?_
 rw [List.append_assoc]
 have hcn : ∀ d, (zaB (data.take d)).length ≤ 140 := fun d => by
  have := znL (data.take d) (fun D hD => (kd D (List.mem_of_mem_take hD)).2.1)
  rw [List.length_take] at this
  have : min d data.length * 10 ≤ 14 * 10 := Nat.mul_le_mul_right _ (by omega)
  omega
 have hl1 : (H ++ [AB.perm zbu 1 0]).length = H.length + 1 := by simp
 rw [hl1]
 show zit (.sl (data.map Dat.cs) .none) (.sl [] (.own H.length)) (.sl [] (.own (H.length + 1))) (.int .i64 0) (H ++ [.perm zbu 1 0, .perm zbu 1 0]) (Out H.length K)
 have hsP : ∀ m n, HSc (H ++ [.perm zbu 1 m, .perm zbu 1 n]) := fun m n => hs.append rfl
 refine zA6 (Inv := fun q t3 t4 t5 H' => ∃ d : Nat, d ≤ data.length ∧ q = data.length - d ∧ t5 = .int .i64 d ∧ t3 = .sl (strs (zaW (data.take d))) (.own H.length) ∧ t4 = .sl (strs (zaB (data.take d))) (.own (H.length + 1)) ∧ (∀ j (h : j < data.length), j < d → RDat data j data[j]) ∧ H' = H ++ [.perm zbu 1 d, .perm zbu 1 (zaB (data.take d)).length]) data.length ?_ ?_
 ·intro _; exact ⟨0, by omega, by omega, rfl, by simp [zaW, strs], by simp [zaB, strs], by omega, by simp [zaB]⟩
 ·rintro q t3 t4 t5 H' ⟨d, hd, rfl, rfl, rfl, rfl, hok, rfl⟩ hsc hlen hsF Kb hKb
  by_cases hlt : d < data.length
  ·have hbad : ¬ RDat data d data[d] → ∀ J, Out H.length K (.bool false) (H ++ J) := fun h => hF fun hh => h (hh.dats d hlt)
   have hcd := hcn d
   have hds := ztQ hlt
   have hcs := ztE hlt
   obtain ⟨kn, kc, kcc⟩ := kd _ (List.getElem_mem hlt)
   have hdl : (zaW (data.take d)).length = d := by simp [zaW]; omega
   generalize hD : data[d] = D at *
   have hge : (data.map Dat.cs)[d]?.getD [] = [.str D.name, .int .i64 D.vars, .sl (D.cons.map Con.cs) .none] := by simp [hlt, hD, Dat.cs]
   by_cases hv0 : D.vars < 0
   ·simp [zd4, hlt, hD, Dat.cs, hv0]
    exact hbad (fun h => by have := h.v0; omega) _
   by_cases hv6 : 6 < D.vars
   ·simp [zd4, hlt, hD, Dat.cs, hv0, hv6]
    exact hbad (fun h => by have := h.v6; omega) _
   by_cases hc1 : D.cons.length < 1
   ·have hc1' : (D.cons.length : Int) < 1 := by omega
    simp [zd4, hlt, hD, Dat.cs, hv0, hv6, hc1']
    exact hbad (fun h => by have := h.c1; omega) _
   have hc1' : ¬ (D.cons.length : Int) < 1 := by omega
   by_cases hc8 : 8 < D.cons.length
   ·have hc8' : (8 : Int) < D.cons.length := by omega
    simp [zd4, hlt, hD, Dat.cs, hv0, hv6, hc1', hc8']
    exact hbad (fun h => by have := h.c8; omega) _
   have hc8' : ¬ (8 : Int) < D.cons.length := by omega
   simp [zd4, hlt, hD, Dat.cs, hv0, hv6, hc1', hc8']
   refine zr4 _ _ _ ?_
   cases hup : zca D.name with
   | false => simp; exact hbad (fun h => by have := h.up; rw [hup] at this; cases this) _
   | true =>
   simp [znE]
   simp [zar, za0, zaI, hdl]
   refine ⟨by omega, ?_⟩
   rw [← zpD, ← hds]
   refine zA4 (Inv := fun q t4 t7 H' => ∃ k : Nat, k ≤ D.cons.length ∧ q = D.cons.length - k ∧ t7 = .int .i64 k ∧ t4 = .sl (strs (zaB (data.take d) ++ (D.cons.map Con.name).take k)) (.own (H.length + 1)) ∧ (∀ c ∈ D.cons.take k, RCon data d D.vars c) ∧ H' = H ++ [.perm zbu 1 (d + 1), .perm zbu 1 ((zaB (data.take d)).length + k), .cells [.str D.name, .int .i64 D.vars, .sl (D.cons.map Con.cs) .none]]) D.cons.length ?_ ?_
   ·intro _; exact ⟨0, by omega, by omega, rfl, by simp, by simp, by simp⟩
   ·rintro q t4 t7 H' ⟨k, hk, rfl, rfl, rfl, hck, rfl⟩ hsc1 hlen1 hsF1 Kb1 hKb1
    have hlk : (zaB (data.take d) ++ (D.cons.map Con.name).take k).length = (zaB (data.take d)).length + k := by simp; omega
    by_cases hkl : k < D.cons.length
    ·have hkI : (k : Int) < D.cons.length := by omega
     have hca := ztH hkl
     have hcbad : ¬ RCon data d D.vars D.cons[k] → ∀ J, Out H.length K (.bool false) (H ++ J) := fun h => hbad fun hh => h (hh.cons _ (List.getElem_mem hkl))
     have hns : zaB (data.take d) ++ (D.cons.map Con.name).take (k + 1) = (zaB (data.take d) ++ (D.cons.map Con.name).take k) ++ [(D.cons[k]).name] := by rw [zkI (by simpa using hkl)]; simp
     obtain ⟨_, ka, kan⟩ := kcc _ (List.getElem_mem hkl)
     generalize hC : D.cons[k] = C at *
     simp [zmi, hkl, hC, Con.cs]
     refine zr4 _ _ _ ?_
     cases hupc : zca C.name with
     | false => simp; exact hcbad (fun h => by have := h.up; rw [hupc] at this; cases this) _
     | true =>
     by_cases ha6 : 6 < C.args.length
     ·have ha6' : (6 : Int) < C.args.length := by omega
      simp [hkl, hC, Con.cs, ha6']
      exact hcbad (fun h => by have := h.len; omega) _
     have ha6' : ¬ (6 : Int) < C.args.length := by omega
     simp [hkl, hC, Con.cs, ha6', znE]
     generalize hA : zaB (data.take d) ++ (D.cons.map Con.name).take k = A at *
     have hAl : A.length = (zaB (data.take d)).length + k := hlk
     simp [zar, za0, zaI, hAl, hkl, hC, Con.cs]
     refine ⟨by omega, ?_⟩
     rw [← zpD, ← hns]
     refine zA5 (Inv := fun q t95 H' => ∃ i : Nat, i ≤ C.args.length ∧ q = C.args.length - i ∧ t95 = .int .i64 i ∧ (∀ x ∈ C.args.take i, zcX data d D.vars x = true) ∧ H' = H ++ [.perm zbu 1 (d + 1), .perm zbu 1 ((zaB (data.take d)).length + k + 1), .cells [.str D.name, .int .i64 D.vars, .sl (D.cons.map Con.cs) .none]]) C.args.length ?_ ?_
     ·intro _; exact ⟨0, by omega, by omega, rfl, by simp, rfl⟩
     ·rintro q t95 H' ⟨i, hi, rfl, rfl, hok3, rfl⟩ hsc2 hlen2 hsF2 Kb2 hKb2
      by_cases hil : i < C.args.length
      ·have hxn := kan _ (List.getElem_mem hil)
       have habad : zcX data d D.vars C.args[i] = false → ∀ J, Out H.length K (.bool false) (H ++ J) := fun h => hcbad fun hh => by
        have := hh.args _ (List.getElem_mem hil)
        rw [h] at this; cases this
       obtain ⟨x, y, z, hvx, hx, hy, hz⟩ := vt3 C.args[i]
       have good : zcX data d D.vars C.args[i] = true → zis (.sl (data.map Dat.cs) .none) (.sl (strs (zaW (data.take (d + 1)))) (.own H.length)) (.sl (strs (zaB (data.take d) ++ (D.cons.map Con.name).take (k + 1))) (.own (H.length + 1))) (.int .i64 d) (.ptr (H.length + 2) 0) (.int .i64 k) (.sl (VT.css C.args) .none) (.int .i64 C.args.length) (.int .i64 i) (H ++ [.perm zbu 1 (d + 1), .perm zbu 1 ((zaB (data.take d)).length + k + 1), .cells [.str D.name, .int .i64 D.vars, .sl (D.cons.map Con.cs) .none], .cells [x, y, z]]) (Out H.length K) Kb Kb1 Kb2 := fun hg => by
        simp [zis, zrK]
        rw [zal (by omega) (by omega)]
        refine hKb2 _ _ ⟨C.args.length - (i + 1), by omega, Back.at (J := [_]) (H2 := H ++ [.perm zbu 1 (d + 1), .perm zbu 1 ((zaB (data.take d)).length + k + 1), .cells [.str D.name, .int .i64 D.vars, .sl (D.cons.map Con.cs) .none]]) (by simp; rfl) (by simp) hsc2 ?_ ⟨_, rfl, i + 1, by omega, rfl, by simp, zff hil hok3 hg, rfl⟩⟩
        simp [ziq, AV.sc, AV.scV, AV.scA, AV.scB]
       simp [zmj, hil, hvx, hx, hy, hz]
       rw [← hvx]
       refine znb _ _ _ (by omega) _ _ ?_
       cases hself : zbp d D.vars C.args[i] with
       | true =>
        rw [hvx]
        simp
        exact good (by simp [zcX, hself])
       | false =>
        simp [hvx]
        refine ⟨⟨by omega, fun a _ => rfl⟩, ?_⟩
        rw [← List.map_take, ← hvx]
        refine zbI (.bool (za3 (data.take d) D.vars C.args[i])) (fun J => zrQ (data.take d) (by simp; omega) _ _ (by omega) _ _ ⟨rfl, rfl⟩) ?_
        cases hty : za3 (data.take d) D.vars C.args[i] with
        | false => simp; exact habad (by simp [zcX, hself, hty]) _
        | true =>
         rw [hvx]
         simp
         exact good (by simp [zcX, hty])
      ·obtain rfl : i = C.args.length := by omega
       rw [List.take_length] at *
       simp [zmj]
       rw [zal (by omega) (by omega)]
       refine hKb1 _ _ ⟨D.cons.length - (k + 1), by omega, Back.here (by simp) hsc2 ?_ ⟨_, _, rfl, k + 1, by omega, rfl, by simp, rfl, ?_, by simp [Nat.add_assoc]⟩⟩
       ·simp [zip, AV.sc, AV.scV, AV.scA, AV.scB]
       ·exact zff hkl hck (by rw [hC]; exact ⟨hupc, by omega, hok3⟩)
    ·obtain rfl : k = D.cons.length := by omega
     rw [List.take_length] at *
     simp [zmi]
     rw [zal (by omega) (by omega)]
     refine hKb _ _ ⟨data.length - (d + 1), by omega, Back.at (J := [_]) (H2 := H ++ [.perm zbu 1 (d + 1), .perm zbu 1 (zaB (data.take (d + 1))).length]) (by rw [hcs]; simp; rfl) (by simp) (hsP _ _) ?_ ⟨_, _, _, rfl, d + 1, by omega, rfl, by simp, rfl, by rw [hcs]; exact congrArg (fun l => AV.sl (strs (zaB (data.take d) ++ l)) (.own (H.length + 1))) (List.take_of_length_le (Nat.le_of_eq (List.length_map _))), fun j hj hji => ?_, rfl⟩⟩
     ·simp [zir, AV.sc, AV.scV, AV.scA, AV.scB]
     ·by_cases hjd : j = d
      ·subst hjd; rw [hD]; exact ⟨by omega, by omega, by omega, by omega, hup, hck⟩
      ·exact hok j hj (by omega)
  ·obtain rfl : d = data.length := by omega
   rw [List.take_length] at *
   have hdn : (zaW data).length = data.length := by simp [zaW]
   have hcn' := hcn data.length
   rw [List.take_length] at hcn'
   simp [zd4]
   refine zpe _ (by omega) _ _ ?_
   cases hr : zbH (zaW data) with
   | true =>
    simp
    refine hT _ ?_ _
    simp
    intro h
    have := zkv h.names
    rw [hr] at this; cases this
   | false =>
    simp
    refine zpe _ (by omega) _ _ ?_
    refine hT _ ?_ _
    simp only [zbH, Bool.not_eq_false', decide_eq_true_eq, Bool.not_not] at hr ⊢
    exact ⟨fun h => ⟨by omega, fun j hj => hok j hj hj, hr, h⟩, fun h => h.cons⟩
mutual
theorem zu0 : ∀ v w : VT, v.same w = true ↔ v = w
 | .mk k n ks, .mk k' n' ks' => by
  have h := zpl ks ks'
  simp only [VT.same, Bool.and_eq_true, beq_iff_eq, VT.mk.injEq, h, and_assoc]
theorem zpl : ∀ v w : List VT, VT.sameL v w = true ↔ v = w
 | v :: vs, w :: ws => by
  have h1 := zu0 v w
  have h2 := zpl vs ws
  simp only [VT.sameL, Bool.and_eq_true, List.cons.injEq, h1, h2]
 | [], [] => by simp [VT.sameL]
 | [], _ :: _ => by simp [VT.sameL]
 | _ :: _, [] => by simp [VT.sameL]
end
theorem zgX {α : Type} (l : List α) (d n : Nat) : (l.take d)[n]? = if n < d then l[n]? else none := by
 by_cases h : n < d
 ·rw [if_pos h, List.getElem?_take_of_lt h]
 ·rw [if_neg h, List.getElem?_eq_none (by rw [List.length_take]; omega)]
theorem zu8 {data : List Dat} {d : Nat} {vars k n : Int} {len : Nat} (h : (k == 5 && n == (d : Int)) = false) : zaO (data.take (d + 1)) vars k n len = zaO (data.take d) vars k n len := by
 unfold zaO
 by_cases h5 : k = 5
 ·subst h5
  have hn : n ≠ d := by simpa using h
  simp only [zgX]
  by_cases h0 : 0 ≤ n
  ·have : (n.toNat < d + 1) = (n.toNat < d) := by
    apply propext; omega
   simp [this]
  ·simp [h0]
 ·have : (k == 5) = false := by simpa using h5
  simp [this]
mutual
theorem zpX (data : List Dat) (d : Nat) (vars : Int) : ∀ t : VT, zbK d t = false → zaH (data.take (d + 1)) vars t = zaH (data.take d) vars t
 | .mk k n ks => by
  intro h
  simp only [zbK, Bool.or_eq_false_iff] at h
  rw [zaH, zaH, zu8 h.1, zpV data d vars ks h.2]
theorem zpV (data : List Dat) (d : Nat) (vars : Int) : ∀ l : List VT, zdn d l = false → zaL (data.take (d + 1)) vars l = zaL (data.take d) vars l
 | [] => fun _ => rfl
 | t :: ts => by
  intro h
  simp only [zdn, Bool.or_eq_false_iff] at h
  rw [zaL, zaL, zpX data d vars t h.1, zpV data d vars ts h.2]
end
mutual
theorem zow (data : List Dat) (d : Nat) (vars : Int) : ∀ t : VT, zaH (data.take d) vars t = true → zbK d t = false
 | .mk k n ks => by
  intro h
  rw [zaH, Bool.and_eq_true] at h
  rw [zbK, zov data d vars ks h.2, Bool.or_false]
  by_cases h5 : k = 5
  ·subst h5
   have h1 := h.1
   simp [zaO, zgX] at h1
   obtain ⟨h0, h2⟩ := h1
   by_cases hn : n = d
   ·subst hn
    simp at h2
   ·simpa using hn
  ·have : (k == 5) = false := by simpa using h5
   simp [this]
theorem zov (data : List Dat) (d : Nat) (vars : Int) : ∀ l : List VT, zaL (data.take d) vars l = true → zdn d l = false
 | [] => fun _ => rfl
 | t :: ts => by
  intro h
  rw [zaL, Bool.and_eq_true] at h
  rw [zdn, zow data d vars t h.1, zov data d vars ts h.2]; rfl
end
theorem zpp (data : List Dat) (vars : Int) : ∀ (l : List VT) (i : Nat), zbW l i = true → ((i + l.length : Nat) : Int) ≤ vars → zaL data vars l = true ∧ VT.nodesL l = l.length
 | [], i, _, _ => ⟨rfl, rfl⟩
 | .mk k n ks :: l, i, h, hv => by
  rw [zbW, Bool.and_eq_true] at h
  obtain ⟨h1, h2⟩ := h
  simp only [zfd, Bool.and_eq_true, beq_iff_eq] at h1
  obtain ⟨⟨rfl, rfl⟩, h3⟩ := h1
  have hk : ks = [] := List.eq_nil_of_length_eq_zero h3
  subst hk
  obtain ⟨h4, h5⟩ := zpp data vars l (i + 1) h2 (by simp at hv ⊢; omega)
  simp at hv
  constructor
  ·simp [zaL, zaH, zaO, h4]
   omega
  ·simp [VT.nodesL, VT.nodes, h5]; omega
theorem znv (data : List Dat) (d : Nat) (hd : d < data.length) (h0 : 0 ≤ (data[d]).vars) (h6 : (data[d]).vars ≤ 6) (t : VT) : zcG data d (data[d]).vars t = zcX data d (data[d]).vars t := by
 unfold zcG zcX
 cases hs : zbp d (data[d]).vars t with
 | true =>
  obtain ⟨k, n, ks⟩ := t
  simp only [zbp, Bool.and_eq_true, beq_iff_eq] at hs
  obtain ⟨⟨⟨rfl, rfl⟩, hl⟩, hs⟩ := hs
  obtain ⟨h1, h2⟩ := zpp (data.take (d + 1)) (data[d]).vars ks 0 hs (by simp; omega)
  have hty : za3 (data.take (d + 1)) (data[d]).vars (.mk 5 d ks) = true := by
   simp [za3, zaH, h1, VT.nodes, h2, zaO, zgX, hd, hl]
   omega
  simp [hty]
 | false =>
  simp only [Bool.false_or]
  unfold za3
  cases hm : zbK d t with
  | false => rw [zpX data d _ t hm]; simp
  | true =>
   have : zaH (data.take d) (data[d]).vars t = false := by
    cases h : zaH (data.take d) (data[d]).vars t with
    | false => rfl
    | true => rw [zow data d _ t h] at hm; cases hm
   simp [this]
theorem zjs (data : List Dat) : ∀ (l : List Dat) (d : Nat), zb3 data l d = true ↔ ∀ j (h : j < l.length), zbV data (d + j) l[j] = true
 | [], d => by simp [zb3]
 | D :: l, d => by
  rw [zb3, Bool.and_eq_true, zjs data l (d + 1)]
  constructor
  ·rintro ⟨h1, h2⟩ j hj
   cases j with
   | zero => exact h1
   | succ j =>
    have := h2 j (by simpa using hj)
    rw [show d + (j + 1) = d + 1 + j by omega]
    simpa using this
  ·intro h
   refine ⟨h 0 (by simp), fun j hj => ?_⟩
   have := h (j + 1) (by simpa using hj)
   rw [show d + (j + 1) = d + 1 + j by omega] at this
   simpa using this
theorem ztO (data : List Dat) : zbb data = true ↔ RData data := by
 unfold zbb
 simp only [Bool.and_eq_true, decide_eq_true_eq, zjs, zbH, Bool.not_not, Nat.zero_add]
 constructor
 ·rintro ⟨⟨⟨h1, h2⟩, h3⟩, h4⟩
  refine ⟨h1, fun d hd => ?_, h3, h4⟩
  have := h2 d hd
  simp only [zbV, Bool.and_eq_true, decide_eq_true_eq, List.all_eq_true] at this
  obtain ⟨⟨⟨⟨⟨q1, q2⟩, q3⟩, q4⟩, q5⟩, q6⟩ := this
  refine ⟨q2, q3, q4, q5, q1, fun c hc => ?_⟩
  have := q6 c hc
  simp only [zcp, Bool.and_eq_true, decide_eq_true_eq, List.all_eq_true] at this
  exact ⟨this.1, this.2.1, fun x hx => by rw [← znv data d hd q2 q3 x]; exact this.2.2 x hx⟩
 ·rintro ⟨h1, h2, h3, h4⟩
  refine ⟨⟨⟨h1, fun d hd => ?_⟩, h3⟩, h4⟩
  obtain ⟨q2, q3, q4, q5, q1, q6⟩ := h2 d hd
  simp only [zbV, Bool.and_eq_true, decide_eq_true_eq, List.all_eq_true]
  refine ⟨⟨⟨⟨⟨q1, q2⟩, q3⟩, q4⟩, q5⟩, fun c hc => ?_⟩
  obtain ⟨r1, r2, r3⟩ := q6 c hc
  simp only [zcp, Bool.and_eq_true, decide_eq_true_eq, List.all_eq_true]
  exact ⟨r1, r2, fun x hx => by rw [znv data d hd q2 q3 x]; exact r3 x hx⟩
mutual
def zjB (data : List Dat) : VT → VT → Bool
 | .mk vk vn vks, .mk k n al =>
  if k = 1 then vk == 3 && decide (-1099511627776 ≤ vn) && decide (vn ≤ 1099511627776) && vks.length == 0
  else if k = 2 then vk == 2 && (vn == 0 || vn == 1) && vks.length == 0
  else if k = 3 then vk == 1 && vn == 0 && vks.length == 0
  else if k = 6 then vk == 4 && vn == 0 && zdN data vks al
  else if k = 5 then vk == 5 && decide (0 ≤ vn) && decide (vn < 8) && zei data vks (zaM data (.mk k n al) vn)
  else if k = 7 then vk == 6 && vn == 0 && decide (vks.length ≤ 4096) && zog data vks (al.getD 0 (.mk 0 0 []))
  else if k = 8 then vk == 7 && vn == 0 && zdN data vks al
  else vk == 8 && decide (0 ≤ vn) && decide (vn < 64) && vks.length == 0
def zei (data : List Dat) : List VT → Option (List VT) → Bool
 | _, none => false
 | [], some ts => ts.isEmpty
 | v :: vs, some ts => match ts with
  | [] => false
  | t :: ts => zjB data v t && zdN data vs ts
def zdN (data : List Dat) : List VT → List VT → Bool
 | [], ts => ts.isEmpty
 | v :: vs, ts => match ts with
  | [] => false
  | t :: ts => zjB data v t && zdN data vs ts
def zog (data : List Dat) : List VT → VT → Bool
 | [], _ => true
 | v :: vs, t => zjB data v t && zog data vs t
end
theorem zGU (data : List Dat) (vs ts : List VT) : zei data vs (some ts) = zdN data vs ts := by
 cases vs with
 | nil => cases ts <;> rw [zei, zdN]
 | cons v vs => cases ts <;> simp only [zei, zdN]
theorem zGT (data : List Dat) (vs : List VT) : zei data vs none = false := by cases vs <;> rw [zei]
theorem zu9 {data : List Dat} {m : Nat} {vars k n : Int} {len : Nat} (h : zaO (data.take m) vars k n len = true) (h4 : k ≠ 4) : zaO data 0 k n len = true := by
 unfold zaO at h ⊢
 have h4' : (k == 4) = false := by simpa using h4
 rw [h4'] at h ⊢
 by_cases h5 : k = 5
 ·subst h5
  simp only [zgX] at h
  by_cases hm : n.toNat < m
  ·simpa [hm] using h
  ·simp [hm] at h
 ·have : (k == 5) = false := by simpa using h5
  simpa [this] using h
theorem zpF (ks : List VT) : ∀ l : List VT, (zay ks l).length = l.length
 | [] => rfl
 | t :: ts => by simp [zay, zpF ks ts]
mutual
theorem zpY {data : List Dat} {m : Nat} {vars : Int} {ks : List VT} (hk : ∀ x ∈ ks, zaH data 0 x = true) (hl : (ks.length : Int) = vars) : ∀ a : VT, zaH (data.take m) vars a = true → zaH data 0 (subst ks a) = true
 | .mk k n al => by
  intro h
  rw [zaH, Bool.and_eq_true] at h
  unfold subst
  by_cases h4 : k = 4
  ·have h1 := h.1
   subst h4
   simp [zaO] at h1
   rw [if_pos ⟨rfl, by omega, by omega⟩]
   have hn : n.toNat < ks.length := by omega
   rw [List.getElem?_eq_getElem hn]
   exact hk _ (List.getElem_mem hn)
  ·rw [if_neg (fun h => h4 h.1), zaH, Bool.and_eq_true, zpF]
   exact ⟨zu9 h.1 h4, zpW hk hl al h.2⟩
theorem zpW {data : List Dat} {m : Nat} {vars : Int} {ks : List VT} (hk : ∀ x ∈ ks, zaH data 0 x = true) (hl : (ks.length : Int) = vars) : ∀ l : List VT, zaL (data.take m) vars l = true → zaL data 0 (zay ks l) = true
 | [] => by intro _; simp [zay, zaL]
 | t :: ts => by
  intro h
  rw [zaL, Bool.and_eq_true] at h
  rw [zay, zaL, Bool.and_eq_true]
  exact ⟨zpY hk hl t h.1, zpW hk hl ts h.2⟩
end
theorem zpU {data : List Dat} {vars : Int} : ∀ {l : List VT}, zaL data vars l = true → ∀ x ∈ l, zaH data vars x = true
 | [], _ => by simp
 | t :: ts, h => by
  rw [zaL, Bool.and_eq_true] at h
  intro x hx
  rcases List.mem_cons.1 hx with rfl | hx
  ·exact h.1
  ·exact zpU h.2 x hx
theorem zvY {data : List Dat} {vars : Int} {k n : Int} {ks : List VT} (h : zaH data vars (.mk k n ks) = true) : ∀ x ∈ ks, zaH data vars x = true := by
 rw [zaH, Bool.and_eq_true] at h
 exact zpU h.2
theorem ztG {data : List Dat} (hD : zbb data = true) {d c : Nat} (hd : d < data.length) (hc : c < data[d].cons.length) : ∀ x ∈ (data[d].cons[c]).args, zaH (data.take (d + 1)) data[d].vars x = true := by
 simp only [zbb, Bool.and_eq_true, zjs, Nat.zero_add] at hD
 have h1 := hD.1.1.2 d hd
 simp only [zbV, Bool.and_eq_true] at h1
 have h2 := List.all_eq_true.1 h1.2 _ (List.getElem_mem hc)
 simp only [zcp, Bool.and_eq_true] at h2
 intro x hx
 have h3 := List.all_eq_true.1 h2.2.2 x hx
 simp only [zcG, za3, Bool.and_eq_true] at h3
 exact h3.1.2
theorem ze7 {data : List Dat} {k n : Int} {ks : List VT} {c : Int} {l : List VT} (h : zaM data (.mk k n ks) c = some l) :
  k = 5 ∧ 0 ≤ n ∧ 0 ≤ c ∧ ∃ (hn : n.toNat < data.length) (hc : c.toNat < (data[n.toNat]).cons.length), (ks.length : Int) = (data[n.toNat]).vars ∧ l = ((data[n.toNat]).cons[c.toNat]).args.map (subst ks) ∧ ∀ x ∈ l, x.nodes ≤ 200 := by
 rw [zcd] at h
 split at h
 ·rename_i h5
  split at h
  ·rename_i D hD
   obtain ⟨hn, rfl⟩ := List.getElem?_eq_some_iff.1 hD
   split at h
   ·rename_i hv
    split at h
    ·rename_i C hC
     obtain ⟨hc, rfl⟩ := List.getElem?_eq_some_iff.1 hC
     split at h
     ·rename_i ha
      simp only [Option.some.injEq] at h
      subst h
      exact ⟨h5.1, h5.2.1, h5.2.2, hn, hc, hv, rfl, fun x hx => of_decide_eq_true (List.all_eq_true.1 ha x hx)⟩
     ·cases h
    ·cases h
   ·cases h
  ·cases h
 ·cases h
theorem zn1 {data : List Dat} (hD : zbb data = true) {t : VT} (ht : zaH data 0 t = true) {c : Int} {l : List VT} (h : zaM data t c = some l) : ∀ x ∈ l, za3 data 0 x = true := by
 obtain ⟨k, n, ks⟩ := t
 obtain ⟨rfl, h0, hc0, hn, hc, hv, rfl, hsz⟩ := ze7 h
 intro x hx
 rw [za3, Bool.and_eq_true, decide_eq_true_eq]
 refine ⟨hsz x hx, ?_⟩
 obtain ⟨a, ha, rfl⟩ := List.mem_map.1 hx
 exact zpY (zvY ht) hv a (ztG hD hn hc a ha)
theorem zpq {ks : List VT} : ∀ (l : List VT) (i : Nat), zbW l i = true → i + l.length = ks.length → zay ks l = ks.drop i
 | [], i, _, hl => by simp at hl; subst hl; simp [zay]
 | x :: l, i, h, hl => by
  rw [zbW, Bool.and_eq_true] at h
  obtain ⟨k, n, al⟩ := x
  simp only [zfd, Bool.and_eq_true, beq_iff_eq] at h
  obtain ⟨⟨⟨rfl, rfl⟩, h3⟩, h4⟩ := h
  simp at hl
  have hi : i < ks.length := by omega
  rw [List.drop_eq_getElem_cons hi, zay, zpq l (i + 1) h4 (by omega)]
  rw [subst, if_pos ⟨rfl, by omega, by omega⟩]
  simp [hi]
theorem zu6 {ks : List VT} {d vars : Int} {a : VT} (h : zbp d vars a = true) (hl : (ks.length : Int) = vars) : subst ks a = .mk 5 d ks := by
 obtain ⟨k, n, al⟩ := a
 simp only [zbp, Bool.and_eq_true, beq_iff_eq] at h
 obtain ⟨⟨⟨rfl, rfl⟩, h3⟩, h4⟩ := h
 rw [subst, if_neg (fun h => by have := h.1; omega)]
 have := zpq (ks := ks) al 0 h4 (by omega)
 rw [this, List.drop_zero]
def zbL (d : Nat) (D : Dat) (C : Con) : List Bool := C.args.map (zbp d D.vars)
def zku (data : List Dat) (d : Nat) : List (List Bool) := match data[d]? with
 | some D => D.cons.map (zbL d D)
 | none => []
mutual
def zko (rs : List (List Bool)) : VT → List VT
 | .mk k n ks => .mk k n ks :: zev rs ks (rs.getD n.toNat [])
def zev (rs : List (List Bool)) : List VT → List Bool → List VT
 | [], _ => []
 | v :: vs, bs => match bs with
  | [] => []
  | b :: bs => (if b = true then zko rs v else []) ++ zev rs vs bs
end
mutual
theorem zuF (rs : List (List Bool)) : ∀ v : VT, (zko rs v).length ≤ v.nodes
 | .mk k n ks => by
  have := zo4 rs ks (rs.getD n.toNat [])
  simp only [zko, VT.nodes, List.length_cons]
  omega
theorem zo4 (rs : List (List Bool)) : ∀ (vs : List VT) (bs : List Bool), (zev rs vs bs).length ≤ VT.nodesL vs
 | [], _ => by simp [zev, VT.nodesL]
 | v :: vs, [] => by simp [zev]
 | v :: vs, b :: bs => by
  have h1 := zuF rs v
  have h2 := zo4 rs vs bs
  simp only [zev, VT.nodesL, List.length_append]
  split
  ·omega
  ·simp; omega
end
end Go.Proofs.YtacebbdfgbfgiaaGreat
