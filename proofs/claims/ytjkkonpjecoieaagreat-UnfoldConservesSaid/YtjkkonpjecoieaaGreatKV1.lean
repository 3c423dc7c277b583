import Derived.Test.YtjkkonpjecoieaaGreatKY15
import Derived.Test.YtjkkonpjecoieaaGreatKY4
set_option linter.unusedSimpArgs false
set_option linter.unusedVariables false
namespace Go.Proofs.YtjkkonpjecoieaaGreat
open Go Go.Abs
set_option maxRecDepth 8000
def zbM (l : List (List UInt8)) : List (List UInt8 × AV) := l.map fun s => (s, .bool true)
theorem zeD (s : List UInt8) : ∀ l : List (List UInt8), (zbY (zbM l) s).getD (.bool false) = .bool (decide (s ∈ l))
 | [] => by simp [zbM, zbY]
 | a :: l => by
  have := zeD s l
  cases h : a == s with
  | true =>
   have h' : a = s := by simpa using h
   simp [zbM, zbY, h, h']
  | false =>
   have h' : a ≠ s := by simpa using h
   have h'' : s ≠ a := fun e => h' e.symm
   simp only [zbM, List.map_cons, zbY, h] at this ⊢
   rw [this]; simp [h'']
theorem znw (s : List UInt8) : ∀ l : List (List UInt8), s ∉ l → zcX (zbM l) s (.bool true) = zbM (l ++ [s])
 | [], _ => rfl
 | a :: l, h => by
  have h1 : (a == s) = false := by simp at h; simpa using fun e => h.1 e.symm
  have := znw s l (by simp at h; exact h.2)
  simp only [zbM, List.map_cons, zcX, h1, List.cons_append] at this ⊢
  rw [this]
theorem zBi (m : Nat) (l : List (List UInt8)) : (AB.map (zbM l)).sc m = true := by simp [AB.sc, zbM, AV.scV]
def zbk (data : List Dat) : List (List UInt8) := data.map Dat.name
def zaL (data : List Dat) : List (List UInt8) := data.flatMap fun D => D.cons.map Con.name
def zcU (data : List Dat) (d : Nat) (vars : Int) (c : Con) : Bool := zcz c.name && (decide (c.args.length ≤ 6) && c.args.all (zdg data d vars))
def zch (data : List Dat) (d : Nat) (D : Dat) : Bool := zcz D.name && decide (0 ≤ D.vars) && decide (D.vars ≤ 6) && decide (1 ≤ D.cons.length) && decide (D.cons.length ≤ 8) && D.cons.all (zcU data d D.vars)
def zcs (data : List Dat) : List Dat → Nat → Bool
 | [], _ => true
 | D :: l, d => zch data d D && zcs data l (d + 1)
def zbf (data : List Dat) : Bool := decide (data.length ≤ 12) && zcs data data 0 && !zb2 (zbk data) && !zb2 (zaL data)
theorem ztC {A R : List (List UInt8)} {s : List UInt8} (h : s ∈ A) : zb2 (A ++ s :: R) = true := by
 simp only [zb2, Bool.not_eq_true', decide_eq_false_iff_not, List.nodup_append]
 rintro ⟨_, _, h3⟩
 exact h3 s h s (by simp) rfl
theorem znp {l : List (List UInt8)} (h : l.Nodup) : zb2 l = false := by simp [zb2, h]
theorem zsZ {A : List (List UInt8)} {s : List UInt8} (h : A.Nodup) (hs : s ∉ A) : (A ++ [s]).Nodup := by
 rw [List.nodup_append]
 refine ⟨h, by simp, ?_⟩
 intro a ha b hb
 simp at hb; subst hb
 exact fun e => hs (e ▸ ha)
def zlI (data : List Dat) : Prop := ∀ D ∈ data, D.cons.length ≤ 1000000 ∧ ∀ c ∈ D.cons, c.args.length ≤ 1000000 ∧ ∀ x ∈ c.args, x.nodes ≤ 1000000
theorem zEM (data : List Dat) (hB : zlI data) (hl : data.length ≤ 1000000) (H : zaa) (K : AV → zaa → Prop) (hK : K (.bool (zbf data)) H) : ACalls tP zmB [.sl (data.map Dat.cs) .none] H K := by
 refine ACalls.out (zEK fun hs => ?_)
 have hO : ∀ J, Out H.length K (.bool (zbf data)) (H ++ J) := fun J => Out.bool rfl (Nat.le_refl _) hs hK
 by_cases h12 : data.length ≤ 12
 ·have h12' : ¬ (12 : Int) < data.length := by omega
  have h12'' : ¬ 12 < data.length := by omega
  have hD0 : zcs data data 0 = false → ∀ J, Out H.length K (.bool false) (H ++ J) := fun h J => by
   have := hO J; rwa [show zbf data = false by simp [zbf, h]] at this
  have hD1 : zb2 (zbk data) = true → ∀ J, Out H.length K (.bool false) (H ++ J) := fun h J => by
   have := hO J; rwa [show zbf data = false by simp [zbf, h]] at this
  have hD2 : zb2 (zaL data) = true → ∀ J, Out H.length K (.bool false) (H ++ J) := fun h J => by
   have := hO J; rwa [show zbf data = false by simp [zbf, h]] at this
  simp [zot, h12', h12'']
  refine zEI (Inv := fun q t15 H' => ∃ i : Nat, i ≤ data.length ∧ q = data.length - i ∧ t15 = .int .i64 i ∧ zcs data (data.drop i) i = zcs data data 0 ∧ (zbk (data.take i)).Nodup ∧ (zaL (data.take i)).Nodup ∧ H' = H ++ [.map (zbM (zbk (data.take i))), .map (zbM (zaL (data.take i)))]) data.length ?_ ?_
  ·intro _; exact ⟨0, by omega, by omega, rfl, by simp, by simp [zbk], by simp [zaL], by simp [zbk, zaL, zbM]⟩
  ·rintro q t15 H' ⟨i, hi, rfl, rfl, ho, hdn, hcn, rfl⟩ hsc hlen hsF Kb hKb
   by_cases hlt : i < data.length
   ·have e1 : (data.map Dat.cs)[i]? = some (data[i]).cs := by simp [hlt]
    obtain ⟨hB1, hB2⟩ := hB _ (List.getElem_mem hlt)
    have hargs := fun c hc => zG5 data i c hlt hc hl hB1 (hB2 _ (List.getElem_mem hc)).1 (hB2 _ (List.getElem_mem hc)).2
    rw [List.drop_eq_getElem_cons hlt, zcs] at ho
    have htk : data.take (i + 1) = data.take i ++ [data[i]] := by rw [List.take_append_getElem hlt]
    have hsplit : data = data.take i ++ data[i] :: data.drop (i + 1) := by rw [List.getElem_cons_drop, List.take_append_drop]
    generalize hD : data[i] = D at *
    have hbad : zch data i D = false → zcs data data 0 = false := fun h => by rw [← ho, h, Bool.false_and]
    have hno : ∀ J, zch data i D = false → Out H.length K (.bool false) (H ++ [.map (zbM (zbk (data.take i))), .map (zbM (zaL (data.take i)))] ++ J) := fun J h => by
     rw [List.append_assoc]; exact hD0 (hbad h) _
    simp [zov, hlt, e1, hD, Dat.cs]
    refine zwv _ _ _ ?_
    cases hu : zcz D.name with
    | false => simp; exact hD0 (hbad (by simp [zch, hu])) _
    | true =>
    by_cases hmem : D.name ∈ zbk (data.take i)
    ·simp [hlt, e1, hD, Dat.cs, zeD, hmem]
     refine hD1 ?_ _
     rw [hsplit]; simp only [zbk, List.map_append, List.map_cons]
     exact ztC hmem
    by_cases hv0 : D.vars < 0
    ·simp [hlt, e1, hD, Dat.cs, zeD, hmem, hv0]
     exact hD0 (hbad (by simp [zch, show ¬ 0 ≤ D.vars by omega])) _
    by_cases hv6 : 6 < D.vars
    ·simp [hlt, e1, hD, Dat.cs, zeD, hmem, hv0, hv6]
     exact hD0 (hbad (by simp [zch, show ¬ D.vars ≤ 6 by omega])) _
    simp [hlt, e1, hD, Dat.cs, zeD, hmem, hv0, hv6, znw _ _ hmem]
    by_cases hc1 : D.cons.length < 1
    ·have hc1' : (D.cons.length : Int) < 1 := by omega
     simp [hc1']
     exact hD0 (hbad (by simp [zch, show ¬ 1 ≤ D.cons.length by omega])) _
    have hc1' : ¬ (D.cons.length : Int) < 1 := by omega
    by_cases hc8 : 8 < D.cons.length
    ·have hc8' : (8 : Int) < D.cons.length := by omega
     simp [hlt, e1, hD, Dat.cs, hc1', hc8', hc8]
     exact hD0 (hbad (by simp [zch, show ¬ D.cons.length ≤ 8 by omega])) _
    have hc8' : ¬ (8 : Int) < D.cons.length := by omega
    have hdat : zch data i D = D.cons.all (zcU data i D.vars) := by
     simp [zch, hu, show 0 ≤ D.vars by omega, show D.vars ≤ 6 by omega, show 1 ≤ D.cons.length by omega, show D.cons.length ≤ 8 by omega]
    simp [hlt, e1, hD, Dat.cs, hc1', hc8', hc8]
    have hdn' : (zbk (data.take (i + 1))).Nodup := by
     rw [htk]; simp only [zbk, List.map_append, List.map_cons, List.map_nil]; exact zsZ hdn hmem
    have hde : zbk (data.take i) ++ [D.name] = zbk (data.take (i + 1)) := by rw [htk]; simp [zbk]
    rw [hde]
    refine zEH (Inv := fun q t78 H' => ∃ j : Nat, j ≤ D.cons.length ∧ q = D.cons.length - j ∧ t78 = .int .i64 j ∧ (D.cons.drop j).all (zcU data i D.vars) = D.cons.all (zcU data i D.vars) ∧ (zaL (data.take i) ++ (D.cons.take j).map Con.name).Nodup ∧ H' = H ++ [.map (zbM (zbk (data.take (i + 1)))), .map (zbM (zaL (data.take i) ++ (D.cons.take j).map Con.name))]) D.cons.length ?_ ?_
    ·intro _; exact ⟨0, by omega, by omega, rfl, by simp, by simpa using hcn, by simp⟩
    ·rintro q t78 H' ⟨j, hj, rfl, rfl, hoc, hcj, rfl⟩ hsc1 hlen1 hsF1 Kb1 hKb1
     have hscH : ∀ A B, HSc (H ++ [.map (zbM A), .map (zbM B)]) := fun A B => hs.append (by simp [zBi])
     by_cases hjl : j < D.cons.length
     ·have e2 : (D.cons.map Con.cs)[j]? = some (D.cons[j]).cs := by simp [hjl]
      have hargs' := hargs j hjl
      rw [List.drop_eq_getElem_cons hjl, List.all_cons] at hoc
      have htj : zaL (data.take i) ++ (D.cons.take (j + 1)).map Con.name = (zaL (data.take i) ++ (D.cons.take j).map Con.name) ++ [(D.cons[j]).name] := by
       rw [← List.take_append_getElem hjl, List.map_append, List.append_assoc]; rfl
      have hcs : zaL data = (zaL (data.take i) ++ (D.cons.take j).map Con.name) ++ (D.cons[j]).name :: ((D.cons.drop (j + 1)).map Con.name ++ zaL (data.drop (i + 1))) := by
       have h1 : D.cons.map Con.name = (D.cons.take j).map Con.name ++ (D.cons[j]).name :: (D.cons.drop (j + 1)).map Con.name := by
        rw [← List.map_cons (f := Con.name), List.getElem_cons_drop, ← List.map_append, List.take_append_drop]
       conv => lhs; rw [hsplit]
       simp only [zaL, List.flatMap_append, List.flatMap_cons, List.append_assoc, h1, List.cons_append]
      generalize hC : D.cons[j] = C at *
      have hbad' : zcU data i D.vars C = false → zcs data data 0 = false := fun h => hbad (by rw [hdat, ← hoc, h, Bool.false_and])
      generalize hA : zaL (data.take i) ++ (D.cons.take j).map Con.name = A at *
      simp only [zou]
      simp [hjl, hC, Con.cs, Nat.add_assoc]
      refine zwv _ _ _ ?_
      cases hu2 : zcz C.name with
      | false => simp; exact hD0 (hbad' (by simp [zcU, hu2])) _
      | true =>
      by_cases hm2 : C.name ∈ A
      ·simp [zeD, hm2]
       exact hD2 (by rw [hcs]; exact ztC hm2) _
      ·simp [zeD, hm2]
       refine hargs' _ _ ?_
       have hce : zcU data i D.vars C = (decide (C.args.length ≤ 6) && C.args.all (zdg data i D.vars)) := by simp [zcU, hu2]
       rw [← hce]
       cases hco : zcU data i D.vars C with
       | false => simp; exact hD0 (hbad' hco) _
       | true =>
        rw [hco, Bool.true_and] at hoc
        simp [znw _ _ hm2]
        rw [zas (by omega) (by omega)]
        refine hKb1 _ _ ⟨D.cons.length - (j + 1), by omega, Back.at (J := [.cells [.str C.name, .sl (VT.css C.args) .none]]) (H2 := H ++ [.map (zbM (zbk (data.take (i + 1)))), .map (zbM (A ++ [C.name]))]) (by simp) (by simp) (hscH _ _) ?_ ⟨_, rfl, j + 1, by omega, rfl, by simp, hoc, ?_, ?_⟩⟩
        ·simp [zjh, AV.sc, AV.scV, AV.scA, AV.scB]
        ·rw [htj]; exact zsZ hcj hm2
        ·rw [htj]
     ·obtain rfl : j = D.cons.length := by omega
      rw [List.drop_length, List.all_nil] at hoc
      rw [List.take_length] at *
      simp [zou]
      rw [zas (by omega) (by omega)]
      have hce : zaL (data.take i) ++ D.cons.map Con.name = zaL (data.take (i + 1)) := by rw [htk]; simp [zaL]
      rw [hce] at hcj ⊢
      refine hKb _ _ ⟨data.length - (i + 1), by omega, Back.at (J := []) (by simp) (by simp) (hscH _ _) ?_ ⟨_, rfl, i + 1, by omega, rfl, by simp, ?_, hdn', hcj, rfl⟩⟩
      ·simp [zji, AV.sc, AV.scV, AV.scA, AV.scB]
      ·rw [← ho, hdat, ← hoc, Bool.true_and]
   ·obtain rfl : i = data.length := by omega
    rw [List.drop_length, zcs] at ho
    rw [List.take_length] at *
    simp [zov]
    have := hO [.map (zbM (zbk data)), .map (zbM (zaL data))]
    rwa [show zbf data = true by simp [zbf, h12, ← ho, znp hdn, znp hcn]] at this
 ·have h12' : (12 : Int) < data.length := by omega
  have h12'' : 12 < data.length := by omega
  rw [show zbf data = false by simp [zbf, h12]] at hO
  simp [zot, h12', h12'']
  simpa using hO []
def zrc (c : Con) : Prop := c.name.length ≤ 40 ∧ c.args.length ≤ 8 ∧ ∀ t ∈ c.args, t.nodes ≤ 20
def zlH (d : Dat) : Prop := d.name.length ≤ 40 ∧ d.cons.length ≤ 10 ∧ ∀ c ∈ d.cons, zrc c
def za8 (ds : List Dat) : Prop := ds.length ≤ 14 ∧ ∀ d ∈ ds, zlH d
theorem zgb {α : Type} {l : List α} {i : Nat} (h : i < l.length) {p : α → Prop} (h1 : ∀ x ∈ l.take i, p x) (h2 : p l[i]) : ∀ x ∈ l.take (i + 1), p x := by
 rw [List.take_succ_eq_append_getElem h]
 intro x hx
 rcases List.mem_append.1 hx with hx | hx
 ·exact h1 x hx
 ·simp at hx; subst hx; exact h2
theorem zsK {α : Type} {cs : α → List AV} {l : List α} {i : Nat} (h : i < l.length) : (l.map cs)[i]?.getD [] = cs l[i] := by simp [h]
theorem vt3 (v : VT) : ∃ a b c, v.cs = [a, b, c] ∧ a.known = true ∧ b.known = true ∧ c.known = true := by
 obtain ⟨k, n, ks⟩ := v; exact ⟨_, _, _, rfl, rfl, rfl, rfl⟩
theorem zIu (ds : List Dat) (H : zaa) (K : AV → zaa → Prop) (hlen : ds.length ≤ 9223372036854775807) (hK : ∀ b, (b = true → za8 ds) → K (.bool b) H) : ACalls tP zmX [.sl (ds.map Dat.cs) .none] H K := by
 refine ACalls.out (zIs fun hs => ?_)
 have hF : ∀ J, Out H.length K (.bool false) (H ++ J) := fun J => Out.bool rfl (Nat.le_refl _) hs (hK false fun h => by cases h)
 have hF0 : Out H.length K (.bool false) H := by simpa using hF []
 by_cases h14 : ds.length > 14
 ·have : (14 : Int) < ds.length := by omega
  simp [zpp, this]
  exact hF0
 have : ¬ (14 : Int) < ds.length := by omega
 simp [zpp, this]
 refine zIp (Inv := fun q t15 H' => ∃ i : Nat, i ≤ ds.length ∧ q = ds.length - i ∧ t15 = .int .i64 i ∧ (∀ d ∈ ds.take i, zlH d) ∧ H = H') ds.length ?_ ?_
 ·intro _; exact ⟨0, by omega, by omega, rfl, by simp, rfl⟩
 ·rintro q t15 H' ⟨i, hi, rfl, rfl, ha, rfl⟩ hsc hl hsF Kb4 hKb4
  by_cases hil : i < ds.length
  ·have hat : (ds.map Dat.cs)[i]?.getD [] = [.str ds[i].name, .int .i64 ds[i].vars, .sl (ds[i].cons.map Con.cs) .none] := zsK hil
   have next : zlH ds[i] → ∀ J, Kb4 (zgU (.sl (ds.map Dat.cs) .none) (.int .i64 ds.length) (.int .i64 (i + 1))) (H ++ J) := by
    intro hd J
    refine hKb4 _ _ ⟨ds.length - (i + 1), by omega, Back.same (Nat.le_refl _) hs ?_ ⟨_, rfl, i + 1, by omega, rfl, by simp, zgb hil ha hd, rfl⟩⟩
    simp [zgU, AV.sc, AV.scV, AV.scA, AV.scB]
   generalize hdd : ds[i] = d at *
   simp [zpr, hil, hat, AV.known, hdd, Dat.cs]
   by_cases hn : d.name.length > 40
   ·have : (40 : Int) < d.name.length := by omega
    simp [this]
    exact hF _
   have hn' : ¬ (40 : Int) < d.name.length := by omega
   by_cases hc : d.cons.length > 10
   ·have : (10 : Int) < d.cons.length := by omega
    simp [hn', this]
    exact hF _
   have hc' : ¬ (10 : Int) < d.cons.length := by omega
   simp [hn', hc']
   refine zIq (Inv := fun q t32 H' => ∃ j : Nat, j ≤ d.cons.length ∧ q = d.cons.length - j ∧ t32 = .int .i64 j ∧ (∀ c ∈ d.cons.take j, zrc c) ∧ H' = H ++ [.cells [.str d.name, .int .i64 d.vars, .sl (d.cons.map Con.cs) .none]]) d.cons.length ?_ ?_
   ·intro _; exact ⟨0, by omega, by omega, rfl, by simp, rfl⟩
   ·rintro q t32 H' ⟨j, hj, rfl, rfl, hb, rfl⟩ hsc9 hl9 hsF9 Kb9 hKb9
    by_cases hjl : j < d.cons.length
    ·have hat : (d.cons.map Con.cs)[j]?.getD [] = [.str d.cons[j].name, .sl (VT.css d.cons[j].args) .none] := zsK hjl
     generalize hcc : d.cons[j] = c at *
     simp [zps, hjl, hat, AV.known, hcc, Con.cs]
     by_cases hn : c.name.length > 40
     ·have : (40 : Int) < c.name.length := by omega
      simp [this]
      exact hF _
     have hn' : ¬ (40 : Int) < c.name.length := by omega
     by_cases hc : c.args.length > 8
     ·have : (8 : Int) < c.args.length := by omega
      simp [hn', this]
      exact hF _
     have hc' : ¬ (8 : Int) < c.args.length := by omega
     simp [hn', hc']
     refine zIo (Inv := fun q t49 H' => ∃ (k : Nat) (l : Int), k ≤ c.args.length ∧ q = c.args.length - k ∧ t49 = .int .i64 k ∧ -1 ≤ l ∧ l ≤ 20 ∧ (∀ t ∈ c.args.take k, t.nodes ≤ 20) ∧ H' = H ++ [.cells [.str d.name, .int .i64 d.vars, .sl (d.cons.map Con.cs) .none], .cells [.str c.name, .sl (VT.css c.args) .none], .cells [.int .i64 l]]) c.args.length ?_ ?_
     ·intro _; exact ⟨0, 20, by omega, by omega, rfl, by omega, by omega, by simp, rfl⟩
     ·rintro q t49 H' ⟨k, l, hk, rfl, rfl, hl0, hl1, hb15, rfl⟩ hsc15 hl15 hsF15 Kb15 hKb15
      by_cases hkl : k < c.args.length
      ·obtain ⟨x, y, z, hv, hx, hy, hz⟩ := vt3 c.args[k]
       simp [zpq, hkl, hv, hx, hy, hz]
       rw [← hv]
       refine zyc _ _ (Nat.le_refl _) l (by omega) hl0 _ (H.length + 2) (by simp) _ ?_ ?_
       ·intro hle
        simp
        rw [zas (by omega) (by omega)]
        refine hKb15 _ _ ⟨c.args.length - (k + 1), by omega, Back.at (J := [_]) (H2 := H ++ [.cells [.str d.name, .int .i64 d.vars, .sl (d.cons.map Con.cs) .none], .cells [.str c.name, .sl (VT.css c.args) .none], .cells [.int .i64 (l - c.args[k].nodes)]]) (by simp; rfl) (by simp) (hs.append rfl) ?_ ⟨_, rfl, k + 1, l - c.args[k].nodes, by omega, rfl, by simp, by omega, by omega, zgb hkl hb15 (by omega), rfl⟩⟩
        simp [zj1, AV.sc, AV.scV, AV.scA, AV.scB]
       ·intro hle l'
        simp
        exact hF _
      ·obtain rfl : k = c.args.length := by omega
       rw [List.take_length] at hb15
       simp [zpq]
       rw [zas (by omega) (by omega)]
       refine hKb9 _ _ ⟨d.cons.length - (j + 1), by omega, Back.at (J := [_, _]) (H2 := H ++ [.cells [.str d.name, .int .i64 d.vars, .sl (d.cons.map Con.cs) .none]]) (by simp; exact ⟨rfl, rfl⟩) (by simp) (hs.append rfl) ?_ ⟨_, rfl, j + 1, by omega, rfl, by simp, zgb hjl hb (by rw [hcc]; exact ⟨by omega, by omega, hb15⟩), rfl⟩⟩
       simp [zj2, AV.sc, AV.scV, AV.scA, AV.scB]
    ·obtain rfl : j = d.cons.length := by omega
     rw [List.take_length] at hb
     simp [zps]
     rw [zas (by omega) (by omega)]
     exact next ⟨by omega, by omega, hb⟩ _
  ·obtain rfl : i = ds.length := by omega
   rw [List.take_length] at ha
   simp [zpr]
   exact Out.bool (J := []) (by simp) (Nat.le_refl _) hs (hK true fun _ => ⟨by omega, ha⟩)
def zdC (data : List Dat) (d : Nat) (vars : Int) (t : VT) : Bool := zbz d vars t || zaO (data.take d) vars t
structure RCon (data : List Dat) (d : Nat) (vars : Int) (c : Con) : Prop where
 up : zcz c.name = true
 len : c.args.length ≤ 6
 args : ∀ x ∈ c.args, zdC data d vars x = true
structure RDat (data : List Dat) (d : Nat) (D : Dat) : Prop where
 v0 : 0 ≤ D.vars
 v6 : D.vars ≤ 6
 c1 : 1 ≤ D.cons.length
 c8 : D.cons.length ≤ 8
 up : zcz D.name = true
 cons : ∀ c ∈ D.cons, RCon data d D.vars c
structure RData (data : List Dat) : Prop where
 len : data.length ≤ 12
 dats : ∀ d (h : d < data.length), RDat data d data[d]
 names : (zbk data).Nodup
 cons : (zaL data).Nodup
theorem znL {α : Type} {l : List α} {i : Nat} (h : i < l.length) : l.take (i + 1) = l.take i ++ [l[i]] := by rw [List.take_append_getElem h]
theorem zrV : ∀ l : List Dat, (∀ D ∈ l, D.cons.length ≤ 10) → (zaL l).length ≤ l.length * 10
 | [], _ => by simp [zaL]
 | D :: l, h => by
  have h1 := zrV l (fun D hD => h D (by simp [hD]))
  have h2 := h D (by simp)
  rw [zaL] at h1 ⊢
  rw [List.flatMap_cons, List.length_append, List.length_map, List.length_cons]; omega
theorem zzN {data : List Dat} {d : Nat} (h : d < data.length) : zbk (data.take (d + 1)) = zbk (data.take d) ++ [(data[d]).name] := by
 rw [zbk, znL h, List.map_append]; rfl
theorem zzy {data : List Dat} {d : Nat} (h : d < data.length) : zaL (data.take (d + 1)) = zaL (data.take d) ++ (data[d]).cons.map Con.name := by
 rw [zaL, znL h, List.flatMap_append]; simp [zaL]
theorem zt7 (l : List (List UInt8)) (s : List UInt8) : strs (l ++ [s]) = strs l ++ [[.str s]] := by simp [strs]
theorem zrM {s : List UInt8} {k : AV → Prop} : zaz 1 [.str []] 1 [(0, .str s)] k = k (.sl [[.str s]] .full) := propext Iff.rfl
theorem ztD (l : List (List UInt8)) (hl : l.length ≤ 1000000) {tok : Tok} (H : zaa) (K : AV → zaa → Prop) (hK : K (.bool (zb2 l)) H) : ACalls tP zgs [.sl (strs l) tok] H K :=
 ACalls.wk (zMl l hl H K hK) ⟨.atom (.sl _ _), trivial⟩
theorem zzB {D : Dat} {i : Nat} (h : i < D.cons.length) : (D.cons.map Con.cs)[i]?.getD [] = [.str (D.cons[i]).name, .sl (VT.css (D.cons[i]).args) .none] := by simp [h, Con.cs]
theorem zxm (data : List Dat) (hkd : za8 data) (H : zaa) (K : AV → zaa → Prop) (hK : ∀ b, (b = true ↔ RData data) → K (.bool b) H) : ACalls tP zhV [.sl (data.map Dat.cs) .none] H K := by
 refine ACalls.out (zI8 fun hs => ?_)
 obtain ⟨kl, kd⟩ := hkd
 have hF : ¬ RData data → ∀ J, Out H.length K (.bool false) (H ++ J) := fun h J => Out.bool rfl (Nat.le_refl _) hs (hK _ (by simp [h]))
 have hT : ∀ b : Bool, (b = true ↔ RData data) → ∀ J, Out H.length K (.bool b) (H ++ J) := fun b h J => Out.bool rfl (Nat.le_refl _) hs (hK _ h)
 by_cases h12 : data.length > 12
 ·have h12' : (12 : Int) < data.length := by omega
  simp [zpE, h12']
  have := hF (fun h => by have := h.len; omega) []
  simpa using this
 have h12' : ¬ (12 : Int) < data.length := by omega
 simp [zpE, h12']
 unfold zkd
 refine ALoop.own 3 zbQ 1 rfl ?_
 refine ALoop.own 4 zbQ 1 rfl ?_
 rw [List.append_assoc]
 have hcn : ∀ d, (zaL (data.take d)).length ≤ 140 := fun d => by
  have := zrV (data.take d) (fun D hD => (kd D (List.mem_of_mem_take hD)).2.1)
  rw [List.length_take] at this
  have : min d data.length * 10 ≤ 14 * 10 := Nat.mul_le_mul_right _ (by omega)
  omega
 have hl1 : (H ++ [AB.perm zbQ 1 0]).length = H.length + 1 := by simp
 rw [hl1]
 show zkd (.sl (data.map Dat.cs) .none) (.sl [] (.own H.length)) (.sl [] (.own (H.length + 1))) (.int .i64 0) (H ++ [.perm zbQ 1 0, .perm zbQ 1 0]) (Out H.length K)
 have hsP : ∀ m n, HSc (H ++ [.perm zbQ 1 m, .perm zbQ 1 n]) := fun m n => hs.append rfl
 refine zI6 (Inv := fun q t3 t4 t5 H' => ∃ d : Nat, d ≤ data.length ∧ q = data.length - d ∧ t5 = .int .i64 d ∧ t3 = .sl (strs (zbk (data.take d))) (.own H.length) ∧ t4 = .sl (strs (zaL (data.take d))) (.own (H.length + 1)) ∧ (∀ j (h : j < data.length), j < d → RDat data j data[j]) ∧ H' = H ++ [.perm zbQ 1 d, .perm zbQ 1 (zaL (data.take d)).length]) data.length ?_ ?_
 ·intro _; exact ⟨0, by omega, by omega, rfl, by simp [zbk, strs], by simp [zaL, strs], by omega, by simp [zaL]⟩
 ·rintro q t3 t4 t5 H' ⟨d, hd, rfl, rfl, rfl, rfl, hok, rfl⟩ hsc hlen hsF Kb hKb
  by_cases hlt : d < data.length
  ·have hbad : ¬ RDat data d data[d] → ∀ J, Out H.length K (.bool false) (H ++ J) := fun h => hF fun hh => h (hh.dats d hlt)
   have hcd := hcn d
   have hds := zzN hlt
   have hcs := zzy hlt
   obtain ⟨kn, kc, kcc⟩ := kd _ (List.getElem_mem hlt)
   have hdl : (zbk (data.take d)).length = d := by simp [zbk]; omega
   generalize hD : data[d] = D at *
   have hge : (data.map Dat.cs)[d]?.getD [] = [.str D.name, .int .i64 D.vars, .sl (D.cons.map Con.cs) .none] := by simp [hlt, hD, Dat.cs]
   by_cases hv0 : D.vars < 0
   ·simp [zeO, hlt, hD, Dat.cs, hv0]
    exact hbad (fun h => by have := h.v0; omega) _
   by_cases hv6 : 6 < D.vars
   ·simp [zeO, hlt, hD, Dat.cs, hv0, hv6]
    exact hbad (fun h => by have := h.v6; omega) _
   by_cases hc1 : D.cons.length < 1
   ·have hc1' : (D.cons.length : Int) < 1 := by omega
    simp [zeO, hlt, hD, Dat.cs, hv0, hv6, hc1']
    exact hbad (fun h => by have := h.c1; omega) _
   have hc1' : ¬ (D.cons.length : Int) < 1 := by omega
   by_cases hc8 : 8 < D.cons.length
   ·have hc8' : (8 : Int) < D.cons.length := by omega
    simp [zeO, hlt, hD, Dat.cs, hv0, hv6, hc1', hc8']
    exact hbad (fun h => by have := h.c8; omega) _
   have hc8' : ¬ (8 : Int) < D.cons.length := by omega
   simp [zeO, hlt, hD, Dat.cs, hv0, hv6, hc1', hc8']
   refine zym _ _ _ ?_
   cases hup : zcz D.name with
   | false => simp; exact hbad (fun h => by have := h.up; rw [hup] at this; cases this) _
   | true =>
   simp [zrM]
   simp [zax, zaW, zaN, hdl]
   refine ⟨by omega, ?_⟩
   rw [← zt7, ← hds]
   refine zI4 (Inv := fun q t4 t7 H' => ∃ k : Nat, k ≤ D.cons.length ∧ q = D.cons.length - k ∧ t7 = .int .i64 k ∧ t4 = .sl (strs (zaL (data.take d) ++ (D.cons.map Con.name).take k)) (.own (H.length + 1)) ∧ (∀ c ∈ D.cons.take k, RCon data d D.vars c) ∧ H' = H ++ [.perm zbQ 1 (d + 1), .perm zbQ 1 ((zaL (data.take d)).length + k), .cells [.str D.name, .int .i64 D.vars, .sl (D.cons.map Con.cs) .none]]) D.cons.length ?_ ?_
   ·intro _; exact ⟨0, by omega, by omega, rfl, by simp, by simp, by simp⟩
   ·rintro q t4 t7 H' ⟨k, hk, rfl, rfl, rfl, hck, rfl⟩ hsc1 hlen1 hsF1 Kb1 hKb1
    have hlk : (zaL (data.take d) ++ (D.cons.map Con.name).take k).length = (zaL (data.take d)).length + k := by simp; omega
    by_cases hkl : k < D.cons.length
    ·have hkI : (k : Int) < D.cons.length := by omega
     have hca := zzB hkl
     have hcbad : ¬ RCon data d D.vars D.cons[k] → ∀ J, Out H.length K (.bool false) (H ++ J) := fun h => hbad fun hh => h (hh.cons _ (List.getElem_mem hkl))
     have hns : zaL (data.take d) ++ (D.cons.map Con.name).take (k + 1) = (zaL (data.take d) ++ (D.cons.map Con.name).take k) ++ [(D.cons[k]).name] := by rw [znL (by simpa using hkl)]; simp
     obtain ⟨_, ka, kan⟩ := kcc _ (List.getElem_mem hkl)
     generalize hC : D.cons[k] = C at *
     simp [zpF, hkl, hC, Con.cs]
     refine zym _ _ _ ?_
     cases hupc : zcz C.name with
     | false => simp; exact hcbad (fun h => by have := h.up; rw [hupc] at this; cases this) _
     | true =>
     by_cases ha6 : 6 < C.args.length
     ·have ha6' : (6 : Int) < C.args.length := by omega
      simp [hkl, hC, Con.cs, ha6']
      exact hcbad (fun h => by have := h.len; omega) _
     have ha6' : ¬ (6 : Int) < C.args.length := by omega
     simp [hkl, hC, Con.cs, ha6', zrM]
     generalize hA : zaL (data.take d) ++ (D.cons.map Con.name).take k = A at *
     have hAl : A.length = (zaL (data.take d)).length + k := hlk
     simp [zax, zaW, zaN, hAl, hkl, hC, Con.cs]
     refine ⟨by omega, ?_⟩
     rw [← zt7, ← hns]
     refine zI5 (Inv := fun q t95 H' => ∃ i : Nat, i ≤ C.args.length ∧ q = C.args.length - i ∧ t95 = .int .i64 i ∧ (∀ x ∈ C.args.take i, zdC data d D.vars x = true) ∧ H' = H ++ [.perm zbQ 1 (d + 1), .perm zbQ 1 ((zaL (data.take d)).length + k + 1), .cells [.str D.name, .int .i64 D.vars, .sl (D.cons.map Con.cs) .none]]) C.args.length ?_ ?_
     ·intro _; exact ⟨0, by omega, by omega, rfl, by simp, rfl⟩
     ·rintro q t95 H' ⟨i, hi, rfl, rfl, hok3, rfl⟩ hsc2 hlen2 hsF2 Kb2 hKb2
      by_cases hil : i < C.args.length
      ·have hxn := kan _ (List.getElem_mem hil)
       have habad : zdC data d D.vars C.args[i] = false → ∀ J, Out H.length K (.bool false) (H ++ J) := fun h => hcbad fun hh => by
        have := hh.args _ (List.getElem_mem hil)
        rw [h] at this; cases this
       obtain ⟨x, y, z, hvx, hx, hy, hz⟩ := vt3 C.args[i]
       have good : zdC data d D.vars C.args[i] = true → zkc (.sl (data.map Dat.cs) .none) (.sl (strs (zbk (data.take (d + 1)))) (.own H.length)) (.sl (strs (zaL (data.take d) ++ (D.cons.map Con.name).take (k + 1))) (.own (H.length + 1))) (.int .i64 d) (.ptr (H.length + 2) 0) (.int .i64 k) (.sl (VT.css C.args) .none) (.int .i64 C.args.length) (.int .i64 i) (H ++ [.perm zbQ 1 (d + 1), .perm zbQ 1 ((zaL (data.take d)).length + k + 1), .cells [.str D.name, .int .i64 D.vars, .sl (D.cons.map Con.cs) .none], .cells [x, y, z]]) (Out H.length K) Kb Kb1 Kb2 := fun hg => by
        simp [zkc, zxh]
        rw [zas (by omega) (by omega)]
        refine hKb2 _ _ ⟨C.args.length - (i + 1), by omega, Back.at (J := [_]) (H2 := H ++ [.perm zbQ 1 (d + 1), .perm zbQ 1 ((zaL (data.take d)).length + k + 1), .cells [.str D.name, .int .i64 D.vars, .sl (D.cons.map Con.cs) .none]]) (by simp; rfl) (by simp) hsc2 ?_ ⟨_, rfl, i + 1, by omega, rfl, by simp, zgb hil hok3 hg, rfl⟩⟩
        simp [zka, AV.sc, AV.scV, AV.scA, AV.scB]
       simp [zpG, hil, hvx, hx, hy, hz]
       rw [← hvx]
       refine zrb _ _ _ (by omega) _ _ ?_
       cases hself : zbz d D.vars C.args[i] with
       | true =>
        rw [hvx]
        simp
        exact good (by simp [zdC, hself])
       | false =>
        simp [hvx]
        refine ⟨⟨by omega, fun a _ => rfl⟩, ?_⟩
        rw [← List.map_take, ← hvx]
        refine zaF (.bool (zaO (data.take d) D.vars C.args[i])) (fun J => zpK (data.take d) (by simp; omega) _ _ (by omega) _ _ ⟨rfl, rfl⟩) ?_
        cases hty : zaO (data.take d) D.vars C.args[i] with
        | false => simp; exact habad (by simp [zdC, hself, hty]) _
        | true =>
         rw [hvx]
         simp
         exact good (by simp [zdC, hty])
      ·obtain rfl : i = C.args.length := by omega
       rw [List.take_length] at *
       simp [zpG]
       rw [zas (by omega) (by omega)]
       refine hKb1 _ _ ⟨D.cons.length - (k + 1), by omega, Back.here (by simp) hsc2 ?_ ⟨_, _, rfl, k + 1, by omega, rfl, by simp, rfl, ?_, by simp [Nat.add_assoc]⟩⟩
       ·simp [zj9, AV.sc, AV.scV, AV.scA, AV.scB]
       ·exact zgb hkl hck (by rw [hC]; exact ⟨hupc, by omega, hok3⟩)
    ·obtain rfl : k = D.cons.length := by omega
     rw [List.take_length] at *
     simp [zpF]
     rw [zas (by omega) (by omega)]
     refine hKb _ _ ⟨data.length - (d + 1), by omega, Back.at (J := [_]) (H2 := H ++ [.perm zbQ 1 (d + 1), .perm zbQ 1 (zaL (data.take (d + 1))).length]) (by rw [hcs]; simp; rfl) (by simp) (hsP _ _) ?_ ⟨_, _, _, rfl, d + 1, by omega, rfl, by simp, rfl, by rw [hcs]; exact congrArg (fun l => AV.sl (strs (zaL (data.take d) ++ l)) (.own (H.length + 1))) (List.take_of_length_le (Nat.le_of_eq (List.length_map _))), fun j hj hji => ?_, rfl⟩⟩
     ·simp [zkb, AV.sc, AV.scV, AV.scA, AV.scB]
     ·by_cases hjd : j = d
      ·subst hjd; rw [hD]; exact ⟨by omega, by omega, by omega, by omega, hup, hck⟩
      ·exact hok j hj (by omega)
  ·obtain rfl : d = data.length := by omega
   rw [List.take_length] at *
   have hdn : (zbk data).length = data.length := by simp [zbk]
   have hcn' := hcn data.length
   rw [List.take_length] at hcn'
   simp [zeO]
   refine ztD _ (by omega) _ _ ?_
   cases hr : zb2 (zbk data) with
   | true =>
    simp
    refine hT _ ?_ _
    simp
    intro h
    have := znp h.names
    rw [hr] at this; cases this
   | false =>
    simp
    refine ztD _ (by omega) _ _ ?_
    refine hT _ ?_ _
    simp only [zb2, Bool.not_eq_false', decide_eq_true_eq, Bool.not_not] at hr ⊢
    exact ⟨fun h => ⟨by omega, fun j hj => hok j hj hj, hr, h⟩, fun h => h.cons⟩
mutual
theorem zBe : ∀ v w : VT, v.same w = true ↔ v = w
 | .mk k n ks, .mk k' n' ks' => by
  have h := ztL ks ks'
  simp only [VT.same, Bool.and_eq_true, beq_iff_eq, VT.mk.injEq, h, and_assoc]
theorem ztL : ∀ v w : List VT, VT.sameL v w = true ↔ v = w
 | v :: vs, w :: ws => by
  have h1 := zBe v w
  have h2 := ztL vs ws
  simp only [VT.sameL, Bool.and_eq_true, List.cons.injEq, h1, h2]
 | [], [] => by simp [VT.sameL]
 | [], _ :: _ => by simp [VT.sameL]
 | _ :: _, [] => by simp [VT.sameL]
end
theorem ziy {α : Type} (l : List α) (d n : Nat) : (l.take d)[n]? = if n < d then l[n]? else none := by
 by_cases h : n < d
 ·rw [if_pos h, List.getElem?_take_of_lt h]
 ·rw [if_neg h, List.getElem?_eq_none (by rw [List.length_take]; omega)]
theorem zBm {data : List Dat} {d : Nat} {vars k n : Int} {len : Nat} (h : (k == 5 && n == (d : Int)) = false) : za0 (data.take (d + 1)) vars k n len = za0 (data.take d) vars k n len := by
 unfold za0
 by_cases h5 : k = 5
 ·subst h5
  have hn : n ≠ d := by simpa using h
  simp only [ziy]
  by_cases h0 : 0 ≤ n
  ·have : (n.toNat < d + 1) = (n.toNat < d) := by
    apply propext; omega
   simp [this]
  ·simp [h0]
 ·have : (k == 5) = false := by simpa using h5
  simp [this]
mutual
theorem zuu (data : List Dat) (d : Nat) (vars : Int) : ∀ t : VT, zb7 d t = false → zaQ (data.take (d + 1)) vars t = zaQ (data.take d) vars t
 | .mk k n ks => by
  intro h
  simp only [zb7, Bool.or_eq_false_iff] at h
  rw [zaQ, zaQ, zBm h.1, zur data d vars ks h.2]
theorem zur (data : List Dat) (d : Nat) (vars : Int) : ∀ l : List VT, zd3 d l = false → za1 (data.take (d + 1)) vars l = za1 (data.take d) vars l
 | [] => fun _ => rfl
 | t :: ts => by
  intro h
  simp only [zd3, Bool.or_eq_false_iff] at h
  rw [za1, za1, zuu data d vars t h.1, zur data d vars ts h.2]
end
mutual
theorem zsP (data : List Dat) (d : Nat) (vars : Int) : ∀ t : VT, zaQ (data.take d) vars t = true → zb7 d t = false
 | .mk k n ks => by
  intro h
  rw [zaQ, Bool.and_eq_true] at h
  rw [zb7, zsO data d vars ks h.2, Bool.or_false]
  by_cases h5 : k = 5
  ·subst h5
   have h1 := h.1
   simp [za0, ziy] at h1
   obtain ⟨h0, h2⟩ := h1
   by_cases hn : n = d
   ·subst hn
    simp at h2
   ·simpa using hn
  ·have : (k == 5) = false := by simpa using h5
   simp [this]
theorem zsO (data : List Dat) (d : Nat) (vars : Int) : ∀ l : List VT, za1 (data.take d) vars l = true → zd3 d l = false
 | [] => fun _ => rfl
 | t :: ts => by
  intro h
  rw [za1, Bool.and_eq_true] at h
  rw [zd3, zsP data d vars t h.1, zsO data d vars ts h.2]; rfl
end
theorem ztO (data : List Dat) (vars : Int) : ∀ (l : List VT) (i : Nat), zcj l i = true → ((i + l.length : Nat) : Int) ≤ vars → za1 data vars l = true ∧ VT.nodesL l = l.length
 | [], i, _, _ => ⟨rfl, rfl⟩
 | .mk k n ks :: l, i, h, hv => by
  rw [zcj, Bool.and_eq_true] at h
  obtain ⟨h1, h2⟩ := h
  simp only [zf8, Bool.and_eq_true, beq_iff_eq] at h1
  obtain ⟨⟨rfl, rfl⟩, h3⟩ := h1
  have hk : ks = [] := List.eq_nil_of_length_eq_zero h3
  subst hk
  obtain ⟨h4, h5⟩ := ztO data vars l (i + 1) h2 (by simp at hv ⊢; omega)
  simp at hv
  constructor
  ·simp [za1, zaQ, za0, h4]
   omega
  ·simp [VT.nodesL, VT.nodes, h5]; omega
theorem zrz (data : List Dat) (d : Nat) (hd : d < data.length) (h0 : 0 ≤ (data[d]).vars) (h6 : (data[d]).vars ≤ 6) (t : VT) : zdg data d (data[d]).vars t = zdC data d (data[d]).vars t := by
 unfold zdg zdC
 cases hs : zbz d (data[d]).vars t with
 | true =>
  obtain ⟨k, n, ks⟩ := t
  simp only [zbz, Bool.and_eq_true, beq_iff_eq] at hs
  obtain ⟨⟨⟨rfl, rfl⟩, hl⟩, hs⟩ := hs
  obtain ⟨h1, h2⟩ := ztO (data.take (d + 1)) (data[d]).vars ks 0 hs (by simp; omega)
  have hty : zaO (data.take (d + 1)) (data[d]).vars (.mk 5 d ks) = true := by
   simp [zaO, zaQ, h1, VT.nodes, h2, za0, ziy, hd, hl]
   omega
  simp [hty]
 | false =>
  simp only [Bool.false_or]
  unfold zaO
  cases hm : zb7 d t with
  | false => rw [zuu data d _ t hm]; simp
  | true =>
   have : zaQ (data.take d) (data[d]).vars t = false := by
    cases h : zaQ (data.take d) (data[d]).vars t with
    | false => rfl
    | true => rw [zsP data d _ t h] at hm; cases hm
   simp [this]
theorem zl7 (data : List Dat) : ∀ (l : List Dat) (d : Nat), zcs data l d = true ↔ ∀ j (h : j < l.length), zch data (d + j) l[j] = true
 | [], d => by simp [zcs]
 | D :: l, d => by
  rw [zcs, Bool.and_eq_true, zl7 data l (d + 1)]
  constructor
  ·rintro ⟨h1, h2⟩ j hj
   cases j with
   | zero => exact h1
   | succ j =>
    have := h2 j (by simpa using hj)
    rw [show d + (j + 1) = d + 1 + j by omega]
    simpa using this
  ·intro h
   refine ⟨h 0 (by simp), fun j hj => ?_⟩
   have := h (j + 1) (by simpa using hj)
   rw [show d + (j + 1) = d + 1 + j by omega] at this
   simpa using this
theorem zr5 (data : List Dat) : zbf data = true ↔ RData data := by
 unfold zbf
 simp only [Bool.and_eq_true, decide_eq_true_eq, zl7, zb2, Bool.not_not, Nat.zero_add]
 constructor
 ·rintro ⟨⟨⟨h1, h2⟩, h3⟩, h4⟩
  refine ⟨h1, fun d hd => ?_, h3, h4⟩
  have := h2 d hd
  simp only [zch, Bool.and_eq_true, decide_eq_true_eq, List.all_eq_true] at this
  obtain ⟨⟨⟨⟨⟨q1, q2⟩, q3⟩, q4⟩, q5⟩, q6⟩ := this
  refine ⟨q2, q3, q4, q5, q1, fun c hc => ?_⟩
  have := q6 c hc
  simp only [zcU, Bool.and_eq_true, decide_eq_true_eq, List.all_eq_true] at this
  exact ⟨this.1, this.2.1, fun x hx => by rw [← zrz data d hd q2 q3 x]; exact this.2.2 x hx⟩
 ·rintro ⟨h1, h2, h3, h4⟩
  refine ⟨⟨⟨h1, fun d hd => ?_⟩, h3⟩, h4⟩
  obtain ⟨q2, q3, q4, q5, q1, q6⟩ := h2 d hd
  simp only [zch, Bool.and_eq_true, decide_eq_true_eq, List.all_eq_true]
  refine ⟨⟨⟨⟨⟨q1, q2⟩, q3⟩, q4⟩, q5⟩, fun c hc => ?_⟩
  obtain ⟨r1, r2, r3⟩ := q6 c hc
  simp only [zcU, Bool.and_eq_true, decide_eq_true_eq, List.all_eq_true]
  exact ⟨r1, r2, fun x hx => by rw [zrz data d hd q2 q3 x]; exact r3 x hx⟩
mutual
def zau (data : List Dat) : VT → VT → Bool
 | .mk vk vn vks, .mk k n al =>
  if k = 1 then vk == 3 && decide (-1099511627776 ≤ vn) && decide (vn ≤ 1099511627776) && vks.length == 0
  else if k = 2 then vk == 2 && (vn == 0 || vn == 1) && vks.length == 0
  else if k = 3 then vk == 1 && vn == 0 && vks.length == 0
  else if k = 6 then vk == 4 && vn == 0 && zbv data vks al
  else if k = 5 then vk == 5 && decide (0 ≤ vn) && decide (vn < 8) && zdY data vks (zaR data (.mk k n al) vn)
  else if k = 7 then vk == 6 && vn == 0 && decide (vks.length ≤ 4096) && zci data vks (al.getD 0 (.mk 0 0 []))
  else if k = 8 then vk == 7 && vn == 0 && zbv data vks al
  else vk == 8 && decide (0 ≤ vn) && decide (vn < 64) && vks.length == 0
def zdY (data : List Dat) : List VT → Option (List VT) → Bool
 | _, none => false
 | [], some ts => ts.isEmpty
 | v :: vs, some ts => match ts with
  | [] => false
  | t :: ts => zau data v t && zbv data vs ts
def zbv (data : List Dat) : List VT → List VT → Bool
 | [], ts => ts.isEmpty
 | v :: vs, ts => match ts with
  | [] => false
  | t :: ts => zau data v t && zbv data vs ts
def zci (data : List Dat) : List VT → VT → Bool
 | [], _ => true
 | v :: vs, t => zau data v t && zci data vs t
end
theorem zf3 (data : List Dat) (vs ts : List VT) : zdY data vs (some ts) = zbv data vs ts := by
 cases vs with
 | nil => cases ts <;> rw [zdY, zbv]
 | cons v vs => cases ts <;> simp only [zdY, zbv]
theorem zhq (data : List Dat) (vs : List VT) : zdY data vs none = false := by cases vs <;> rw [zdY]
theorem zhs {data : List Dat} : ∀ {vs ts : List VT}, zbv data vs ts = true → vs.length = ts.length
 | [], ts, h => by rw [zbv] at h; cases ts <;> simp at h ⊢
 | v :: vs, [], h => by simp [zbv] at h
 | v :: vs, t :: ts, h => by
  simp only [zbv, Bool.and_eq_true] at h
  simp [zhs h.2]
theorem zf4 {data : List Dat} : ∀ {vs ts : List VT}, zbv data vs ts = true → ∀ (i : Nat) (h1 : i < vs.length) (h2 : i < ts.length), zau data vs[i] ts[i] = true
 | [], ts, h => by intro i h1; simp at h1
 | v :: vs, [], h => by simp [zbv] at h
 | v :: vs, t :: ts, h => by
  simp only [zbv, Bool.and_eq_true] at h
  intro i h1 h2
  cases i with
  | zero => exact h.1
  | succ i => exact zf4 h.2 i (by simpa using h1) (by simpa using h2)
theorem zBn {data : List Dat} {m : Nat} {vars k n : Int} {len : Nat} (h : za0 (data.take m) vars k n len = true) (h4 : k ≠ 4) : za0 data 0 k n len = true := by
 unfold za0 at h ⊢
 have h4' : (k == 4) = false := by simpa using h4
 rw [h4'] at h ⊢
 by_cases h5 : k = 5
 ·subst h5
  simp only [ziy] at h
  by_cases hm : n.toNat < m
  ·simpa [hm] using h
  ·simp [hm] at h
 ·have : (k == 5) = false := by simpa using h5
  simpa [this] using h
theorem zt9 (ks : List VT) : ∀ l : List VT, (zaI ks l).length = l.length
 | [] => rfl
 | t :: ts => by simp [zaI, zt9 ks ts]
mutual
theorem zuv {data : List Dat} {m : Nat} {vars : Int} {ks : List VT} (hk : ∀ x ∈ ks, zaQ data 0 x = true) (hl : (ks.length : Int) = vars) : ∀ a : VT, zaQ (data.take m) vars a = true → zaQ data 0 (subst ks a) = true
 | .mk k n al => by
  intro h
  rw [zaQ, Bool.and_eq_true] at h
  unfold subst
  by_cases h4 : k = 4
  ·have h1 := h.1
   subst h4
   simp [za0] at h1
   rw [if_pos ⟨rfl, by omega, by omega⟩]
   have hn : n.toNat < ks.length := by omega
   rw [List.getElem?_eq_getElem hn]
   exact hk _ (List.getElem_mem hn)
  ·rw [if_neg (fun h => h4 h.1), zaQ, Bool.and_eq_true, zt9]
   exact ⟨zBn h.1 h4, zus hk hl al h.2⟩
theorem zus {data : List Dat} {m : Nat} {vars : Int} {ks : List VT} (hk : ∀ x ∈ ks, zaQ data 0 x = true) (hl : (ks.length : Int) = vars) : ∀ l : List VT, za1 (data.take m) vars l = true → za1 data 0 (zaI ks l) = true
 | [] => by intro _; simp [zaI, za1]
 | t :: ts => by
  intro h
  rw [za1, Bool.and_eq_true] at h
  rw [zaI, za1, Bool.and_eq_true]
  exact ⟨zuv hk hl t h.1, zus hk hl ts h.2⟩
end
theorem zuq {data : List Dat} {vars : Int} : ∀ {l : List VT}, za1 data vars l = true → ∀ x ∈ l, zaQ data vars x = true
 | [], _ => by simp
 | t :: ts, h => by
  rw [za1, Bool.and_eq_true] at h
  intro x hx
  rcases List.mem_cons.1 hx with rfl | hx
  ·exact h.1
  ·exact zuq h.2 x hx
theorem zut {data : List Dat} {vars : Int} {k n : Int} {ks : List VT} (h : zaQ data vars (.mk k n ks) = true) : ∀ x ∈ ks, zaQ data vars x = true := by
 rw [zaQ, Bool.and_eq_true] at h
 exact zuq h.2
theorem znP {data : List Dat} {vars : Int} {k n : Int} {ks : List VT} (h : zaO data vars (.mk k n ks) = true) : ∀ x ∈ ks, zaO data vars x = true := by
 rw [zaO, Bool.and_eq_true, decide_eq_true_eq] at h
 intro x hx
 rw [zaO, Bool.and_eq_true, decide_eq_true_eq]
 exact ⟨Nat.le_trans (ze7 x hx) h.1, zut h.2 x hx⟩
theorem zzA {data : List Dat} (hD : zbf data = true) {d c : Nat} (hd : d < data.length) (hc : c < data[d].cons.length) : ∀ x ∈ (data[d].cons[c]).args, zaQ (data.take (d + 1)) data[d].vars x = true := by
 simp only [zbf, Bool.and_eq_true, zl7, Nat.zero_add] at hD
 have h1 := hD.1.1.2 d hd
 simp only [zch, Bool.and_eq_true] at h1
 have h2 := List.all_eq_true.1 h1.2 _ (List.getElem_mem hc)
 simp only [zcU, Bool.and_eq_true] at h2
 intro x hx
 have h3 := List.all_eq_true.1 h2.2.2 x hx
 simp only [zdg, zaO, Bool.and_eq_true] at h3
 exact h3.1.2
theorem ze3 {data : List Dat} {k n : Int} {ks : List VT} {c : Int} {l : List VT} (h : zaR data (.mk k n ks) c = some l) :
  k = 5 ∧ 0 ≤ n ∧ 0 ≤ c ∧ ∃ (hn : n.toNat < data.length) (hc : c.toNat < (data[n.toNat]).cons.length), (ks.length : Int) = (data[n.toNat]).vars ∧ l = ((data[n.toNat]).cons[c.toNat]).args.map (subst ks) ∧ ∀ x ∈ l, x.nodes ≤ 200 := by
 rw [zcD] at h
 split at h
 ·rename_i h5
  split at h
  ·rename_i D hD
   obtain ⟨hn, rfl⟩ := List.getElem?_eq_some_iff.1 hD
   split at h
   ·rename_i hv
    split at h
    ·rename_i C hC
     obtain ⟨hc, rfl⟩ := List.getElem?_eq_some_iff.1 hC
     split at h
     ·rename_i ha
      simp only [Option.some.injEq] at h
      subst h
      exact ⟨h5.1, h5.2.1, h5.2.2, hn, hc, hv, rfl, fun x hx => of_decide_eq_true (List.all_eq_true.1 ha x hx)⟩
     ·cases h
    ·cases h
   ·cases h
  ·cases h
 ·cases h
theorem zfZ {data : List Dat} (hD : zbf data = true) {t : VT} (ht : zaQ data 0 t = true) {c : Int} {l : List VT} (h : zaR data t c = some l) : ∀ x ∈ l, zaO data 0 x = true := by
 obtain ⟨k, n, ks⟩ := t
 obtain ⟨rfl, h0, hc0, hn, hc, hv, rfl, hsz⟩ := ze3 h
 intro x hx
 rw [zaO, Bool.and_eq_true, decide_eq_true_eq]
 refine ⟨hsz x hx, ?_⟩
 obtain ⟨a, ha, rfl⟩ := List.mem_map.1 hx
 exact zuv (zut ht) hv a (zzA hD hn hc a ha)
theorem ztP {ks : List VT} : ∀ (l : List VT) (i : Nat), zcj l i = true → i + l.length = ks.length → zaI ks l = ks.drop i
 | [], i, _, hl => by simp at hl; subst hl; simp [zaI]
 | x :: l, i, h, hl => by
  rw [zcj, Bool.and_eq_true] at h
  obtain ⟨k, n, al⟩ := x
  simp only [zf8, Bool.and_eq_true, beq_iff_eq] at h
  obtain ⟨⟨⟨rfl, rfl⟩, h3⟩, h4⟩ := h
  simp at hl
  have hi : i < ks.length := by omega
  rw [List.drop_eq_getElem_cons hi, zaI, ztP l (i + 1) h4 (by omega)]
  rw [subst, if_pos ⟨rfl, by omega, by omega⟩]
  simp [hi]
theorem ztQ {ks : List VT} {d vars : Int} {a : VT} (h : zbz d vars a = true) (hl : (ks.length : Int) = vars) : subst ks a = .mk 5 d ks := by
 obtain ⟨k, n, al⟩ := a
 simp only [zbz, Bool.and_eq_true, beq_iff_eq] at h
 obtain ⟨⟨⟨rfl, rfl⟩, h3⟩, h4⟩ := h
 rw [subst, if_neg (fun h => by have := h.1; omega)]
 have := ztP (ks := ks) al 0 h4 (by omega)
 rw [this, List.drop_zero]
def zbE (d : Nat) (D : Dat) (C : Con) : List Bool := C.args.map (zbz d D.vars)
def zbd (data : List Dat) (d : Nat) : List (List Bool) := match data[d]? with
 | some D => D.cons.map (zbE d D)
 | none => []
mutual
def zbl (rs : List (List Bool)) : VT → List VT
 | .mk k n ks => .mk k n ks :: zbD rs ks (rs.getD n.toNat [])
def zbD (rs : List (List Bool)) : List VT → List Bool → List VT
 | [], _ => []
 | v :: vs, bs => match bs with
  | [] => []
  | b :: bs => (if b = true then zbl rs v else []) ++ zbD rs vs bs
end
mutual
theorem zin (rs : List (List Bool)) : ∀ v : VT, (zbl rs v).length ≤ v.nodes
 | .mk k n ks => by
  have := znk rs ks (rs.getD n.toNat [])
  simp only [zbl, VT.nodes, List.length_cons]
  omega
theorem znk (rs : List (List Bool)) : ∀ (vs : List VT) (bs : List Bool), (zbD rs vs bs).length ≤ VT.nodesL vs
 | [], _ => by simp [zbD, VT.nodesL]
 | v :: vs, [] => by simp [zbD]
 | v :: vs, b :: bs => by
  have h1 := zin rs v
  have h2 := znk rs vs bs
  simp only [zbD, VT.nodesL, List.length_append]
  split
  ·omega
  ·simp; omega
end
theorem zf5 {data : List Dat} {n : Int} {al : List VT} {vk vn : Int} {vks : List VT} (h : zau data (.mk vk vn vks) (.mk 5 n al) = true) :
  vk = 5 ∧ 0 ≤ n ∧ 0 ≤ vn ∧ vn < 8 ∧ ∃ (hn : n.toNat < data.length) (hc : vn.toNat < (data[n.toNat]).cons.length), vks.length = ((data[n.toNat]).cons[vn.toNat]).args.length ∧ (al.length : Int) = (data[n.toNat]).vars ∧
   (zbd data n.toNat).getD vn.toNat [] = zbE n.toNat data[n.toNat] (data[n.toNat]).cons[vn.toNat] ∧ (zbd data n.toNat).length = (data[n.toNat]).cons.length ∧
   ∀ (i : Nat) (hi : i < vks.length) (h2 : i < ((data[n.toNat]).cons[vn.toNat]).args.length), zbz n.toNat (data[n.toNat]).vars ((data[n.toNat]).cons[vn.toNat]).args[i] = true → zau data vks[i] (.mk 5 n al) = true := by
 simp only [zau] at h
 simp at h
 obtain ⟨⟨⟨h1, h2⟩, h3⟩, h4⟩ := h
 cases hf : zaR data (.mk 5 n al) vn with
 | none => rw [hf, zhq] at h4; cases h4
 | some l =>
  rw [hf, zf3] at h4
  obtain ⟨_, k1, k2, hn, hc, hv, rfl, _⟩ := ze3 hf
  have hlen := zhs h4
  simp at hlen
  refine ⟨h1, k1, h2, h3, hn, hc, hlen, hv, ?_, ?_, ?_⟩
  ·simp [zbd, List.getElem?_eq_getElem hn, hc, List.getD_eq_getElem?_getD]
  ·simp [zbd, List.getElem?_eq_getElem hn]
  ·intro i hi hi2 hself
   have := zf4 h4 i hi (by simpa using hi2)
   rw [List.getElem_map, ztQ hself (by simpa using hv)] at this
   rwa [show ((n.toNat : Nat) : Int) = n by omega] at this
end Go.Proofs.YtjkkonpjecoieaaGreat
