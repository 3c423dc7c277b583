import Derived.Test.YtkdmpbhbmmhijaaKY15
import Derived.Test.YtkdmpbhbmmhijaaKY10
import Derived.Test.YtkdmpbhbmmhijaaKGR
set_option linter.unusedSimpArgs false
set_option linter.unusedVariables false
namespace Go.Proofs.Ytkdmpbhbmmhijaa
open Go Go.Abs
set_option maxRecDepth 8000
def zbk (l : List (List UInt8)) : List (List UInt8 × AV) := l.map fun s => (s, .bool true)
theorem zdN (s : List UInt8) : ∀ l : List (List UInt8), (zb4 (zbk l) s).getD (.bool false) = .bool (decide (s ∈ l))
 | [] => by simp [zbk, zb4]
 | a :: l => by
  have := zdN s l
  cases h : a == s with
  | true =>
   have h' : a = s := by simpa using h
   simp [zbk, zb4, h, h']
  | false =>
   have h' : a ≠ s := by simpa using h
   have h'' : s ≠ a := fun e => h' e.symm
   simp only [zbk, List.map_cons, zb4, h] at this ⊢
   rw [this]; simp [h'']
theorem zpk (s : List UInt8) : ∀ l : List (List UInt8), s ∉ l → zcA (zbk l) s (.bool true) = zbk (l ++ [s])
 | [], _ => rfl
 | a :: l, h => by
  have h1 : (a == s) = false := by simp at h; simpa using fun e => h.1 e.symm
  have := zpk s l (by simp at h; exact h.2)
  simp only [zbk, List.map_cons, zcA, h1, List.cons_append] at this ⊢
  rw [this]
theorem zuq (m : Nat) (l : List (List UInt8)) : (AB.map (zbk l)).sc m = true := by simp [AB.sc, zbk, AV.scV]
def zbp (data : List Dat) : List (List UInt8) := data.map Dat.name
def zaS (data : List Dat) : List (List UInt8) := data.flatMap fun D => D.cons.map Con.name
def zdq (data : List Dat) (d : Nat) (vars : Int) (c : Con) : Bool := zcL c.name && (decide (c.args.length ≤ 6) && c.args.all (zd2 data d vars))
def zcY (data : List Dat) (d : Nat) (D : Dat) : Bool := zcL D.name && decide (0 ≤ D.vars) && decide (D.vars ≤ 6) && decide (1 ≤ D.cons.length) && decide (D.cons.length ≤ 8) && D.cons.all (zdq data d D.vars)
def zdd (data : List Dat) : List Dat → Nat → Bool
 | [], _ => true
 | D :: l, d => zcY data d D && zdd data l (d + 1)
def zcn (data : List Dat) : Bool := decide (data.length ≤ 12) && zdd data data 0 && !zb0 (zbp data) && !zb0 (zaS data)
theorem zuh {A R : List (List UInt8)} {s : List UInt8} (h : s ∈ A) : zb0 (A ++ s :: R) = true := by
 simp only [zb0, Bool.not_eq_true', decide_eq_false_iff_not, List.nodup_append]
 rintro ⟨_, _, h3⟩
 exact h3 s h s (by simp) rfl
theorem zkE {l : List (List UInt8)} (h : l.Nodup) : zb0 l = false := by simp [zb0, h]
theorem ztX {A : List (List UInt8)} {s : List UInt8} (h : A.Nodup) (hs : s ∉ A) : (A ++ [s]).Nodup := by
 rw [List.nodup_append]
 refine ⟨h, by simp, ?_⟩
 intro a ha b hb
 simp at hb; subst hb
 exact fun e => hs (e ▸ ha)
def zsw (data : List Dat) : Prop := ∀ D ∈ data, D.cons.length ≤ 1000000 ∧ ∀ c ∈ D.cons, c.args.length ≤ 1000000 ∧ ∀ x ∈ c.args, x.nodes ≤ 1000000
theorem zKv (data : List Dat) (hB : zsw data) (hl : data.length ≤ 1000000) (H : zaa) (K : AV → zaa → Prop) (hK : K (.bool (zcn data)) H) : ACalls tP zoJ [.sl (data.map Dat.cs) .none] H K := by
 refine ACalls.out (zKu fun hs => ?_)
 have hO : ∀ J, Out H.length K (.bool (zcn data)) (H ++ J) := fun J => Out.bool rfl (Nat.le_refl _) hs hK
 by_cases h12 : data.length ≤ 12
 ·have h12' : ¬ (12 : Int) < data.length := by omega
  have h12'' : ¬ 12 < data.length := by omega
  have hD0 : zdd data data 0 = false → ∀ J, Out H.length K (.bool false) (H ++ J) := fun h J => by
   have := hO J; rwa [show zcn data = false by simp [zcn, h]] at this
  have hD1 : zb0 (zbp data) = true → ∀ J, Out H.length K (.bool false) (H ++ J) := fun h J => by
   have := hO J; rwa [show zcn data = false by simp [zcn, h]] at this
  have hD2 : zb0 (zaS data) = true → ∀ J, Out H.length K (.bool false) (H ++ J) := fun h J => by
   have := hO J; rwa [show zcn data = false by simp [zcn, h]] at this
  simp [zl0, h12', h12'']
  refine zKt (Inv := fun q t15 H' => ∃ i : Nat, i ≤ data.length ∧ q = data.length - i ∧ t15 = .int .i64 i ∧ zdd data (data.drop i) i = zdd data data 0 ∧ (zbp (data.take i)).Nodup ∧ (zaS (data.take i)).Nodup ∧ H' = H ++ [.map (zbk (zbp (data.take i))), .map (zbk (zaS (data.take i)))]) data.length ?_ ?_
  ·intro _; exact ⟨0, by omega, by omega, rfl, by simp, by simp [zbp], by simp [zaS], by simp [zbp, zaS, zbk]⟩
  ·rintro q t15 H' ⟨i, hi, rfl, rfl, ho, hdn, hcn, rfl⟩ hsc hlen hsF Kb hKb
   by_cases hlt : i < data.length
   ·have e1 : (data.map Dat.cs)[i]? = some (data[i]).cs := by simp [hlt]
    obtain ⟨hB1, hB2⟩ := hB _ (List.getElem_mem hlt)
    have hargs := fun c hc => zMG data i c hlt hc hl hB1 (hB2 _ (List.getElem_mem hc)).1 (hB2 _ (List.getElem_mem hc)).2
    rw [List.drop_eq_getElem_cons hlt, zdd] at ho
    have htk : data.take (i + 1) = data.take i ++ [data[i]] := by rw [List.take_append_getElem hlt]
    have hsplit : data = data.take i ++ data[i] :: data.drop (i + 1) := by rw [List.getElem_cons_drop, List.take_append_drop]
    generalize hD : data[i] = D at *
    have hbad : zcY data i D = false → zdd data data 0 = false := fun h => by rw [← ho, h, Bool.false_and]
    have hno : ∀ J, zcY data i D = false → Out H.length K (.bool false) (H ++ [.map (zbk (zbp (data.take i))), .map (zbk (zaS (data.take i)))] ++ J) := fun J h => by
     rw [List.append_assoc]; exact hD0 (hbad h) _
    simp [zl2, hlt, e1, hD, Dat.cs]
    refine zAy _ _ _ ?_
    cases hu : zcL D.name with
    | false => simp; exact hD0 (hbad (by simp [zcY, hu])) _
    | true =>
    by_cases hmem : D.name ∈ zbp (data.take i)
    ·simp [hlt, e1, hD, Dat.cs, zdN, hmem]
     refine hD1 ?_ _
     rw [hsplit]; simp only [zbp, List.map_append, List.map_cons]
     exact zuh hmem
    by_cases hv0 : D.vars < 0
    ·simp [hlt, e1, hD, Dat.cs, zdN, hmem, hv0]
     exact hD0 (hbad (by simp [zcY, show ¬ 0 ≤ D.vars by omega])) _
    by_cases hv6 : 6 < D.vars
    ·simp [hlt, e1, hD, Dat.cs, zdN, hmem, hv0, hv6]
     exact hD0 (hbad (by simp [zcY, show ¬ D.vars ≤ 6 by omega])) _
    simp [hlt, e1, hD, Dat.cs, zdN, hmem, hv0, hv6, zpk _ _ hmem]
    by_cases hc1 : D.cons.length < 1
    ·have hc1' : (D.cons.length : Int) < 1 := by omega
     simp [hc1']
     exact hD0 (hbad (by simp [zcY, show ¬ 1 ≤ D.cons.length by omega])) _
    have hc1' : ¬ (D.cons.length : Int) < 1 := by omega
    by_cases hc8 : 8 < D.cons.length
    ·have hc8' : (8 : Int) < D.cons.length := by omega
     simp [hlt, e1, hD, Dat.cs, hc1', hc8', hc8]
     exact hD0 (hbad (by simp [zcY, show ¬ D.cons.length ≤ 8 by omega])) _
    have hc8' : ¬ (8 : Int) < D.cons.length := by omega
    have hdat : zcY data i D = D.cons.all (zdq data i D.vars) := by
     simp [zcY, hu, show 0 ≤ D.vars by omega, show D.vars ≤ 6 by omega, show 1 ≤ D.cons.length by omega, show D.cons.length ≤ 8 by omega]
    simp [hlt, e1, hD, Dat.cs, hc1', hc8', hc8]
    have hdn' : (zbp (data.take (i + 1))).Nodup := by
     rw [htk]; simp only [zbp, List.map_append, List.map_cons, List.map_nil]; exact ztX hdn hmem
    have hde : zbp (data.take i) ++ [D.name] = zbp (data.take (i + 1)) := by rw [htk]; simp [zbp]
    rw [hde]
    refine zKs (Inv := fun q t78 H' => ∃ j : Nat, j ≤ D.cons.length ∧ q = D.cons.length - j ∧ t78 = .int .i64 j ∧ (D.cons.drop j).all (zdq data i D.vars) = D.cons.all (zdq data i D.vars) ∧ (zaS (data.take i) ++ (D.cons.take j).map Con.name).Nodup ∧ H' = H ++ [.map (zbk (zbp (data.take (i + 1)))), .map (zbk (zaS (data.take i) ++ (D.cons.take j).map Con.name))]) D.cons.length ?_ ?_
    ·intro _; exact ⟨0, by omega, by omega, rfl, by simp, by simpa using hcn, by simp⟩
    ·rintro q t78 H' ⟨j, hj, rfl, rfl, hoc, hcj, rfl⟩ hsc1 hlen1 hsF1 Kb1 hKb1
     have hscH : ∀ A B, HSc (H ++ [.map (zbk A), .map (zbk B)]) := fun A B => hs.append (by simp [zuq])
     by_cases hjl : j < D.cons.length
     ·have e2 : (D.cons.map Con.cs)[j]? = some (D.cons[j]).cs := by simp [hjl]
      have hargs' := hargs j hjl
      rw [List.drop_eq_getElem_cons hjl, List.all_cons] at hoc
      have htj : zaS (data.take i) ++ (D.cons.take (j + 1)).map Con.name = (zaS (data.take i) ++ (D.cons.take j).map Con.name) ++ [(D.cons[j]).name] := by
       rw [← List.take_append_getElem hjl, List.map_append, List.append_assoc]; rfl
      have hcs : zaS data = (zaS (data.take i) ++ (D.cons.take j).map Con.name) ++ (D.cons[j]).name :: ((D.cons.drop (j + 1)).map Con.name ++ zaS (data.drop (i + 1))) := by
       have h1 : D.cons.map Con.name = (D.cons.take j).map Con.name ++ (D.cons[j]).name :: (D.cons.drop (j + 1)).map Con.name := by
        rw [← List.map_cons (f := Con.name), List.getElem_cons_drop, ← List.map_append, List.take_append_drop]
       conv => lhs; rw [hsplit]
       simp only [zaS, List.flatMap_append, List.flatMap_cons, List.append_assoc, h1, List.cons_append]
      generalize hC : D.cons[j] = C at *
      have hbad' : zdq data i D.vars C = false → zdd data data 0 = false := fun h => hbad (by rw [hdat, ← hoc, h, Bool.false_and])
      generalize hA : zaS (data.take i) ++ (D.cons.take j).map Con.name = A at *
      simp only [zl1]
      simp [hjl, hC, Con.cs, Nat.add_assoc]
      refine zAy _ _ _ ?_
      cases hu2 : zcL C.name with
      | false => simp; exact hD0 (hbad' (by simp [zdq, hu2])) _
      | true =>
      by_cases hm2 : C.name ∈ A
      ·simp [zdN, hm2]
       exact hD2 (by rw [hcs]; exact zuh hm2) _
      ·simp [zdN, hm2]
       refine hargs' _ _ ?_
       have hce : zdq data i D.vars C = (decide (C.args.length ≤ 6) && C.args.all (zd2 data i D.vars)) := by simp [zdq, hu2]
       rw [← hce]
       cases hco : zdq data i D.vars C with
       | false => simp; exact hD0 (hbad' hco) _
       | true =>
        rw [hco, Bool.true_and] at hoc
        simp [zpk _ _ hm2]
        rw [zar (by omega) (by omega)]
        refine hKb1 _ _ ⟨D.cons.length - (j + 1), by omega, Back.at (J := [.cells [.str C.name, .sl (VT.css C.args) .none]]) (H2 := H ++ [.map (zbk (zbp (data.take (i + 1)))), .map (zbk (A ++ [C.name]))]) (by simp) (by simp) (hscH _ _) ?_ ⟨_, rfl, j + 1, by omega, rfl, by simp, hoc, ?_, ?_⟩⟩
        ·simp [zgd, AV.sc, AV.scV, AV.scA, AV.scB]
        ·rw [htj]; exact ztX hcj hm2
        ·rw [htj]
     ·obtain rfl : j = D.cons.length := by omega
      rw [List.drop_length, List.all_nil] at hoc
      rw [List.take_length] at *
      simp [zl1]
      rw [zar (by omega) (by omega)]
      have hce : zaS (data.take i) ++ D.cons.map Con.name = zaS (data.take (i + 1)) := by rw [htk]; simp [zaS]
      rw [hce] at hcj ⊢
      refine hKb _ _ ⟨data.length - (i + 1), by omega, Back.at (J := []) (by simp) (by simp) (hscH _ _) ?_ ⟨_, rfl, i + 1, by omega, rfl, by simp, ?_, hdn', hcj, rfl⟩⟩
      ·simp [zge, AV.sc, AV.scV, AV.scA, AV.scB]
      ·rw [← ho, hdat, ← hoc, Bool.true_and]
   ·obtain rfl : i = data.length := by omega
    rw [List.drop_length, zdd] at ho
    rw [List.take_length] at *
    simp [zl2]
    have := hO [.map (zbk (zbp data)), .map (zbk (zaS data))]
    rwa [show zcn data = true by simp [zcn, h12, ← ho, zkE hdn, zkE hcn]] at this
 ·have h12' : (12 : Int) < data.length := by omega
  have h12'' : 12 < data.length := by omega
  rw [show zcn data = false by simp [zcn, h12]] at hO
  simp [zl0, h12', h12'']
  simpa using hO []
def zsv (c : Con) : Prop := c.name.length ≤ 40 ∧ c.args.length ≤ 8 ∧ ∀ t ∈ c.args, t.nodes ≤ 20
def znQ (d : Dat) : Prop := d.name.length ≤ 40 ∧ d.cons.length ≤ 10 ∧ ∀ c ∈ d.cons, zsv c
def znR (ds : List Dat) : Prop := ds.length ≤ 14 ∧ ∀ d ∈ ds, znQ d
theorem zb8 {α : Type} {l : List α} {i : Nat} (h : i < l.length) {p : α → Prop} (h1 : ∀ x ∈ l.take i, p x) (h2 : p l[i]) : ∀ x ∈ l.take (i + 1), p x := by
 rw [List.take_succ_eq_append_getElem h]
 intro x hx
 rcases List.mem_append.1 hx with hx | hx
 ·exact h1 x hx
 ·simp at hx; subst hx; exact h2
theorem zj6 {α : Type} {cs : α → List AV} {l : List α} {i : Nat} (h : i < l.length) : (l.map cs)[i]?.getD [] = cs l[i] := by simp [h]
theorem vt3 (v : VT) : ∃ a b c, v.cs = [a, b, c] ∧ a.known = true ∧ b.known = true ∧ c.known = true := by
 obtain ⟨k, n, ks⟩ := v; exact ⟨_, _, _, rfl, rfl, rfl, rfl⟩
theorem zKg (ds : List Dat) (H : zaa) (K : AV → zaa → Prop) (hlen : ds.length ≤ 9223372036854775807) (hK : ∀ b, (b = true → znR ds) → K (.bool b) H) : ACalls tP zoH [.sl (ds.map Dat.cs) .none] H K := by
 refine ACalls.out (zKf fun hs => ?_)
 have hF : ∀ J, Out H.length K (.bool false) (H ++ J) := fun J => Out.bool rfl (Nat.le_refl _) hs (hK false fun h => by cases h)
 have hF0 : Out H.length K (.bool false) H := by simpa using hF []
 by_cases h14 : ds.length > 14
 ·have : (14 : Int) < ds.length := by omega
  simp [zlS, this]
  exact hF0
 have : ¬ (14 : Int) < ds.length := by omega
 simp [zlS, this]
 refine zKd (Inv := fun q t15 H' => ∃ i : Nat, i ≤ ds.length ∧ q = ds.length - i ∧ t15 = .int .i64 i ∧ (∀ d ∈ ds.take i, znQ d) ∧ H = H') ds.length ?_ ?_
 ·intro _; exact ⟨0, by omega, by omega, rfl, by simp, rfl⟩
 ·rintro q t15 H' ⟨i, hi, rfl, rfl, ha, rfl⟩ hsc hl hsF Kb4 hKb4
  by_cases hil : i < ds.length
  ·have hat : (ds.map Dat.cs)[i]?.getD [] = [.str ds[i].name, .int .i64 ds[i].vars, .sl (ds[i].cons.map Con.cs) .none] := zj6 hil
   have next : znQ ds[i] → ∀ J, Kb4 (zeQ (.sl (ds.map Dat.cs) .none) (.int .i64 ds.length) (.int .i64 (i + 1))) (H ++ J) := by
    intro hd J
    refine hKb4 _ _ ⟨ds.length - (i + 1), by omega, Back.same (Nat.le_refl _) hs ?_ ⟨_, rfl, i + 1, by omega, rfl, by simp, zb8 hil ha hd, rfl⟩⟩
    simp [zeQ, AV.sc, AV.scV, AV.scA, AV.scB]
   generalize hdd : ds[i] = d at *
   simp [zlU, hil, hat, AV.known, hdd, Dat.cs]
   by_cases hn : d.name.length > 40
   ·have : (40 : Int) < d.name.length := by omega
    simp [this]
    exact hF _
   have hn' : ¬ (40 : Int) < d.name.length := by omega
   by_cases hc : d.cons.length > 10
   ·have : (10 : Int) < d.cons.length := by omega
    simp [hn', this]
    exact hF _
   have hc' : ¬ (10 : Int) < d.cons.length := by omega
   simp [hn', hc']
   refine zKe (Inv := fun q t32 H' => ∃ j : Nat, j ≤ d.cons.length ∧ q = d.cons.length - j ∧ t32 = .int .i64 j ∧ (∀ c ∈ d.cons.take j, zsv c) ∧ H' = H ++ [.cells [.str d.name, .int .i64 d.vars, .sl (d.cons.map Con.cs) .none]]) d.cons.length ?_ ?_
   ·intro _; exact ⟨0, by omega, by omega, rfl, by simp, rfl⟩
   ·rintro q t32 H' ⟨j, hj, rfl, rfl, hb, rfl⟩ hsc9 hl9 hsF9 Kb9 hKb9
    by_cases hjl : j < d.cons.length
    ·have hat : (d.cons.map Con.cs)[j]?.getD [] = [.str d.cons[j].name, .sl (VT.css d.cons[j].args) .none] := zj6 hjl
     generalize hcc : d.cons[j] = c at *
     simp [zlV, hjl, hat, AV.known, hcc, Con.cs]
     by_cases hn : c.name.length > 40
     ·have : (40 : Int) < c.name.length := by omega
      simp [this]
      exact hF _
     have hn' : ¬ (40 : Int) < c.name.length := by omega
     by_cases hc : c.args.length > 8
     ·have : (8 : Int) < c.args.length := by omega
      simp [hn', this]
      exact hF _
     have hc' : ¬ (8 : Int) < c.args.length := by omega
     simp [hn', hc']
     refine zKc (Inv := fun q t49 H' => ∃ (k : Nat) (l : Int), k ≤ c.args.length ∧ q = c.args.length - k ∧ t49 = .int .i64 k ∧ -1 ≤ l ∧ l ≤ 20 ∧ (∀ t ∈ c.args.take k, t.nodes ≤ 20) ∧ H' = H ++ [.cells [.str d.name, .int .i64 d.vars, .sl (d.cons.map Con.cs) .none], .cells [.str c.name, .sl (VT.css c.args) .none], .cells [.int .i64 l]]) c.args.length ?_ ?_
     ·intro _; exact ⟨0, 20, by omega, by omega, rfl, by omega, by omega, by simp, rfl⟩
     ·rintro q t49 H' ⟨k, l, hk, rfl, rfl, hl0, hl1, hb15, rfl⟩ hsc15 hl15 hsF15 Kb15 hKb15
      by_cases hkl : k < c.args.length
      ·obtain ⟨x, y, z, hv, hx, hy, hz⟩ := vt3 c.args[k]
       simp [zlT, hkl, hv, hx, hy, hz]
       rw [← hv]
       refine zAv _ _ (Nat.le_refl _) l (by omega) hl0 _ (H.length + 2) (by simp) _ ?_ ?_
       ·intro hle
        simp
        rw [zar (by omega) (by omega)]
        refine hKb15 _ _ ⟨c.args.length - (k + 1), by omega, Back.at (J := [_]) (H2 := H ++ [.cells [.str d.name, .int .i64 d.vars, .sl (d.cons.map Con.cs) .none], .cells [.str c.name, .sl (VT.css c.args) .none], .cells [.int .i64 (l - c.args[k].nodes)]]) (by simp; rfl) (by simp) (hs.append rfl) ?_ ⟨_, rfl, k + 1, l - c.args[k].nodes, by omega, rfl, by simp, by omega, by omega, zb8 hkl hb15 (by omega), rfl⟩⟩
        simp [zga, AV.sc, AV.scV, AV.scA, AV.scB]
       ·intro hle l'
        simp
        exact hF _
      ·obtain rfl : k = c.args.length := by omega
       rw [List.take_length] at hb15
       simp [zlT]
       rw [zar (by omega) (by omega)]
       refine hKb9 _ _ ⟨d.cons.length - (j + 1), by omega, Back.at (J := [_, _]) (H2 := H ++ [.cells [.str d.name, .int .i64 d.vars, .sl (d.cons.map Con.cs) .none]]) (by simp; exact ⟨rfl, rfl⟩) (by simp) (hs.append rfl) ?_ ⟨_, rfl, j + 1, by omega, rfl, by simp, zb8 hjl hb (by rw [hcc]; exact ⟨by omega, by omega, hb15⟩), rfl⟩⟩
       simp [zgb, AV.sc, AV.scV, AV.scA, AV.scB]
    ·obtain rfl : j = d.cons.length := by omega
     rw [List.take_length] at hb
     simp [zlV]
     rw [zar (by omega) (by omega)]
     exact next ⟨by omega, by omega, hb⟩ _
  ·obtain rfl : i = ds.length := by omega
   rw [List.take_length] at ha
   simp [zlU]
   exact Out.bool (J := []) (by simp) (Nat.le_refl _) hs (hK true fun _ => ⟨by omega, ha⟩)
def znP (f : Cod) : Prop := f.name.length ≤ 400 ∧ f.params.length ≤ 10 ∧ f.capt.length ≤ 40 ∧ f.res.nodes ≤ 250
def KEx (e : CEx) : Prop := e.vars.length ≤ 40 ∧ e.binds.length ≤ 10 ∧ e.kids.length ≤ 10 ∧ e.ty.nodes ≤ 250 ∧ ∀ l ∈ e.binds, l.length ≤ 10
def zaR (c : Cor) : Prop := znR c.data ∧ c.codes.length ≤ 24 ∧ c.exprs.length ≤ 160 ∧ (c.vars.length ≤ 160 ∧ ∀ v ∈ c.vars, v.nodes ≤ 250) ∧ (∀ f ∈ c.codes, znP f) ∧ ∀ e ∈ c.exprs, KEx e
theorem zH2 (c : Cor) (h1 : c.data.length ≤ 9223372036854775807) (h2 : c.vars.length ≤ 9223372036854775807) (H : zaa) (K : AV → zaa → Prop) (hK : ∀ b, (b = true → zaR c) → K (.bool b) H) : ACalls tP zoz [.agg c.cs] H K := by
 refine ACalls.out (zH1 fun hs => ?_)
 have hF : ∀ J, Out H.length K (.bool false) (H ++ J) := fun J => Out.bool rfl (Nat.le_refl _) hs (hK false fun h => by cases h)
 simp [zpO, Cor.cs]
 refine zKg c.data _ _ h1 fun b hb => ?_
 cases b with
 | false => simp; exact hF _
 | true =>
 have hdata := hb rfl
 by_cases hc : c.codes.length > 24
 ·have : (24 : Int) < c.codes.length := by omega
  simp [this]
  exact hF _
 have hc' : ¬ (24 : Int) < c.codes.length := by omega
 by_cases he : c.exprs.length > 160
 ·have : (160 : Int) < c.exprs.length := by omega
  simp [hc', this]
  exact hF _
 have he' : ¬ (160 : Int) < c.exprs.length := by omega
 simp [hc', he']
 refine zKl c.vars 160 (by omega) h2 _ _ fun b hb => ?_
 cases b with
 | false => simp; exact hF _
 | true =>
 have hvars := hb rfl
 simp
 refine zH0 (Inv := fun q t34 H' => ∃ i : Nat, i ≤ c.codes.length ∧ q = c.codes.length - i ∧ t34 = .int .i64 i ∧ (∀ f ∈ c.codes.take i, znP f) ∧ H' = H ++ [.cells [.sl (c.data.map Dat.cs) .none, .sl (c.codes.map Cod.cs) .none, .sl (VT.css c.vars) .none, .sl (c.exprs.map CEx.cs) .none]]) c.codes.length ?_ ?_
 ·intro _; exact ⟨0, by omega, by omega, rfl, by simp, rfl⟩
 ·rintro q t34 H' ⟨i, hi, rfl, rfl, ha, rfl⟩ hsc4 hl4 hsF4 Kb4 hKb4
  by_cases hil : i < c.codes.length
  ·obtain ⟨x, y, z, hv, hx, hy, hz⟩ := vt3 (c.codes[i]).res
   have hat : (c.codes.map Cod.cs)[i]?.getD [] = [.str (c.codes[i]).name, .sl (ints (c.codes[i]).params) .none, .sl (ints (c.codes[i]).capt) .none, x, y, z, .int .i64 (c.codes[i]).body] := by
    rw [zj6 hil, Cod.cs, hv]; rfl
   generalize hff : c.codes[i] = f at *
   simp [zlb, hil, hat, hx, hy, hz, hff, Cod.cs, hv]
   by_cases hn : f.name.length > 400
   ·have : (400 : Int) < f.name.length := by omega
    simp [this]; exact hF _
   have hn' : ¬ (400 : Int) < f.name.length := by omega
   by_cases hp : f.params.length > 10
   ·have : (10 : Int) < f.params.length := by omega
    simp [hn', this]; exact hF _
   have hp' : ¬ (10 : Int) < f.params.length := by omega
   by_cases hq : f.capt.length > 40
   ·have : (40 : Int) < f.capt.length := by omega
    simp [hn', hp', this]; exact hF _
   have hq' : ¬ (40 : Int) < f.capt.length := by omega
   simp [hn', hp', hq']
   rw [← hv]
   refine zqQ f.res _ _ fun b hb => ?_
   cases b with
   | false => simp; exact hF _
   | true =>
    simp
    rw [zar (by omega) (by omega)]
    refine hKb4 _ _ ⟨c.codes.length - (i + 1), by omega, Back.at (J := [_]) (H2 := H ++ [.cells [.sl (c.data.map Dat.cs) .none, .sl (c.codes.map Cod.cs) .none, .sl (VT.css c.vars) .none, .sl (c.exprs.map CEx.cs) .none]]) (by simp; rfl) (by simp) (hs.append rfl) ?_ ⟨_, rfl, i + 1, by omega, rfl, by simp, zb8 hil ha (by rw [hff]; exact ⟨by omega, by omega, by omega, hb rfl⟩), rfl⟩⟩
    simp [zfE, AV.sc, AV.scV, AV.scA, AV.scB]
  ·obtain rfl : i = c.codes.length := by omega
   rw [List.take_length] at ha
   simp [zlb]
   refine zHY (Inv := fun q t64 H' => ∃ i : Nat, i ≤ c.exprs.length ∧ q = c.exprs.length - i ∧ t64 = .int .i64 i ∧ (∀ e ∈ c.exprs.take i, KEx e) ∧ H' = H ++ [.cells [.sl (c.data.map Dat.cs) .none, .sl (c.codes.map Cod.cs) .none, .sl (VT.css c.vars) .none, .sl (c.exprs.map CEx.cs) .none]]) c.exprs.length ?_ ?_
   ·intro _; exact ⟨0, by omega, by omega, rfl, by simp, rfl⟩
   ·rintro q t64 H' ⟨i, hi, rfl, rfl, hb, rfl⟩ hsc10 hl10 hsF10 Kb10 hKb10
    by_cases hil : i < c.exprs.length
    ·obtain ⟨x, y, z, hv, hx, hy, hz⟩ := vt3 (c.exprs[i]).ty
     have hat : (c.exprs.map CEx.cs)[i]?.getD [] = [.int .i64 (c.exprs[i]).op, .int .i64 (c.exprs[i]).num, .sl (ints (c.exprs[i]).vars) .none, .sl (rows (c.exprs[i]).binds) .none, .sl (ints (c.exprs[i]).kids) .none, x, y, z] := by
      rw [zj6 hil, CEx.cs, hv]
     generalize hff : c.exprs[i] = e at *
     simp [zk9, hil, hat, hx, hy, hz, hff, CEx.cs, hv]
     by_cases hn : e.vars.length > 40
     ·have : (40 : Int) < e.vars.length := by omega
      simp [this]; exact hF _
     have hn' : ¬ (40 : Int) < e.vars.length := by omega
     by_cases hp : e.binds.length > 10
     ·have : (10 : Int) < e.binds.length := by omega
      simp [hn', this]; exact hF _
     have hp' : ¬ (10 : Int) < e.binds.length := by omega
     by_cases hq : e.kids.length > 10
     ·have : (10 : Int) < e.kids.length := by omega
      simp [hn', hp', this]; exact hF _
     have hq' : ¬ (10 : Int) < e.kids.length := by omega
     simp [hn', hp', hq']
     rw [← hv]
     refine zqQ e.ty _ _ fun b hb4 => ?_
     cases b with
     | false => simp; exact hF _
     | true =>
      simp
      refine zHZ (Inv := fun q t93 H' => ∃ j : Nat, j ≤ e.binds.length ∧ q = e.binds.length - j ∧ t93 = .int .i64 j ∧ (∀ l ∈ e.binds.take j, l.length ≤ 10) ∧ ∃ J, H' = H ++ .cells [.sl (c.data.map Dat.cs) .none, .sl (c.codes.map Cod.cs) .none, .sl (VT.css c.vars) .none, .sl (c.exprs.map CEx.cs) .none] :: J) e.binds.length ?_ ?_
      ·intro _; exact ⟨0, by omega, by omega, rfl, by simp, _, rfl⟩
      ·rintro q t93 H' ⟨j, hj, rfl, rfl, hb, J, rfl⟩ hsc15 hl15 hsF15 Kb15 hKb15
       by_cases hjl : j < e.binds.length
       ·simp [zla, hjl, rows]
        by_cases hr : (e.binds[j]).length > 10
        ·have : (10 : Int) < (e.binds[j]).length := by omega
         simp [this]; exact hF _
        have hr' : ¬ (10 : Int) < (e.binds[j]).length := by omega
        simp [hr']
        rw [zar (by omega) (by omega)]
        refine hKb15 _ _ ⟨e.binds.length - (j + 1), by omega, Back.here hl15 hsc15 ?_ ⟨_, rfl, j + 1, by omega, rfl, by simp, zb8 hjl hb (by omega), J, rfl⟩⟩
        simp [zfD, AV.sc, AV.scV, AV.scA, AV.scB]
       ·obtain rfl : j = e.binds.length := by omega
        rw [List.take_length] at hb
        simp [zla]
        rw [zar (by omega) (by omega)]
        refine hKb10 _ _ ⟨c.exprs.length - (i + 1), by omega, Back.at (J := J) (H2 := H ++ [.cells [.sl (c.data.map Dat.cs) .none, .sl (c.codes.map Cod.cs) .none, .sl (VT.css c.vars) .none, .sl (c.exprs.map CEx.cs) .none]]) (by simp) (by simp) (hs.append rfl) ?_ ⟨_, rfl, i + 1, by omega, rfl, by simp, zb8 hil (by assumption) (by rw [hff]; exact ⟨by omega, by omega, by omega, hb4 rfl, hb⟩), rfl⟩⟩
        simp [zfC, AV.sc, AV.scV, AV.scA, AV.scB]
    ·obtain rfl : i = c.exprs.length := by omega
     rw [List.take_length] at hb
     simp [zk9]
     exact Out.bool rfl (Nat.le_refl _) hs (hK true fun _ => ⟨hdata, by omega, by omega, hvars, ha, hb⟩)
def za7 (c : Cor) : AB := .cells [.sl (c.data.map Dat.cs) .none, .sl (c.codes.map Cod.cs) .none, .sl (VT.css c.vars) .none, .sl (c.exprs.map CEx.cs) .none]
theorem zet {c : Cor} {i : Nat} (h : i < c.codes.length) : ∃ x y z, (c.codes[i]).res.cs = [x, y, z] ∧ x.known = true ∧ y.known = true ∧ z.known = true ∧ (c.codes[i]).cs = [.str (c.codes[i]).name, .sl (ints (c.codes[i]).params) .none, .sl (ints (c.codes[i]).capt) .none, x, y, z, .int .i64 (c.codes[i]).body] := by
 obtain ⟨x, y, z, hv, hx, hy, hz⟩ := vt3 (c.codes[i]).res
 refine ⟨x, y, z, hv, hx, hy, hz, ?_⟩
 rw [Cod.cs, hv]; rfl
theorem zdH {c : Cor} {i : Nat} (h : i < c.exprs.length) : ∃ x y z, (c.exprs[i]).ty.cs = [x, y, z] ∧ x.known = true ∧ y.known = true ∧ z.known = true ∧ (c.exprs[i]).cs = [.int .i64 (c.exprs[i]).op, .int .i64 (c.exprs[i]).num, .sl (ints (c.exprs[i]).vars) .none, .sl (rows (c.exprs[i]).binds) .none, .sl (ints (c.exprs[i]).kids) .none, x, y, z] := by
 obtain ⟨x, y, z, hv, hx, hy, hz⟩ := vt3 (c.exprs[i]).ty
 refine ⟨x, y, z, hv, hx, hy, hz, ?_⟩
 rw [CEx.cs, hv]
def zeM (c : Cor) : Bool := decide (c.vars.length ≤ 3000) && c.vars.all (zax c.data 0)
theorem zD4 : zcy tP zoT = true := by kernel_rfl
theorem zKz (c : Cor) (hc : zaR c) (H : zaa) (K : AV → zaa → Prop) (hK : K (.bool (zeM c)) H) : ACalls tP zoK [.agg c.cs] H K := by
 refine ACalls.out (zKx fun hs => ?_)
 obtain ⟨k1, k2, k3, ⟨k4, k5⟩, k6, k7⟩ := hc
 have h1 : (c.vars.length : Int) ≤ 3000 := by omega
 have h2 : c.vars.length ≤ 3000 := by omega
 simp [zqT, Cor.cs, h1, h2]
 refine ⟨rfl, ?_⟩
 have hO : ∀ J, Out H.length K (.bool (c.vars.all (zax c.data 0))) (H ++ J) := fun J => Out.bool rfl (Nat.le_refl _) hs (by simpa [zeM, h2] using hK)
 refine zn9 c.vars (by omega) _ _ _ (by simp [AV.sc, AV.scV, AV.scA, AV.scB]) (fun i H' => H' = H ++ [za7 c] ∧ ∀ v ∈ c.vars.take i, zax c.data 0 v = true) ⟨rfl, by simp⟩ ?_ ?_
 ·rintro i hi H' hle ⟨rfl, hp⟩
  simp only [aCallV, zD4]
  refine ACalls.out (zML fun hs1 => ?_)
  simp [zrH, za7]
  refine zmT c.data 0 _ (by have := k5 _ (List.getElem_mem hi); omega) _ _ ?_
  cases hv : zax c.data 0 c.vars[i] with
  | true =>
   simp
   refine Out.bool (H2 := H ++ [za7 c]) (J := [.cells (c.vars[i]).cs]) (by simp [za7]) (by simp) hs1 (.inl ⟨rfl, rfl, zb8 hi hp hv⟩)
  | false =>
   simp
   refine Out.bool (H2 := H ++ [za7 c]) (J := [.cells (c.vars[i]).cs]) (by simp [za7]) (by simp) hs1 (.inr ⟨rfl, ?_⟩)
   have : c.vars.all (zax c.data 0) = false := by
    rw [List.all_eq_false]; exact ⟨_, List.getElem_mem hi, by simp [hv]⟩
   rw [this] at hO
   simpa using hO _
 ·rintro H' ⟨rfl, hp⟩
  rw [List.take_length] at hp
  have : c.vars.all (zax c.data 0) = true := by rw [List.all_eq_true]; exact hp
  rw [this] at hO
  simpa using hO _
theorem zF6 (s : List UInt8) (l : List (List UInt8)) : ∃ l', zcA (zbk l) s (.bool true) = zbk l' ∧ ∀ x, x ∈ l' ↔ x ∈ l ∨ x = s := by
 induction l with
 | nil => exact ⟨[s], rfl, by simp⟩
 | cons a l ih =>
  cases h : a == s with
  | true =>
   have h' : a = s := by simpa using h
   refine ⟨a :: l, by simp [zbk, zcA, h, h'], ?_⟩
   intro x; subst h'; simp
   exact fun h => .inl h
  | false =>
   obtain ⟨l', h1, h2⟩ := ih
   refine ⟨a :: l', ?_, ?_⟩
   ·simp only [zbk, List.map_cons, zcA, h] at h1 ⊢; rw [h1]
   ·intro x; simp [h2, or_assoc]
def znO (c : Cor) (i : Nat) : Prop := ∃ h : i < c.codes.length,
 ((c.codes[i]).name ≠ [] → (∀ j (hj : j < i), (c.codes[j]).name ≠ []) ∧ (∀ j (hj : j < i), (c.codes[j]).name ≠ (c.codes[i]).name) ∧ (c.codes[i]).capt = []) ∧ (c.codes[i]).params.length ≤ 6 ∧ zax c.data 0 (c.codes[i]).res = true ∧
 ∃ b : Nat, (c.codes[i]).body = b ∧ ∃ hb : b < c.exprs.length, (c.exprs[b]).ty.same (c.codes[i]).res = true
def zdn (c : Cor) : Prop := ∀ i, i < c.codes.length → znO c i
theorem zKE (c : Cor) (hc : zaR c) (H : zaa) (K : AV → zaa → Prop) (hK : ∀ b, (b = true ↔ zdn c) → K (.bool b) H) : ACalls tP zoL [.agg c.cs] H K := by
 refine ACalls.out (zKD fun hs => ?_)
 obtain ⟨k1, k2, k3, ⟨k4, k5⟩, k6, k7⟩ := hc
 have hF : ¬ zdn c → ∀ J, Out H.length K (.bool false) (H ++ J) := fun h J => Out.bool rfl (Nat.le_refl _) hs (hK _ (by simp [h]))
 have hT : zdn c → ∀ J, Out H.length K (.bool true) (H ++ J) := fun h J => Out.bool rfl (Nat.le_refl _) hs (hK _ (by simp [h]))
 have h1 : ¬ (64 : Int) < c.codes.length := by omega
 have h2 : ¬ (3000 : Int) < c.exprs.length := by omega
 simp [zqU, Cor.cs, h1, h2]
 refine zKC (Inv := fun q t4 t21 H' => ∃ (i : Nat) (lam : Bool) (l : List (List UInt8)), i ≤ c.codes.length ∧ q = c.codes.length - i ∧ t21 = .int .i64 i ∧ t4 = .bool lam ∧ (lam = true ↔ ∃ j, ∃ h : j < c.codes.length, j < i ∧ (c.codes[j]).name = []) ∧ (∀ s, s ∈ l ↔ ∃ j, ∃ h : j < c.codes.length, j < i ∧ (c.codes[j]).name = s) ∧ (∀ j, j < i → znO c j) ∧ H' = H ++ [za7 c, .map (zbk l)]) c.codes.length ?_ ?_
 ·intro _; exact ⟨0, false, [], by omega, by omega, rfl, rfl, by simp, by simp, by simp, by simp [za7, zbk]⟩
 ·rintro q t4 t21 H' ⟨i, lam, l, hi, rfl, rfl, rfl, hlam, hl, hp, rfl⟩ hsc hlen hsF Kb hKb
  by_cases hlt : i < c.codes.length
  ·obtain ⟨x, y, z, hv, hx, hy, hz, hat⟩ := zet hlt
   have hnb := (k6 _ (List.getElem_mem hlt)).2.2.2
   have hno : ¬ znO c i → ∀ J, Out H.length K (.bool false) (H ++ J) := fun h => hF fun hh => h (hh i hlt)
   have body : (((c.codes[i]).name ≠ [] → (∀ j (hj : j < i), (c.codes[j]).name ≠ []) ∧ (∀ j (hj : j < i), (c.codes[j]).name ≠ (c.codes[i]).name) ∧ (c.codes[i]).capt = [])) → ∀ lam' : Bool, (lam' = true ↔ ∃ j, ∃ h : j < c.codes.length, j < i + 1 ∧ (c.codes[j]).name = []) →
     zjq (.ptr H.length 0) (.map (H.length + 1)) (.bool lam') (.ptr (H.length + 2) 0) (.sl (c.codes.map Cod.cs) .none) (.int .i64 c.codes.length) (.int .i64 i) (H ++ [za7 c, .map (zbk l), .cells [.str (c.codes[i]).name, .sl (ints (c.codes[i]).params) .none, .sl (ints (c.codes[i]).capt) .none, x, y, z, .int .i64 (c.codes[i]).body]]) (Out H.length K) Kb := by
    intro hcond lam' hlam'
    obtain ⟨l', hl1, hl2⟩ := zF6 (c.codes[i]).name l
    have hlp : ∀ s, s ∈ l' ↔ ∃ j, ∃ h : j < c.codes.length, j < i + 1 ∧ (c.codes[j]).name = s := by
     intro s
     rw [hl2, hl]
     constructor
     ·rintro (⟨j, h, h1, h2⟩ | rfl)
      ·exact ⟨j, h, by omega, h2⟩
      ·exact ⟨i, hlt, by omega, rfl⟩
     ·rintro ⟨j, h, h1, h2⟩
      by_cases hji : j = i
      ·subst hji; exact .inr h2.symm
      ·exact .inl ⟨j, h, by omega, h2⟩
    by_cases hp6 : (c.codes[i]).params.length ≤ 6
    ·have hp6' : ¬ (6 : Int) < (c.codes[i]).params.length := by omega
     simp [zjq, hl1, za7, hp6']
     rw [← hv]
     refine zmT c.data 0 _ (by omega) _ _ ?_
     cases hty : zax c.data 0 (c.codes[i]).res with
     | false => simp; exact hno (by rintro ⟨_, _, _, h, _⟩; rw [hty] at h; cases h) _
     | true =>
     by_cases hb0 : (c.codes[i]).body < 0
     ·simp [hb0]; exact hno (by rintro ⟨_, _, _, _, b, h, _⟩; omega) _
     by_cases hbn : (c.codes[i]).body ≥ c.exprs.length
     ·have := hbn
      simp [hb0, hbn]; exact hno (by rintro ⟨_, _, _, _, b, h, h2, _⟩; omega) _
     obtain ⟨b, hb⟩ : ∃ b : Nat, (c.codes[i]).body = b := ⟨(c.codes[i]).body.toNat, by omega⟩
     have hbl : b < c.exprs.length := by omega
     have hbn' : ¬ (c.exprs.length : Int) ≤ b := by omega
     obtain ⟨x', y', z', hv', hx', hy', hz', hat'⟩ := zdH hbl
     have hnb' := (k7 _ (List.getElem_mem hbl)).2.2.2.1
     have hb0' : ¬ (b : Int) < 0 := by omega
     simp [hb, hb0', hbl, hbn', hat']
     rw [← hv, ← hv']
     refine zaz (.bool ((c.exprs[b]).ty.same (c.codes[i]).res)) (fun J => zmU _ _ _ (Nat.le_refl _) (by omega) _ _ ⟨rfl, rfl⟩) ?_
     cases hsm : (c.exprs[b]).ty.same (c.codes[i]).res with
     | false =>
      simp
      refine hno ?_ _
      rintro ⟨_, _, _, _, b', h, h2, h3⟩
      obtain rfl : b' = b := by omega
      rw [hsm] at h3; cases h3
     | true =>
      simp
      rw [zar (by omega) (by omega)]
      refine hKb _ _ ⟨c.codes.length - (i + 1), by omega, Back.at (J := [_]) (H2 := H ++ [za7 c, .map (zbk l')]) (by simp [za7]; rfl) (by simp) (hs.append (by rw [List.all_cons, List.all_cons, zuq]; rfl)) ?_ ⟨_, _, rfl, i + 1, lam', l', by omega, rfl, by simp, rfl, hlam', hlp, ?_, rfl⟩⟩
      ·simp [zgf, AV.sc, AV.scV, AV.scA, AV.scB]
      ·intro j hj
       by_cases hji : j = i
       ·subst hji; exact ⟨hlt, hcond, hp6, hty, b, hb, hbl, hsm⟩
       ·exact hp j (by omega)
    ·have hp6' : (6 : Int) < (c.codes[i]).params.length := by omega
     simp [zjq, hl1, za7, hp6']
     exact hno (by rintro ⟨_, _, h, _⟩; exact hp6 h) _
   cases hnm : ((c.codes[i]).name == []) with
   | true =>
    simp [zeR, hlt, hat, hx, hy, hz, hnm, Nat.add_assoc]
    refine body (fun h => absurd (by simpa using hnm) h) true ?_
    simp; exact ⟨i, by omega, hlt, by simpa using hnm⟩
   | false =>
    have hnm' : (c.codes[i]).name ≠ [] := by simpa using hnm
    cases lam with
    | true =>
     simp [zeR, hlt, hat, hx, hy, hz, hnm]
     refine hno ?_ _
     rintro ⟨_, h, _⟩
     obtain ⟨j, h1, h2, h3⟩ := hlam.1 rfl
     exact (h hnm').1 j h2 h3
    | false =>
    by_cases hmem : (c.codes[i]).name ∈ l
    ·simp [zeR, hlt, hat, hx, hy, hz, hnm, zdN, hmem]
     refine hno ?_ _
     rintro ⟨_, h, _⟩
     obtain ⟨j, h1, h2, h3⟩ := (hl _).1 hmem
     exact (h hnm').2.1 j h2 h3
    by_cases hcap : (c.codes[i]).capt.length > 0
    ·have hcap' : (0 : Int) < (c.codes[i]).capt.length := by omega
     simp [zeR, hlt, hat, hx, hy, hz, hnm, zdN, hmem, hcap, hcap']
     refine hno ?_ _
     rintro ⟨_, h, _⟩
     have := (h hnm').2.2
     rw [this] at hcap; simp at hcap
    ·have hcap' : ¬ (0 : Int) < (c.codes[i]).capt.length := by omega
     have hcap2 : (c.codes[i]).capt = [] := List.eq_nil_of_length_eq_zero (by omega)
     simp [zeR, hlt, hat, hx, hy, hz, hnm, zdN, hmem, hcap, hcap', Nat.add_assoc]
     refine body (fun _ => ⟨fun j hj h => ?_, fun j hj h => ?_, hcap2⟩) false ?_
     ·exact absurd (hlam.2 ⟨j, by omega, hj, h⟩) (by simp)
     ·exact hmem ((hl _).2 ⟨j, by omega, hj, h⟩)
     ·simp
      intro j hj h1 h2
      by_cases hji : j = i
      ·subst hji; exact hnm' h2
      ·exact absurd (hlam.2 ⟨j, h1, by omega, h2⟩) (by simp)
  ·obtain rfl : i = c.codes.length := by omega
   simp [zeR]
   exact hT hp _
theorem zkz : ∀ (n : Nat) (S : List Int), S.Nodup → (∀ x ∈ S, 0 ≤ x ∧ x < n) → S.length ≤ n := by
 intro n
 induction n with
 | zero =>
  intro S _ h
  cases S with
  | nil => simp
  | cons a S => have := h a (by simp); omega
 | succ n ih =>
  intro S hS h
  by_cases hm : (n : Int) ∈ S
  ·have := ih (S.erase n) (hS.erase _) (fun x hx => by
    have h1 := h x (List.mem_of_mem_erase hx)
    have h2 : x ≠ n := by rintro rfl; exact (hS.not_mem_erase) hx
    omega)
   rw [List.length_erase_of_mem hm] at this
   omega
  ·have := ih S hS (fun x hx => by
    have h1 := h x hx
    have h2 : x ≠ n := by rintro rfl; exact hm hx
    omega)
   omega
def zcD (n : Nat) (S : List Int) : List Bool := (List.range n).map fun (i : Nat) => decide ((i : Int) ∈ S)
@[simp] theorem zSx (n : Nat) (S : List Int) : (zcD n S).length = n := by simp [zcD]
theorem zET {n e : Nat} (S : List Int) (h : e < n) : (zcD n S)[e]? = some (decide ((e : Int) ∈ S)) := by simp [zcD, h]
theorem zDK {n e : Nat} (S : List Int) (h : e < n) : (zaV (zcD n S))[e]? = some (.bool (decide ((e : Int) ∈ S))) := by simp [zaV, zET S h]
@[simp] theorem zRT {l : List Bool} {i : Nat} (h : i < (zaV l).length) : (zaV l)[i] = .bool (l[i]'(by simpa using h)) := by simp [zaV]
@[simp] theorem zSw {n i : Nat} {S : List Int} (h : i < (zcD n S).length) : (zcD n S)[i] = decide ((i : Int) ∈ S) := by simp [zcD]
theorem ztI (n : Nat) : List.replicate n false = zcD n [] := by
 apply List.ext_getElem <;> simp [zcD]
theorem ztJ {n e : Nat} (S : List Int) (h : e < n) : (zcD n S).set e true = zcD n (S ++ [(e : Int)]) := by
 apply List.ext_getElem
 ·simp
 ·intro k h1 h2
  simp [List.getElem_set, zcD]
  by_cases hk : e = k
  ·subst hk; simp
  ·have : ¬ (k : Int) = e := by omega
   simp [hk, this]
def zaG (H : zaa) (c : Cor) (n : Nat) (S : List Int) : zaa := H ++ [za7 c, .cells (zaV (zcD n S)), .cells [.ms (H.length + 1) 0 n n], .cells [.int .i64 S.length]]
theorem zft {H : zaa} (hs : HSc H) (c : Cor) (n : Nat) (S : List Int) : HSc (zaG H c n S) := hs.append (by simp [AB.sc, za7, zdp])
theorem HSc.swap {A A' J : zaa} (h : HSc (A ++ J)) (hA : HSc A') (hl : A'.length = A.length) : HSc (A' ++ J) := by
 intro x hx
 rw [List.length_append, hl, ← List.length_append]
 rcases List.mem_append.1 hx with h1 | h1
 ·exact zst (by rw [List.length_append]; omega) (hA x h1)
 ·exact h x (List.mem_append_right _ h1)
theorem zD2 : zcy tP zkp = true := by kernel_rfl
theorem zsW {H : zaa} {c : Cor} {n e : Nat} {S : List Int} {J : zaa} (he : e < n) (hl : (S.length : Int) ≤ 1000000) (K : AV → zaa → Prop)
  (h1 : (e : Int) ∈ S → K (.bool false) (zaG H c n S ++ J)) (h2 : (e : Int) ∉ S → K (.bool true) (zaG H c n (S ++ [(e : Int)]) ++ J)) :
  aCallV tP (.fn zkp [.ptr (H.length + 2) 0, .ptr (H.length + 3) 0]) [.int .i64 e] (zaG H c n S ++ J) K := by
 simp only [aCallV, zD2]
 refine zMU fun hs => ?_
 have hb := zDK S he
 by_cases hm : (e : Int) ∈ S
 ·have h1 := h1 hm
  simp [zaG] at h1
  simp [zmV, zaG, he, zaP, hb, hm]
  exact h1
 ·have h2 := h2 hm
  simp [zaG] at h2
  simp [zmV, zaG, he, zaP, hb, hm]
  rw [zar (by omega) (by omega), zer (by simpa using he), ztJ S he]
  exact ⟨by omega, h2⟩
def zbI (c : Cor) : List Int := c.codes.map Cod.body ++ c.exprs.flatMap CEx.kids
structure TreeP (c : Cor) : Prop where
 binds : ∀ i (h : i < c.exprs.length), (c.exprs[i]).binds.length = (c.exprs[i]).kids.length
 kids : ∀ i (h : i < c.exprs.length), ∀ k ∈ (c.exprs[i]).kids, (i : Int) < k ∧ k < c.exprs.length
 nodup : (zbI c).Nodup
 len : (zbI c).length = c.exprs.length
theorem zo4 {A R : List Int} {s : Int} (h : s ∈ A) : ¬ (A ++ s :: R).Nodup := by
 rw [List.nodup_append]
 rintro ⟨_, _, h3⟩
 exact h3 s h s (by simp) rfl
theorem zo5 {A : List Int} {s : Int} (h : A.Nodup) (hs : s ∉ A) : (A ++ [s]).Nodup := by
 rw [List.nodup_append]
 refine ⟨h, by simp, ?_⟩
 intro a ha b hb
 simp at hb; subst hb
 exact fun e => hs (e ▸ ha)
theorem zfs {α : Type} {l : List α} {i : Nat} (h : i < l.length) : l = l.take i ++ l[i] :: l.drop (i + 1) := by rw [List.getElem_cons_drop, List.take_append_drop]
theorem zbR {α : Type} {l : List α} {i : Nat} (h : i < l.length) : l.take (i + 1) = l.take i ++ [l[i]] := by rw [List.take_append_getElem h]
def zaQ (c : Cor) (i : Nat) : List Int := (c.codes.take i).map Cod.body
theorem zDL (c : Cor) (i : Nat) : (zaQ c i).length = min i c.codes.length := by simp [zaQ]
theorem zDN {c : Cor} {i : Nat} (h : i < c.codes.length) : zaQ c (i + 1) = zaQ c i ++ [(c.codes[i]).body] := by
 have := congrArg (List.map Cod.body) (zbR h)
 rw [List.map_append] at this
 exact this
def zbf (c : Cor) (i : Nat) : List Int := (c.exprs.take i).flatMap CEx.kids
theorem zEL {c : Cor} {i : Nat} (h : i < c.exprs.length) : zbf c (i + 1) = zbf c i ++ (c.exprs[i]).kids := by
 have := congrArg (List.flatMap CEx.kids) (zbR h)
 rw [List.flatMap_append] at this
 simpa [zbf] using this
theorem zsB (c : Cor) : zbI c = zaQ c c.codes.length ++ zbf c c.exprs.length := by simp [zbI, zaQ, zbf]
theorem zDr {c : Cor} {i : Nat} (h : i < c.codes.length) : ∃ R, zbI c = zaQ c i ++ (c.codes[i]).body :: R := by
 refine ⟨(c.codes.drop (i + 1)).map Cod.body ++ c.exprs.flatMap CEx.kids, ?_⟩
 have := congrArg (List.map Cod.body) (zfs h)
 rw [List.map_append, List.map_cons] at this
 rw [zbI, this, zaQ, List.append_assoc]; rfl
theorem zDs {c : Cor} {i j : Nat} (h : i < c.exprs.length) (hj : j < (c.exprs[i]).kids.length) : ∃ R, zbI c = (zaQ c c.codes.length ++ zbf c i ++ (c.exprs[i]).kids.take j) ++ (c.exprs[i]).kids[j] :: R := by
 refine ⟨(c.exprs[i]).kids.drop (j + 1) ++ (c.exprs.drop (i + 1)).flatMap CEx.kids, ?_⟩
 have h1 : c.exprs.flatMap CEx.kids = zbf c i ++ ((c.exprs[i]).kids ++ (c.exprs.drop (i + 1)).flatMap CEx.kids) := by
  have := congrArg (List.flatMap CEx.kids) (zfs h)
  rw [List.flatMap_append, List.flatMap_cons] at this
  exact this
 have h2 := zfs hj
 rw [zbI, h1]
 have h3 : zaQ c c.codes.length = c.codes.map Cod.body := by simp [zaQ]
 rw [h3]
 generalize (c.exprs.drop (i + 1)).flatMap CEx.kids = X at *
 generalize (c.exprs[i]).kids = Y at *
 have h4 : Y ++ X = Y.take j ++ Y[j] :: (Y.drop (j + 1) ++ X) := by
  have h5 : Y.take j ++ Y[j] :: (Y.drop (j + 1) ++ X) = (Y.take j ++ Y[j] :: Y.drop (j + 1)) ++ X := by rw [List.append_assoc, List.cons_append]
  rw [h5, ← h2]
 rw [h4]; simp
theorem zKN (c : Cor) (hc : zaR c) (hbody : ∀ i (h : i < c.codes.length), ∃ b : Nat, (c.codes[i]).body = b ∧ b < c.exprs.length) (H : zaa) (K : AV → zaa → Prop) (hK : ∀ b, (b = true ↔ TreeP c) → K (.bool b) H) : ACalls tP zoM [.agg c.cs] H K := by
 refine ACalls.out (zKM fun hs => ?_)
 obtain ⟨k1, k2, k3, ⟨k4, k5⟩, k6, k7⟩ := hc
 have hF : ¬ TreeP c → ∀ J, Out H.length K (.bool false) (H ++ J) := fun h J => Out.bool rfl (Nat.le_refl _) hs (hK _ (by simp [h]))
 have hT : ∀ b : Bool, (b = true ↔ TreeP c) → ∀ J, Out H.length K (.bool b) (H ++ J) := fun b h J => Out.bool rfl (Nat.le_refl _) hs (hK _ h)
 generalize hn : c.exprs.length = n at *
 simp [zqV, Cor.cs, hn]
 simp only [zbd, Int.toNat_natCast, zeq, ztI]
 refine ⟨⟨by omega, by omega, by omega, by omega⟩, ?_⟩
 simp
 refine ⟨⟨rfl, rfl⟩, ?_⟩
 refine zKL (Inv := fun q t20 H' => ∃ i : Nat, i ≤ c.codes.length ∧ q = c.codes.length - i ∧ t20 = .int .i64 i ∧ (zaQ c i).Nodup ∧ H' = zaG H c n (zaQ c i)) c.codes.length ?_ ?_
 ·intro _; exact ⟨0, by omega, by omega, rfl, by simp [zaQ], by simp [zaG, za7, zaQ]⟩
 ·rintro q t20 H' ⟨i, hi, rfl, rfl, hnd, rfl⟩ hsc hlen hsF Kb hKb
  by_cases hlt : i < c.codes.length
  ·obtain ⟨x, y, z, hv, hx, hy, hz, hat⟩ := zet hlt
   obtain ⟨b, hb, hbl⟩ := hbody i hlt
   simp [zl6, hlt, hat, hx, hy, hz]
   rw [hb]
   refine zsW (S := zaQ c i) hbl (by rw [zDL]; omega) _ (fun hm => ?_) (fun hm => ?_)
   ·simp [zaG]
    refine hF (fun hp => ?_) _
    obtain ⟨R, hR⟩ := zDr hlt
    have := hp.nodup
    rw [hR, hb] at this
    exact zo4 hm this
   ·simp
    rw [zar (by omega) (by omega)]
    have he : zaQ c i ++ [(b : Int)] = zaQ c (i + 1) := by rw [zDN hlt, hb]
    refine hKb _ _ ⟨c.codes.length - (i + 1), by omega, Back.at (J := [_]) (H2 := zaG H c n (zaQ c (i + 1))) (by rw [he]) (by simp [zaG]) (zft hs _ _ _) ?_ ⟨_, rfl, i + 1, by omega, rfl, by simp, ?_, rfl⟩⟩
    ·simp [zgi, AV.sc, AV.scV, AV.scA, AV.scB, zaG]
    ·rw [← he]; exact zo5 hnd hm
  ·obtain rfl : i = c.codes.length := by omega
   have hbr : ∀ x ∈ zaQ c c.codes.length, 0 ≤ x ∧ x < n := by
    intro x hx
    simp [zaQ] at hx
    obtain ⟨f, hf, rfl⟩ := hx
    obtain ⟨j, hj, rfl⟩ := List.getElem_of_mem hf
    obtain ⟨b, hb, hbl⟩ := hbody j hj
    omega
   simp [zl6, zaG, za7, hn]
   refine zKJ (Inv := fun q t33 H' => ∃ i : Nat, i ≤ n ∧ q = n - i ∧ t33 = .int .i64 i ∧ (∀ j (h : j < c.exprs.length), j < i → (c.exprs[j]).binds.length = (c.exprs[j]).kids.length ∧ ∀ k ∈ (c.exprs[j]).kids, (j : Int) < k ∧ k < n) ∧ (zaQ c c.codes.length ++ zbf c i).Nodup ∧ (∀ x ∈ zbf c i, 0 ≤ x ∧ x < n) ∧ H' = zaG H c n (zaQ c c.codes.length ++ zbf c i)) n ?_ ?_
   ·intro _; exact ⟨0, by omega, by omega, rfl, by omega, by simpa [zbf] using hnd, by simp [zbf], by simp [zaG, za7, zbf]⟩
   ·rintro q t33 H' ⟨i, hi, rfl, rfl, hok, hnd2, hrg, rfl⟩ hsc1 hlen1 hsF1 Kb1 hKb1
    by_cases hlt : i < n
    ·have hlt' : i < c.exprs.length := by omega
     obtain ⟨x, y, z, hv, hx, hy, hz, hat⟩ := zdH hlt'
     have hS : (zaQ c c.codes.length ++ zbf c i).length ≤ n := zkz n _ hnd2 (fun x hx => by
      rcases List.mem_append.1 hx with h | h
      ·exact hbr x h
      ·exact hrg x h)
     cases hbk : ((c.exprs[i]).binds.length == (c.exprs[i]).kids.length) with
     | false =>
      have hbk' : (((c.exprs[i]).binds.length : Int) != (c.exprs[i]).kids.length) = true := by simp at hbk ⊢; omega
      simp [zjr, hlt, hlt', hn, hat, hx, hy, hz, hbk']
      simp [zaG]
      refine hF (fun hp => ?_) _
      simp at hbk; exact hbk (hp.binds i hlt')
     | true =>
      have hbk' : (((c.exprs[i]).binds.length : Int) != (c.exprs[i]).kids.length) = false := by simp at hbk ⊢; omega
      simp [zjr, hlt, hlt', hn, hat, hx, hy, hz, hbk']
      have hal := fun j (hj : j < (c.exprs[i]).kids.length) => zDs hlt' hj
      have hks := zEL hlt'
      have hek := (k7 _ (List.getElem_mem hlt')).2.2.1
      have hno : ¬ (∀ k ∈ (c.exprs[i]).kids, (i : Int) < k ∧ k < n) → ¬ TreeP c := fun h hp => h fun k hk => by
       have := hp.kids i hlt' k hk; omega
      generalize hE : c.exprs[i] = E at *
      refine zKK (Inv := fun q t48 H' => ∃ j : Nat, j ≤ E.kids.length ∧ q = E.kids.length - j ∧ t48 = .int .i64 j ∧ (∀ k ∈ E.kids.take j, (i : Int) < k ∧ k < n) ∧ (zaQ c c.codes.length ++ zbf c i ++ E.kids.take j).Nodup ∧ ∃ J, H' = zaG H c n (zaQ c c.codes.length ++ zbf c i ++ E.kids.take j) ++ J) E.kids.length ?_ ?_
      ·intro _; exact ⟨0, by omega, by omega, rfl, by simp, by simpa using hnd2, _, by simp; rfl⟩
      ·rintro q t48 H' ⟨j, hj, rfl, rfl, hkk, hnd3, J, rfl⟩ hsc2 hlen2 hsF2 Kb2 hKb2
       by_cases hjl : j < E.kids.length
       ·obtain ⟨R, hR⟩ := hal j hjl
        have hmem : E.kids[j] ∈ E.kids := List.getElem_mem hjl
        by_cases hle : E.kids[j] ≤ i
        ·simp [zhW, hjl, ints, hle]
         simp [zaG]
         refine hF (hno fun h => ?_) _
         have := h _ hmem; omega
        by_cases hge : (n : Int) ≤ E.kids[j]
        ·simp [zhW, hjl, ints, hle, zaG, za7, hn, hge]
         refine hF (hno fun h => ?_) _
         have := h _ hmem; omega
        obtain ⟨k, hk⟩ : ∃ k : Nat, E.kids[j] = k := ⟨(E.kids[j]).toNat, by omega⟩
        have hge' : ¬ n ≤ k := by omega
        have hle' : ¬ k ≤ i := by omega
        have hS3 : (zaQ c c.codes.length ++ zbf c i ++ E.kids.take j).length ≤ 1000000 := by
         rw [List.length_append, List.length_take]; omega
        have hsplitj : zaQ c c.codes.length ++ zbf c i ++ E.kids.take (j + 1) = (zaQ c c.codes.length ++ zbf c i ++ E.kids.take j) ++ [(k : Int)] := by
         rw [zbR hjl, hk]; simp only [List.append_assoc]
        generalize hSS : zaQ c c.codes.length ++ zbf c i ++ E.kids.take j = S3 at *
        have hC : za7 c = .cells [.sl (c.data.map Dat.cs) .none, .sl (c.codes.map Cod.cs) .none, .sl (VT.css c.vars) .none, .sl (c.exprs.map CEx.cs) .none] := rfl
        have hg0 : (zaG H c n S3 ++ J)[H.length]? = some (za7 c) := by simp [zaG]
        simp [zhW, hjl, ints, hk, hle', hg0, hC, hn, hge']
        refine zsW (S := S3) (by omega) (by omega) _ (fun hm => ?_) (fun hm => ?_)
        ·simp [zaG]
         refine hF (fun hp => ?_) _
         have := hp.nodup
         rw [hR, hk] at this
         exact zo4 hm this
        ·simp
         rw [zar (by omega) (by omega)]
         refine hKb2 _ _ ⟨E.kids.length - (j + 1), by omega, Back.at (J := []) (H2 := zaG H c n (S3 ++ [(k : Int)]) ++ J) (by simp) (by simpa [zaG] using hlen2) ?_ ?_ ⟨_, rfl, j + 1, by omega, rfl, by simp, ?_, ?_, J, by rw [hsplitj]⟩⟩
         ·exact HSc.swap hsc2 (zft hs _ _ _) (by simp [zaG])
         ·simp [zgh, AV.sc, AV.scV, AV.scA, AV.scB, zaG]
         ·exact zb8 hjl hkk (by rw [hk]; omega)
         ·rw [hsplitj]; exact zo5 hnd3 hm
       ·obtain rfl : j = E.kids.length := by omega
        rw [List.take_length] at *
        simp [zhW]
        rw [zar (by omega) (by omega)]
        refine hKb1 _ _ ⟨n - (i + 1), by omega, Back.at (J := J) (H2 := zaG H c n (zaQ c c.codes.length ++ zbf c (i + 1))) (by rw [hks]) (by simp [zaG]) (zft hs _ _ _) ?_ ⟨_, rfl, i + 1, by omega, rfl, by simp, ?_, ?_, ?_, rfl⟩⟩
        ·simp [zgg, AV.sc, AV.scV, AV.scA, AV.scB, zaG]
        ·intro j hj hji
         by_cases hje : j = i
         ·subst hje; rw [hE]; exact ⟨by simpa using hbk, hkk⟩
         ·exact hok j hj (by omega)
        ·rw [hks, ← List.append_assoc]; exact hnd3
        ·rw [hks]; intro x hx
         rcases List.mem_append.1 hx with h | h
         ·exact hrg x h
         ·have := hkk x h; omega
    ·obtain rfl : i = n := by omega
     simp [zjr, zaG, za7, hn]
     refine hT _ ?_ _
     have hal : zbI c = zaQ c c.codes.length ++ zbf c i := by rw [zsB, hn]
     have hlen' : (zbI c).length = (zaQ c c.codes.length).length + (zbf c i).length := by rw [hal]; simp
     constructor
     ·intro h
      refine ⟨fun j h => (hok j h (by omega)).1, fun j h k hk => ?_, by rw [hal]; exact hnd2, ?_⟩
      ·have := (hok j h (by omega)).2 k hk; omega
      ·simp at h; omega
     ·intro hp
      have := hp.len
      simp; omega
theorem zDX : zcy tP zkq = true := by kernel_rfl
theorem zn6 {H : zaa} {c : Cor} {n : Nat} {l S : List Int} {J : zaa} (hsH : HSc H) (hl : S.length + l.length ≤ 1000000) (hnd : S.Nodup) (K : AV → zaa → Prop)
  (h1 : (∀ x ∈ l, 0 ≤ x ∧ x < n) → (S ++ l).Nodup → K (.bool true) (zaG H c n (S ++ l) ++ J)) (h2 : ¬ ((∀ x ∈ l, 0 ≤ x ∧ x < n) ∧ (S ++ l).Nodup) → ∀ S', K (.bool false) (zaG H c n S' ++ J)) :
  aCallV tP (.fn zkq [.ptr (H.length + 2) 0, .ptr (H.length + 3) 0]) [.sl (ints l) .none] (zaG H c n S ++ J) K := by
 simp only [aCallV, zDX]
 refine zMZ fun hs => ?_
 simp [zrK]
 refine zMY (Inv := fun q t9 H' => ∃ j : Nat, j ≤ l.length ∧ q = l.length - j ∧ t9 = .int .i64 j ∧ (∀ x ∈ l.take j, 0 ≤ x ∧ x < (n : Int)) ∧ (S ++ l.take j).Nodup ∧ H' = zaG H c n (S ++ l.take j) ++ J) l.length ?_ ?_
 ·intro _; exact ⟨0, by omega, by omega, rfl, by simp, by simpa using hnd, by simp⟩
 ·rintro q t9 H' ⟨j, hj, rfl, rfl, hr, hn2, rfl⟩ hsc hlen hsF Kb hKb
  by_cases hjl : j < l.length
  ·have hsp := zfs hjl
   by_cases h0 : l[j] < 0
   ·simp [zgI, hjl, ints, h0]
    exact h2 (fun h => by have := h.1 _ (List.getElem_mem hjl); omega) _
   by_cases hge : (n : Int) ≤ l[j]
   ·simp [zgI, hjl, ints, h0, zaG, hge]
    have := h2 (fun h => by have := h.1 _ (List.getElem_mem hjl); omega) (S ++ l.take j)
    simpa [zaG] using this
   obtain ⟨e, he⟩ : ∃ e : Nat, l[j] = e := ⟨(l[j]).toNat, by omega⟩
   have hen : e < n := by omega
   have hen' : ¬ n ≤ e := by omega
   have he0 : ¬ (e : Int) < 0 := by omega
   have hnx : S ++ l.take (j + 1) = (S ++ l.take j) ++ [(e : Int)] := by rw [zbR hjl, he, List.append_assoc]
   have hlS : (S ++ l.take j).length ≤ 1000000 := by rw [List.length_append, List.length_take]; omega
   by_cases hm : (e : Int) ∈ S ++ l.take j
   ·have h3 := h2 (fun h => by
     have := h.2
     rw [hsp, ← List.append_assoc, he] at this
     exact zo4 hm this) (S ++ l.take j)
    generalize S ++ l.take j = S1 at *
    simp [zgI, hjl, ints, he, he0, zaG, hen, hen', zaP, hm]
    simpa [zaG] using h3
   ·have hkb := hKb
    generalize hS1 : S ++ l.take j = S1 at *
    simp [zgI, hjl, ints, he, he0, zaG, hen, hen', zaP, hm]
    rw [zar (by omega) (by omega), zar (by omega) (by omega), zer (by simpa using hen), ztJ S1 hen]
    refine ⟨by omega, hKb _ _ ⟨l.length - (j + 1), by omega, Back.at (J := []) (H2 := zaG H c n (S1 ++ [(e : Int)]) ++ J) (by simp [zaG]) (by simp [zaG]) ?_ ?_ ⟨_, rfl, j + 1, by omega, rfl, by simp, ?_, ?_, by rw [hnx]⟩⟩⟩
    ·exact HSc.swap hs (zft hsH _ _ _) (by simp [zaG])
    ·simp [zgJ, AV.sc, AV.scV, AV.scA, AV.scB, zaG]
    ·exact zb8 hjl hr (by rw [he]; omega)
    ·rw [hnx]; exact zo5 hn2 hm
  ·obtain rfl : j = l.length := by omega
   rw [List.take_length] at *
   simp [zgI]
   exact h1 hr hn2
def zbS (c : Cor) : List Int := (c.codes.flatMap fun f => f.params ++ f.capt) ++ c.exprs.flatMap fun e => e.binds.flatten
structure BindP (c : Cor) : Prop where
 range : ∀ x ∈ zbS c, 0 ≤ x ∧ x < c.vars.length
 nodup : (zbS c).Nodup
 len : (zbS c).length = c.vars.length
def zaW (c : Cor) (i : Nat) : List Int := (c.codes.take i).flatMap fun f => f.params ++ f.capt
def zbC (c : Cor) (i : Nat) : List Int := (c.exprs.take i).flatMap fun e => e.binds.flatten
theorem zub {c : Cor} {i : Nat} (h : i < c.codes.length) : zaW c (i + 1) = zaW c i ++ ((c.codes[i]).params ++ (c.codes[i]).capt) := by
 have := congrArg (List.flatMap fun f : Cod => f.params ++ f.capt) (zbR h)
 rw [List.flatMap_append] at this
 simpa [zaW] using this
theorem zsM {c : Cor} {i : Nat} (h : i < c.exprs.length) : zbC c (i + 1) = zbC c i ++ (c.exprs[i]).binds.flatten := by
 have := congrArg (List.flatMap fun e : CEx => e.binds.flatten) (zbR h)
 rw [List.flatMap_append] at this
 simpa [zbC] using this
theorem zsC (c : Cor) : zbS c = zaW c c.codes.length ++ zbC c c.exprs.length := by simp [zbS, zaW, zbC]
theorem zDu {c : Cor} {i : Nat} (h : i < c.codes.length) : ∃ R, zbS c = zaW c i ++ ((c.codes[i]).params ++ ((c.codes[i]).capt ++ R)) := by
 refine ⟨((c.codes.drop (i + 1)).flatMap fun f => f.params ++ f.capt) ++ c.exprs.flatMap fun e => e.binds.flatten, ?_⟩
 have := congrArg (List.flatMap fun f : Cod => f.params ++ f.capt) (zfs h)
 rw [List.flatMap_append, List.flatMap_cons] at this
 rw [zbS, this, zaW]
 simp only [List.append_assoc]
theorem zDt {c : Cor} {i : Nat} (h : i < c.exprs.length) {j : Nat} (hj : j < (c.exprs[i]).binds.length) : ∃ R, zbS c = (zaW c c.codes.length ++ zbC c i ++ ((c.exprs[i]).binds.take j).flatten) ++ ((c.exprs[i]).binds[j] ++ R) := by
 refine ⟨((c.exprs[i]).binds.drop (j + 1)).flatten ++ (c.exprs.drop (i + 1)).flatMap fun e => e.binds.flatten, ?_⟩
 have h1 := congrArg (List.flatMap fun e : CEx => e.binds.flatten) (zfs h)
 rw [List.flatMap_append, List.flatMap_cons] at h1
 have h2 := congrArg List.flatten (zfs hj)
 rw [List.flatten_append, List.flatten_cons] at h2
 rw [zbS, h1, h2, zbC]
 have h3 : zaW c c.codes.length = c.codes.flatMap fun f => f.params ++ f.capt := by simp [zaW]
 rw [h3]
 simp only [List.append_assoc]
theorem zFg {c : Cor} {A l R : List Int} (ha : zbS c = A ++ (l ++ R)) (h : ¬ ((∀ x ∈ l, 0 ≤ x ∧ x < (c.vars.length : Int)) ∧ (A ++ l).Nodup)) : ¬ BindP c := by
 intro hp
 refine h ⟨fun x hx => hp.range x (by rw [ha]; simp [hx]), ?_⟩
 have := hp.nodup
 rw [ha, ← List.append_assoc] at this
 exact (List.nodup_append.1 this).1
theorem zds {α : Type} (f : α → List Int) (m : Nat) : ∀ l : List α, (∀ x ∈ l, (f x).length ≤ m) → (l.flatMap f).length ≤ l.length * m
 | [], _ => by simp
 | x :: l, h => by
  have h1 := zds f m l (fun y hy => h y (by simp [hy]))
  have h2 := h x (by simp)
  rw [List.flatMap_cons, List.length_append, List.length_cons, Nat.add_mul]; omega
@[simp] theorem zSP (H : zaa) (c : Cor) (n : Nat) (S : List Int) : (zaG H c n S).length = H.length + 4 := by simp [zaG]
@[simp] theorem zSO (H : zaa) (c : Cor) (n : Nat) (S : List Int) (J : zaa) : (zaG H c n S ++ J)[H.length + 4]? = J[0]? := by simp [zaG]
theorem zKW (c : Cor) (hc : zaR c) (H : zaa) (K : AV → zaa → Prop) (hK : ∀ b, (b = true ↔ BindP c) → K (.bool b) H) : ACalls tP zoN [.agg c.cs] H K := by
 refine ACalls.out (zKV fun hs => ?_)
 obtain ⟨k1, k2, k3, ⟨k4, k5⟩, k6, k7⟩ := hc
 have hF : ¬ BindP c → ∀ J, Out H.length K (.bool false) (H ++ J) := fun h J => Out.bool rfl (Nat.le_refl _) hs (hK _ (by simp [h]))
 have hT : ∀ b : Bool, (b = true ↔ BindP c) → ∀ J, Out H.length K (.bool b) (H ++ J) := fun b h J => Out.bool rfl (Nat.le_refl _) hs (hK _ h)
 have hbad : ∀ {A l R : List Int}, zbS c = A ++ (l ++ R) → ¬ ((∀ x ∈ l, 0 ≤ x ∧ x < (c.vars.length : Int)) ∧ (A ++ l).Nodup) → ¬ BindP c := fun h1 h2 => zFg h1 h2
 generalize hn : c.vars.length = n at *
 have hle : ∀ S : List Int, S.Nodup → (∀ x ∈ S, 0 ≤ x ∧ x < n) → S.length ≤ n := zkz n
 simp [zqZ, Cor.cs, hn]
 simp only [zbd, Int.toNat_natCast, zeq, ztI]
 refine ⟨⟨by omega, by omega, by omega, by omega⟩, ?_⟩
 simp
 refine ⟨⟨rfl, rfl⟩, ?_⟩
 refine zKU (Inv := fun q t20 H' => ∃ i : Nat, i ≤ c.codes.length ∧ q = c.codes.length - i ∧ t20 = .int .i64 i ∧ (zaW c i).Nodup ∧ (∀ x ∈ zaW c i, 0 ≤ x ∧ x < n) ∧ H' = zaG H c n (zaW c i)) c.codes.length ?_ ?_
 ·intro _; exact ⟨0, by omega, by omega, rfl, by simp [zaW], by simp [zaW], by simp [zaG, za7, zaW]⟩
 ·rintro q t20 H' ⟨i, hi, rfl, rfl, hnd, hrg, rfl⟩ hsc hlen hsF Kb hKb
  have hSn := hle _ hnd hrg
  by_cases hlt : i < c.codes.length
  ·obtain ⟨x, y, z, hv, hx, hy, hz, hat⟩ := zet hlt
   obtain ⟨R, hR⟩ := zDu hlt
   have hps := zub hlt
   obtain ⟨_, kp, kc, _⟩ := k6 _ (List.getElem_mem hlt)
   generalize hf : c.codes[i] = f at *
   simp [zma, hlt, hf, hat, hx, hy, hz]
   refine zn6 (S := zaW c i) hs (by omega) hnd _ (fun hr1 hn1 => ?_) (fun hb S' => ?_)
   ·simp
    have hl1 := hle _ hn1 (fun x hx => by
     rcases List.mem_append.1 hx with h | h
     ·exact hrg x h
     ·exact hr1 x h)
    refine zn6 (S := zaW c i ++ f.params) (l := f.capt) hs (by omega) hn1 _ (fun hr2 hn2 => ?_) (fun hb S' => ?_)
    ·simp
     rw [zar (by omega) (by omega)]
     have he : zaW c i ++ (f.params ++ f.capt) = zaW c (i + 1) := by rw [hps]
     refine hKb _ _ ⟨c.codes.length - (i + 1), by omega, Back.at (J := [_]) (H2 := zaG H c n (zaW c (i + 1))) (by rw [he]) (by simp [zaG]) (zft hs _ _ _) ?_ ⟨_, rfl, i + 1, by omega, rfl, by simp, ?_, ?_, rfl⟩⟩
     ·simp [zgl, AV.sc, AV.scV, AV.scA, AV.scB, zaG]
     ·rw [hps, ← List.append_assoc]; exact hn2
     ·rw [hps]; intro x hx
      rcases List.mem_append.1 hx with h | h
      ·exact hrg x h
      ·rcases List.mem_append.1 h with h | h
       ·exact hr1 x h
       ·exact hr2 x h
    ·simp [zaG]
     exact hF (hbad (by rw [hR, List.append_assoc]) hb) _
   ·simp [zaG]
    exact hF (hbad hR hb) _
  ·obtain rfl : i = c.codes.length := by omega
   simp [zma, zaG, za7]
   refine zKS (Inv := fun q t40 H' => ∃ i : Nat, i ≤ c.exprs.length ∧ q = c.exprs.length - i ∧ t40 = .int .i64 i ∧ (zaW c c.codes.length ++ zbC c i).Nodup ∧ (∀ x ∈ zaW c c.codes.length ++ zbC c i, 0 ≤ x ∧ x < n) ∧ H' = zaG H c n (zaW c c.codes.length ++ zbC c i)) c.exprs.length ?_ ?_
   ·intro _; exact ⟨0, by omega, by omega, rfl, by simpa [zbC] using hnd, by simpa [zbC] using hrg, by simp [zaG, za7, zbC]⟩
   ·rintro q t40 H' ⟨i, hi, rfl, rfl, hnd, hrg, rfl⟩ hsc1 hlen1 hsF1 Kb1 hKb1
    have hSn := hle _ hnd hrg
    by_cases hlt : i < c.exprs.length
    ·obtain ⟨x, y, z, hv, hx, hy, hz, hat⟩ := zdH hlt
     have hal := fun j hj => zDt hlt (j := j) hj
     have hbs := zsM hlt
     obtain ⟨_, kb, _, _, kbl⟩ := k7 _ (List.getElem_mem hlt)
     generalize hE : c.exprs[i] = E at *
     simp [zl8, hlt, hE, hat, hx, hy, hz]
     refine zKT (Inv := fun q t47 H' => ∃ j : Nat, j ≤ E.binds.length ∧ q = E.binds.length - j ∧ t47 = .int .i64 j ∧ (zaW c c.codes.length ++ zbC c i ++ (E.binds.take j).flatten).Nodup ∧ (∀ x ∈ zaW c c.codes.length ++ zbC c i ++ (E.binds.take j).flatten, 0 ≤ x ∧ x < n) ∧ ∃ J, H' = zaG H c n (zaW c c.codes.length ++ zbC c i ++ (E.binds.take j).flatten) ++ J) E.binds.length ?_ ?_
     ·intro _; exact ⟨0, by omega, by omega, rfl, by simpa using hnd, by simpa using hrg, _, by simp; rfl⟩
     ·rintro q t47 H' ⟨j, hj, rfl, rfl, hnd3, hrg3, J, rfl⟩ hsc2 hlen2 hsF2 Kb2 hKb2
      by_cases hjl : j < E.binds.length
      ·obtain ⟨R, hR⟩ := hal j hjl
       have hkl := kbl _ (List.getElem_mem hjl)
       have hS3 := hle _ hnd3 hrg3
       have hnx : zaW c c.codes.length ++ zbC c i ++ (E.binds.take (j + 1)).flatten = (zaW c c.codes.length ++ zbC c i ++ (E.binds.take j).flatten) ++ E.binds[j] := by
        rw [zbR hjl, List.flatten_append]; simp
       generalize hSS : zaW c c.codes.length ++ zbC c i ++ (E.binds.take j).flatten = S3 at *
       simp [zl9, hjl, rows]
       refine zn6 (S := S3) hs (by omega) hnd3 _ (fun hr1 hn1 => ?_) (fun hb S' => ?_)
       ·simp
        rw [zar (by omega) (by omega)]
        refine hKb2 _ _ ⟨E.binds.length - (j + 1), by omega, Back.at (J := []) (H2 := zaG H c n (S3 ++ E.binds[j]) ++ J) (by simp) (by simpa [zaG] using hlen2) ?_ ?_ ⟨_, rfl, j + 1, by omega, rfl, by simp, ?_, ?_, J, by rw [hnx]⟩⟩
        ·exact HSc.swap hsc2 (zft hs _ _ _) (by simp [zaG])
        ·simp [zgk, AV.sc, AV.scV, AV.scA, AV.scB, zaG]
        ·rw [hnx]; exact hn1
        ·rw [hnx]; intro x hx
         rcases List.mem_append.1 hx with h | h
         ·exact hrg3 x h
         ·exact hr1 x h
       ·simp [zaG]
        exact hF (hbad hR hb) _
      ·obtain rfl : j = E.binds.length := by omega
       rw [List.take_length] at *
       simp [zl9]
       rw [zar (by omega) (by omega)]
       refine hKb1 _ _ ⟨c.exprs.length - (i + 1), by omega, Back.at (J := J) (H2 := zaG H c n (zaW c c.codes.length ++ zbC c (i + 1))) (by rw [hbs]) (by simp [zaG]) (zft hs _ _ _) ?_ ⟨_, rfl, i + 1, by omega, rfl, by simp, ?_, ?_, rfl⟩⟩
       ·simp [zgj, AV.sc, AV.scV, AV.scA, AV.scB, zaG]
       ·rw [hbs, ← List.append_assoc]; exact hnd3
       ·rw [hbs, ← List.append_assoc]; exact hrg3
    ·obtain rfl : i = c.exprs.length := by omega
     simp [zl8, zaG, za7, hn]
     refine hT _ ?_ _
     have hal : zbS c = zaW c c.codes.length ++ zbC c c.exprs.length := zsC c
     have hlen' : (zbS c).length = (zaW c c.codes.length).length + (zbC c c.exprs.length).length := by rw [hal]; simp
     constructor
     ·intro h
      refine ⟨by rw [hal, hn]; exact hrg, by rw [hal]; exact hnd, ?_⟩
      simp at h; omega
     ·intro hp
      have := hp.len
      simp; omega
end Go.Proofs.Ytkdmpbhbmmhijaa
