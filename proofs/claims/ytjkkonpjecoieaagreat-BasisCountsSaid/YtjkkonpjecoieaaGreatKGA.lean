import Derived.Test.YtjkkonpjecoieaaGreatKY15
import Derived.Test.YtjkkonpjecoieaaGreatKY4
import Derived.Test.YtjkkonpjecoieaaGreatKNum
import Derived.Test.YtjkkonpjecoieaaGreatProg
import Derived.KernelRfl
set_option linter.unusedSimpArgs false
set_option linter.unusedVariables false
namespace Go.Proofs.YtjkkonpjecoieaaGreat
open Go Go.Abs
set_option maxRecDepth 8000
def zby (l : List (List UInt8)) : List (List UInt8 × AV) := l.map fun s => (s, .bool true)
theorem zd3 (s : List UInt8) : ∀ l : List (List UInt8), (zbO (zby l) s).getD (.bool false) = .bool (decide (s ∈ l))
 | [] => by simp [zby, zbO]
 | a :: l => by
  have := zd3 s l
  cases h : a == s with
  | true =>
   have h' : a = s := by simpa using h
   simp [zby, zbO, h, h']
  | false =>
   have h' : a ≠ s := by simpa using h
   have h'' : s ≠ a := fun e => h' e.symm
   simp only [zby, List.map_cons, zbO, h] at this ⊢
   rw [this]; simp [h'']
theorem zlG (s : List UInt8) : ∀ l : List (List UInt8), s ∉ l → zcF (zby l) s (.bool true) = zby (l ++ [s])
 | [], _ => rfl
 | a :: l, h => by
  have h1 : (a == s) = false := by simp at h; simpa using fun e => h.1 e.symm
  have := zlG s l (by simp at h; exact h.2)
  simp only [zby, List.map_cons, zcF, h1, List.cons_append] at this ⊢
  rw [this]
theorem zx8 (m : Nat) (l : List (List UInt8)) : (AB.map (zby l)).sc m = true := by simp [AB.sc, zby, AV.scV]
def za5 (data : List Dat) : List (List UInt8) := data.map Dat.name
def zaF (data : List Dat) : List (List UInt8) := data.flatMap fun D => D.cons.map Con.name
def zcD (data : List Dat) (d : Nat) (vars : Int) (c : Con) : Bool := zcp c.name && (decide (c.args.length ≤ 6) && c.args.all (zcV data d vars))
def zcb (data : List Dat) (d : Nat) (D : Dat) : Bool := zcp D.name && decide (0 ≤ D.vars) && decide (D.vars ≤ 6) && decide (1 ≤ D.cons.length) && decide (D.cons.length ≤ 8) && D.cons.all (zcD data d D.vars)
def zci (data : List Dat) : List Dat → Nat → Bool
 | [], _ => true
 | D :: l, d => zcb data d D && zci data l (d + 1)
def za4 (data : List Dat) : Bool := decide (data.length ≤ 12) && zci data data 0 && !zbX (za5 data) && !zbX (zaF data)
theorem zqY {A R : List (List UInt8)} {s : List UInt8} (h : s ∈ A) : zbX (A ++ s :: R) = true := by
 simp only [zbX, Bool.not_eq_true', decide_eq_false_iff_not, List.nodup_append]
 rintro ⟨_, _, h3⟩
 exact h3 s h s (by simp) rfl
theorem zlC {l : List (List UInt8)} (h : l.Nodup) : zbX l = false := by simp [zbX, h]
theorem zqt {A : List (List UInt8)} {s : List UInt8} (h : A.Nodup) (hs : s ∉ A) : (A ++ [s]).Nodup := by
 rw [List.nodup_append]
 refine ⟨h, by simp, ?_⟩
 intro a ha b hb
 simp at hb; subst hb
 exact fun e => hs (e ▸ ha)
def zf8 (data : List Dat) : Prop := ∀ D ∈ data, D.cons.length ≤ 1000000 ∧ ∀ c ∈ D.cons, c.args.length ≤ 1000000 ∧ ∀ x ∈ c.args, x.nodes ≤ 1000000
theorem zBE (data : List Dat) (hB : zf8 data) (hl : data.length ≤ 1000000) (H : zaa) (K : AV → zaa → Prop) (hK : K (.bool (za4 data)) H) : ACalls tP zkS [.sl (data.map Dat.cs) .none] H K := by
 refine ACalls.out (zBC fun hs => ?_)
 have hO : ∀ J, Out H.length K (.bool (za4 data)) (H ++ J) := fun J => Out.bool rfl (Nat.le_refl _) hs hK
 by_cases h12 : data.length ≤ 12
 ·have h12' : ¬ (12 : Int) < data.length := by omega
  have h12'' : ¬ 12 < data.length := by omega
  have hD0 : zci data data 0 = false → ∀ J, Out H.length K (.bool false) (H ++ J) := fun h J => by
   have := hO J; rwa [show za4 data = false by simp [za4, h]] at this
  have hD1 : zbX (za5 data) = true → ∀ J, Out H.length K (.bool false) (H ++ J) := fun h J => by
   have := hO J; rwa [show za4 data = false by simp [za4, h]] at this
  have hD2 : zbX (zaF data) = true → ∀ J, Out H.length K (.bool false) (H ++ J) := fun h J => by
   have := hO J; rwa [show za4 data = false by simp [za4, h]] at this
  simp [zmy, h12', h12'']
  refine zBA (Inv := fun q t15 H' => ∃ i : Nat, i ≤ data.length ∧ q = data.length - i ∧ t15 = .int .i64 i ∧ zci data (data.drop i) i = zci data data 0 ∧ (za5 (data.take i)).Nodup ∧ (zaF (data.take i)).Nodup ∧ H' = H ++ [.map (zby (za5 (data.take i))), .map (zby (zaF (data.take i)))]) data.length ?_ ?_
  ·intro _; exact ⟨0, by omega, by omega, rfl, by simp, by simp [za5], by simp [zaF], by simp [za5, zaF, zby]⟩
  ·rintro q t15 H' ⟨i, hi, rfl, rfl, ho, hdn, hcn, rfl⟩ hsc hlen hsF Kb hKb
   by_cases hlt : i < data.length
   ·have e1 : (data.map Dat.cs)[i]? = some (data[i]).cs := by simp [hlt]
    obtain ⟨hB1, hB2⟩ := hB _ (List.getElem_mem hlt)
    have hargs := fun c hc => zD3 data i c hlt hc hl hB1 (hB2 _ (List.getElem_mem hc)).1 (hB2 _ (List.getElem_mem hc)).2
    rw [List.drop_eq_getElem_cons hlt, zci] at ho
    have htk : data.take (i + 1) = data.take i ++ [data[i]] := by rw [List.take_append_getElem hlt]
    have hsplit : data = data.take i ++ data[i] :: data.drop (i + 1) := by rw [List.getElem_cons_drop, List.take_append_drop]
    generalize hD : data[i] = D at *
    have hbad : zcb data i D = false → zci data data 0 = false := fun h => by rw [← ho, h, Bool.false_and]
    have hno : ∀ J, zcb data i D = false → Out H.length K (.bool false) (H ++ [.map (zby (za5 (data.take i))), .map (zby (zaF (data.take i)))] ++ J) := fun J h => by
     rw [List.append_assoc]; exact hD0 (hbad h) _
    simp [zmA, hlt, e1, hD, Dat.cs]
    refine ztS _ _ _ ?_
    cases hu : zcp D.name with
    | false => simp; exact hD0 (hbad (by simp [zcb, hu])) _
    | true =>
    by_cases hmem : D.name ∈ za5 (data.take i)
    ·simp [hlt, e1, hD, Dat.cs, zd3, hmem]
     refine hD1 ?_ _
     rw [hsplit]; simp only [za5, List.map_append, List.map_cons]
     exact zqY hmem
    by_cases hv0 : D.vars < 0
    ·simp [hlt, e1, hD, Dat.cs, zd3, hmem, hv0]
     exact hD0 (hbad (by simp [zcb, show ¬ 0 ≤ D.vars by omega])) _
    by_cases hv6 : 6 < D.vars
    ·simp [hlt, e1, hD, Dat.cs, zd3, hmem, hv0, hv6]
     exact hD0 (hbad (by simp [zcb, show ¬ D.vars ≤ 6 by omega])) _
    simp [hlt, e1, hD, Dat.cs, zd3, hmem, hv0, hv6, zlG _ _ hmem]
    by_cases hc1 : D.cons.length < 1
    ·have hc1' : (D.cons.length : Int) < 1 := by omega
     simp [hc1']
     exact hD0 (hbad (by simp [zcb, show ¬ 1 ≤ D.cons.length by omega])) _
    have hc1' : ¬ (D.cons.length : Int) < 1 := by omega
    by_cases hc8 : 8 < D.cons.length
    ·have hc8' : (8 : Int) < D.cons.length := by omega
     simp [hlt, e1, hD, Dat.cs, hc1', hc8', hc8]
     exact hD0 (hbad (by simp [zcb, show ¬ D.cons.length ≤ 8 by omega])) _
    have hc8' : ¬ (8 : Int) < D.cons.length := by omega
    have hdat : zcb data i D = D.cons.all (zcD data i D.vars) := by
     simp [zcb, hu, show 0 ≤ D.vars by omega, show D.vars ≤ 6 by omega, show 1 ≤ D.cons.length by omega, show D.cons.length ≤ 8 by omega]
    simp [hlt, e1, hD, Dat.cs, hc1', hc8', hc8]
    have hdn' : (za5 (data.take (i + 1))).Nodup := by
     rw [htk]; simp only [za5, List.map_append, List.map_cons, List.map_nil]; exact zqt hdn hmem
    have hde : za5 (data.take i) ++ [D.name] = za5 (data.take (i + 1)) := by rw [htk]; simp [za5]
    rw [hde]
    refine zBz (Inv := fun q t78 H' => ∃ j : Nat, j ≤ D.cons.length ∧ q = D.cons.length - j ∧ t78 = .int .i64 j ∧ (D.cons.drop j).all (zcD data i D.vars) = D.cons.all (zcD data i D.vars) ∧ (zaF (data.take i) ++ (D.cons.take j).map Con.name).Nodup ∧ H' = H ++ [.map (zby (za5 (data.take (i + 1)))), .map (zby (zaF (data.take i) ++ (D.cons.take j).map Con.name))]) D.cons.length ?_ ?_
    ·intro _; exact ⟨0, by omega, by omega, rfl, by simp, by simpa using hcn, by simp⟩
    ·rintro q t78 H' ⟨j, hj, rfl, rfl, hoc, hcj, rfl⟩ hsc1 hlen1 hsF1 Kb1 hKb1
     have hscH : ∀ A B, HSc (H ++ [.map (zby A), .map (zby B)]) := fun A B => hs.append (by simp [zx8])
     by_cases hjl : j < D.cons.length
     ·have e2 : (D.cons.map Con.cs)[j]? = some (D.cons[j]).cs := by simp [hjl]
      have hargs' := hargs j hjl
      rw [List.drop_eq_getElem_cons hjl, List.all_cons] at hoc
      have htj : zaF (data.take i) ++ (D.cons.take (j + 1)).map Con.name = (zaF (data.take i) ++ (D.cons.take j).map Con.name) ++ [(D.cons[j]).name] := by
       rw [← List.take_append_getElem hjl, List.map_append, List.append_assoc]; rfl
      have hcs : zaF data = (zaF (data.take i) ++ (D.cons.take j).map Con.name) ++ (D.cons[j]).name :: ((D.cons.drop (j + 1)).map Con.name ++ zaF (data.drop (i + 1))) := by
       have h1 : D.cons.map Con.name = (D.cons.take j).map Con.name ++ (D.cons[j]).name :: (D.cons.drop (j + 1)).map Con.name := by
        rw [← List.map_cons (f := Con.name), List.getElem_cons_drop, ← List.map_append, List.take_append_drop]
       conv => lhs; rw [hsplit]
       simp only [zaF, List.flatMap_append, List.flatMap_cons, List.append_assoc, h1, List.cons_append]
      generalize hC : D.cons[j] = C at *
      have hbad' : zcD data i D.vars C = false → zci data data 0 = false := fun h => hbad (by rw [hdat, ← hoc, h, Bool.false_and])
      generalize hA : zaF (data.take i) ++ (D.cons.take j).map Con.name = A at *
      simp only [zmz]
      simp [hjl, hC, Con.cs, Nat.add_assoc]
      refine ztS _ _ _ ?_
      cases hu2 : zcp C.name with
      | false => simp; exact hD0 (hbad' (by simp [zcD, hu2])) _
      | true =>
      by_cases hm2 : C.name ∈ A
      ·simp [zd3, hm2]
       exact hD2 (by rw [hcs]; exact zqY hm2) _
      ·simp [zd3, hm2]
       refine hargs' _ _ ?_
       have hce : zcD data i D.vars C = (decide (C.args.length ≤ 6) && C.args.all (zcV data i D.vars)) := by simp [zcD, hu2]
       rw [← hce]
       cases hco : zcD data i D.vars C with
       | false => simp; exact hD0 (hbad' hco) _
       | true =>
        rw [hco, Bool.true_and] at hoc
        simp [zlG _ _ hm2]
        rw [zaq (by omega) (by omega)]
        refine hKb1 _ _ ⟨D.cons.length - (j + 1), by omega, Back.at (J := [.cells [.str C.name, .sl (VT.css C.args) .none]]) (H2 := H ++ [.map (zby (za5 (data.take (i + 1)))), .map (zby (A ++ [C.name]))]) (by simp) (by simp) (hscH _ _) ?_ ⟨_, rfl, j + 1, by omega, rfl, by simp, hoc, ?_, ?_⟩⟩
        ·simp [zib, AV.sc, AV.scV, AV.scA, AV.scB]
        ·rw [htj]; exact zqt hcj hm2
        ·rw [htj]
     ·obtain rfl : j = D.cons.length := by omega
      rw [List.drop_length, List.all_nil] at hoc
      rw [List.take_length] at *
      simp [zmz]
      rw [zaq (by omega) (by omega)]
      have hce : zaF (data.take i) ++ D.cons.map Con.name = zaF (data.take (i + 1)) := by rw [htk]; simp [zaF]
      rw [hce] at hcj ⊢
      refine hKb _ _ ⟨data.length - (i + 1), by omega, Back.at (J := []) (by simp) (by simp) (hscH _ _) ?_ ⟨_, rfl, i + 1, by omega, rfl, by simp, ?_, hdn', hcj, rfl⟩⟩
      ·simp [zic, AV.sc, AV.scV, AV.scA, AV.scB]
      ·rw [← ho, hdat, ← hoc, Bool.true_and]
   ·obtain rfl : i = data.length := by omega
    rw [List.drop_length, zci] at ho
    rw [List.take_length] at *
    simp [zmA]
    have := hO [.map (zby (za5 data)), .map (zby (zaF data))]
    rwa [show za4 data = true by simp [za4, h12, ← ho, zlC hdn, zlC hcn]] at this
 ·have h12' : (12 : Int) < data.length := by omega
  have h12'' : 12 < data.length := by omega
  rw [show za4 data = false by simp [za4, h12]] at hO
  simp [zmy, h12', h12'']
  simpa using hO []
def zoU (c : Con) : Prop := c.name.length ≤ 40 ∧ c.args.length ≤ 8 ∧ ∀ t ∈ c.args, t.nodes ≤ 20
def zj4 (d : Dat) : Prop := d.name.length ≤ 40 ∧ d.cons.length ≤ 10 ∧ ∀ c ∈ d.cons, zoU c
def zbp (ds : List Dat) : Prop := ds.length ≤ 14 ∧ ∀ d ∈ ds, zj4 d
theorem zfq {α : Type} {l : List α} {i : Nat} (h : i < l.length) {p : α → Prop} (h1 : ∀ x ∈ l.take i, p x) (h2 : p l[i]) : ∀ x ∈ l.take (i + 1), p x := by
 rw [List.take_succ_eq_append_getElem h]
 intro x hx
 rcases List.mem_append.1 hx with hx | hx
 ·exact h1 x hx
 ·simp at hx; subst hx; exact h2
theorem zqe {α : Type} {cs : α → List AV} {l : List α} {i : Nat} (h : i < l.length) : (l.map cs)[i]?.getD [] = cs l[i] := by simp [h]
theorem vt3 (v : VT) : ∃ a b c, v.cs = [a, b, c] ∧ a.known = true ∧ b.known = true ∧ c.known = true := by
 obtain ⟨k, n, ks⟩ := v; exact ⟨_, _, _, rfl, rfl, rfl, rfl⟩
theorem zFD (ds : List Dat) (H : zaa) (K : AV → zaa → Prop) (hlen : ds.length ≤ 9223372036854775807) (hK : ∀ b, (b = true → zbp ds) → K (.bool b) H) : ACalls tP zli [.sl (ds.map Dat.cs) .none] H K := by
 refine ACalls.out (zFB fun hs => ?_)
 have hF : ∀ J, Out H.length K (.bool false) (H ++ J) := fun J => Out.bool rfl (Nat.le_refl _) hs (hK false fun h => by cases h)
 have hF0 : Out H.length K (.bool false) H := by simpa using hF []
 by_cases h14 : ds.length > 14
 ·have : (14 : Int) < ds.length := by omega
  simp [zny, this]
  exact hF0
 have : ¬ (14 : Int) < ds.length := by omega
 simp [zny, this]
 refine zFy (Inv := fun q t15 H' => ∃ i : Nat, i ≤ ds.length ∧ q = ds.length - i ∧ t15 = .int .i64 i ∧ (∀ d ∈ ds.take i, zj4 d) ∧ H = H') ds.length ?_ ?_
 ·intro _; exact ⟨0, by omega, by omega, rfl, by simp, rfl⟩
 ·rintro q t15 H' ⟨i, hi, rfl, rfl, ha, rfl⟩ hsc hl hsF Kb4 hKb4
  by_cases hil : i < ds.length
  ·have hat : (ds.map Dat.cs)[i]?.getD [] = [.str ds[i].name, .int .i64 ds[i].vars, .sl (ds[i].cons.map Con.cs) .none] := zqe hil
   have next : zj4 ds[i] → ∀ J, Kb4 (zfZ (.sl (ds.map Dat.cs) .none) (.int .i64 ds.length) (.int .i64 (i + 1))) (H ++ J) := by
    intro hd J
    refine hKb4 _ _ ⟨ds.length - (i + 1), by omega, Back.same (Nat.le_refl _) hs ?_ ⟨_, rfl, i + 1, by omega, rfl, by simp, zfq hil ha hd, rfl⟩⟩
    simp [zfZ, AV.sc, AV.scV, AV.scA, AV.scB]
   generalize hdd : ds[i] = d at *
   simp [znA, hil, hat, AV.known, hdd, Dat.cs]
   by_cases hn : d.name.length > 40
   ·have : (40 : Int) < d.name.length := by omega
    simp [this]
    exact hF _
   have hn' : ¬ (40 : Int) < d.name.length := by omega
   by_cases hc : d.cons.length > 10
   ·have : (10 : Int) < d.cons.length := by omega
    simp [hn', this]
    exact hF _
   have hc' : ¬ (10 : Int) < d.cons.length := by omega
   simp [hn', hc']
   refine zFz (Inv := fun q t32 H' => ∃ j : Nat, j ≤ d.cons.length ∧ q = d.cons.length - j ∧ t32 = .int .i64 j ∧ (∀ c ∈ d.cons.take j, zoU c) ∧ H' = H ++ [.cells [.str d.name, .int .i64 d.vars, .sl (d.cons.map Con.cs) .none]]) d.cons.length ?_ ?_
   ·intro _; exact ⟨0, by omega, by omega, rfl, by simp, rfl⟩
   ·rintro q t32 H' ⟨j, hj, rfl, rfl, hb, rfl⟩ hsc9 hl9 hsF9 Kb9 hKb9
    by_cases hjl : j < d.cons.length
    ·have hat : (d.cons.map Con.cs)[j]?.getD [] = [.str d.cons[j].name, .sl (VT.css d.cons[j].args) .none] := zqe hjl
     generalize hcc : d.cons[j] = c at *
     simp [znB, hjl, hat, AV.known, hcc, Con.cs]
     by_cases hn : c.name.length > 40
     ·have : (40 : Int) < c.name.length := by omega
      simp [this]
      exact hF _
     have hn' : ¬ (40 : Int) < c.name.length := by omega
     by_cases hc : c.args.length > 8
     ·have : (8 : Int) < c.args.length := by omega
      simp [hn', this]
      exact hF _
     have hc' : ¬ (8 : Int) < c.args.length := by omega
     simp [hn', hc']
     refine zFx (Inv := fun q t49 H' => ∃ (k : Nat) (l : Int), k ≤ c.args.length ∧ q = c.args.length - k ∧ t49 = .int .i64 k ∧ -1 ≤ l ∧ l ≤ 20 ∧ (∀ t ∈ c.args.take k, t.nodes ≤ 20) ∧ H' = H ++ [.cells [.str d.name, .int .i64 d.vars, .sl (d.cons.map Con.cs) .none], .cells [.str c.name, .sl (VT.css c.args) .none], .cells [.int .i64 l]]) c.args.length ?_ ?_
     ·intro _; exact ⟨0, 20, by omega, by omega, rfl, by omega, by omega, by simp, rfl⟩
     ·rintro q t49 H' ⟨k, l, hk, rfl, rfl, hl0, hl1, hb15, rfl⟩ hsc15 hl15 hsF15 Kb15 hKb15
      by_cases hkl : k < c.args.length
      ·obtain ⟨x, y, z, hv, hx, hy, hz⟩ := vt3 c.args[k]
       simp [znz, hkl, hv, hx, hy, hz]
       rw [← hv]
       refine zu9 _ _ (Nat.le_refl _) l (by omega) hl0 _ (H.length + 2) (by simp) _ ?_ ?_
       ·intro hle
        simp
        rw [zaq (by omega) (by omega)]
        refine hKb15 _ _ ⟨c.args.length - (k + 1), by omega, Back.at (J := [_]) (H2 := H ++ [.cells [.str d.name, .int .i64 d.vars, .sl (d.cons.map Con.cs) .none], .cells [.str c.name, .sl (VT.css c.args) .none], .cells [.int .i64 (l - c.args[k].nodes)]]) (by simp; rfl) (by simp) (hs.append rfl) ?_ ⟨_, rfl, k + 1, l - c.args[k].nodes, by omega, rfl, by simp, by omega, by omega, zfq hkl hb15 (by omega), rfl⟩⟩
        simp [ziY, AV.sc, AV.scV, AV.scA, AV.scB]
       ·intro hle l'
        simp
        exact hF _
      ·obtain rfl : k = c.args.length := by omega
       rw [List.take_length] at hb15
       simp [znz]
       rw [zaq (by omega) (by omega)]
       refine hKb9 _ _ ⟨d.cons.length - (j + 1), by omega, Back.at (J := [_, _]) (H2 := H ++ [.cells [.str d.name, .int .i64 d.vars, .sl (d.cons.map Con.cs) .none]]) (by simp; exact ⟨rfl, rfl⟩) (by simp) (hs.append rfl) ?_ ⟨_, rfl, j + 1, by omega, rfl, by simp, zfq hjl hb (by rw [hcc]; exact ⟨by omega, by omega, hb15⟩), rfl⟩⟩
       simp [ziZ, AV.sc, AV.scV, AV.scA, AV.scB]
    ·obtain rfl : j = d.cons.length := by omega
     rw [List.take_length] at hb
     simp [znB]
     rw [zaq (by omega) (by omega)]
     exact next ⟨by omega, by omega, hb⟩ _
  ·obtain rfl : i = ds.length := by omega
   rw [List.take_length] at ha
   simp [znA]
   exact Out.bool (J := []) (by simp) (Nat.le_refl _) hs (hK true fun _ => ⟨by omega, ha⟩)
def zda (data : List Dat) (d : Nat) (vars : Int) (t : VT) : Bool := zbk d vars t || zaH (data.take d) vars t
structure RCon (data : List Dat) (d : Nat) (vars : Int) (c : Con) : Prop where
 up : zcp c.name = true
 len : c.args.length ≤ 6
 args : ∀ x ∈ c.args, zda data d vars x = true
structure RDat (data : List Dat) (d : Nat) (D : Dat) : Prop where
 v0 : 0 ≤ D.vars
 v6 : D.vars ≤ 6
 c1 : 1 ≤ D.cons.length
 c8 : D.cons.length ≤ 8
 up : zcp D.name = true
 cons : ∀ c ∈ D.cons, RCon data d D.vars c
structure RData (data : List Dat) : Prop where
 len : data.length ≤ 12
 dats : ∀ d (h : d < data.length), RDat data d data[d]
 names : (za5 data).Nodup
 cons : (zaF data).Nodup
theorem zlO {α : Type} {l : List α} {i : Nat} (h : i < l.length) : l.take (i + 1) = l.take i ++ [l[i]] := by rw [List.take_append_getElem h]
theorem zpt : ∀ l : List Dat, (∀ D ∈ l, D.cons.length ≤ 10) → (zaF l).length ≤ l.length * 10
 | [], _ => by simp [zaF]
 | D :: l, h => by
  have h1 := zpt l (fun D hD => h D (by simp [hD]))
  have h2 := h D (by simp)
  rw [zaF] at h1 ⊢
  rw [List.flatMap_cons, List.length_append, List.length_map, List.length_cons]; omega
theorem zwO {data : List Dat} {d : Nat} (h : d < data.length) : za5 (data.take (d + 1)) = za5 (data.take d) ++ [(data[d]).name] := by
 rw [za5, zlO h, List.map_append]; rfl
theorem zwA {data : List Dat} {d : Nat} (h : d < data.length) : zaF (data.take (d + 1)) = zaF (data.take d) ++ (data[d]).cons.map Con.name := by
 rw [zaF, zlO h, List.flatMap_append]; simp [zaF]
theorem zrr (l : List (List UInt8)) (s : List UInt8) : strs (l ++ [s]) = strs l ++ [[.str s]] := by simp [strs]
theorem zpm {s : List UInt8} {k : AV → Prop} : zaB 1 [.str []] 1 [(0, .str s)] k = k (.sl [[.str s]] .full) := propext Iff.rfl
theorem zqZ (l : List (List UInt8)) (hl : l.length ≤ 1000000) {tok : Tok} (H : zaa) (K : AV → zaa → Prop) (hK : K (.bool (zbX l)) H) : ACalls tP zfG [.sl (strs l) tok] H K :=
 ACalls.wk (zI1 l hl H K hK) ⟨.atom (.sl _ _), trivial⟩
theorem zwE {D : Dat} {i : Nat} (h : i < D.cons.length) : (D.cons.map Con.cs)[i]?.getD [] = [.str (D.cons[i]).name, .sl (VT.css (D.cons[i]).args) .none] := by simp [h, Con.cs]
theorem zuK (data : List Dat) (hkd : zbp data) (H : zaa) (K : AV → zaa → Prop) (hK : ∀ b, (b = true ↔ RData data) → K (.bool b) H) : ACalls tP zgV [.sl (data.map Dat.cs) .none] H K := by
 refine ACalls.out (zGk fun hs => ?_)
 obtain ⟨kl, kd⟩ := hkd
 have hF : ¬ RData data → ∀ J, Out H.length K (.bool false) (H ++ J) := fun h J => Out.bool rfl (Nat.le_refl _) hs (hK _ (by simp [h]))
 have hT : ∀ b : Bool, (b = true ↔ RData data) → ∀ J, Out H.length K (.bool b) (H ++ J) := fun b h J => Out.bool rfl (Nat.le_refl _) hs (hK _ h)
 by_cases h12 : data.length > 12
 ·have h12' : (12 : Int) < data.length := by omega
  simp [znL, h12']
  have := hF (fun h => by have := h.len; omega) []
  simpa using this
 have h12' : ¬ (12 : Int) < data.length := by omega
 simp [znL, h12']
 unfold zi9
 refine ALoop.own 3 zbA 1 rfl ?_
 refine ALoop.own 4 zbA 1 rfl ?_
 rw [List.append_assoc]
 have hcn : ∀ d, (zaF (data.take d)).length ≤ 140 := fun d => by
  have := zpt (data.take d) (fun D hD => (kd D (List.mem_of_mem_take hD)).2.1)
  rw [List.length_take] at this
  have : min d data.length * 10 ≤ 14 * 10 := Nat.mul_le_mul_right _ (by omega)
  omega
 have hl1 : (H ++ [AB.perm zbA 1 0]).length = H.length + 1 := by simp
 rw [hl1]
 show zi9 (.sl (data.map Dat.cs) .none) (.sl [] (.own H.length)) (.sl [] (.own (H.length + 1))) (.int .i64 0) (H ++ [.perm zbA 1 0, .perm zbA 1 0]) (Out H.length K)
 have hsP : ∀ m n, HSc (H ++ [.perm zbA 1 m, .perm zbA 1 n]) := fun m n => hs.append rfl
 refine zGi (Inv := fun q t3 t4 t5 H' => ∃ d : Nat, d ≤ data.length ∧ q = data.length - d ∧ t5 = .int .i64 d ∧ t3 = .sl (strs (za5 (data.take d))) (.own H.length) ∧ t4 = .sl (strs (zaF (data.take d))) (.own (H.length + 1)) ∧ (∀ j (h : j < data.length), j < d → RDat data j data[j]) ∧ H' = H ++ [.perm zbA 1 d, .perm zbA 1 (zaF (data.take d)).length]) data.length ?_ ?_
 ·intro _; exact ⟨0, by omega, by omega, rfl, by simp [za5, strs], by simp [zaF, strs], by omega, by simp [zaF]⟩
 ·rintro q t3 t4 t5 H' ⟨d, hd, rfl, rfl, rfl, rfl, hok, rfl⟩ hsc hlen hsF Kb hKb
  by_cases hlt : d < data.length
  ·have hbad : ¬ RDat data d data[d] → ∀ J, Out H.length K (.bool false) (H ++ J) := fun h => hF fun hh => h (hh.dats d hlt)
   have hcd := hcn d
   have hds := zwO hlt
   have hcs := zwA hlt
   obtain ⟨kn, kc, kcc⟩ := kd _ (List.getElem_mem hlt)
   have hdl : (za5 (data.take d)).length = d := by simp [za5]; omega
   generalize hD : data[d] = D at *
   have hge : (data.map Dat.cs)[d]?.getD [] = [.str D.name, .int .i64 D.vars, .sl (D.cons.map Con.cs) .none] := by simp [hlt, hD, Dat.cs]
   by_cases hv0 : D.vars < 0
   ·simp [zef, hlt, hD, Dat.cs, hv0]
    exact hbad (fun h => by have := h.v0; omega) _
   by_cases hv6 : 6 < D.vars
   ·simp [zef, hlt, hD, Dat.cs, hv0, hv6]
    exact hbad (fun h => by have := h.v6; omega) _
   by_cases hc1 : D.cons.length < 1
   ·have hc1' : (D.cons.length : Int) < 1 := by omega
    simp [zef, hlt, hD, Dat.cs, hv0, hv6, hc1']
    exact hbad (fun h => by have := h.c1; omega) _
   have hc1' : ¬ (D.cons.length : Int) < 1 := by omega
   by_cases hc8 : 8 < D.cons.length
   ·have hc8' : (8 : Int) < D.cons.length := by omega
    simp [zef, hlt, hD, Dat.cs, hv0, hv6, hc1', hc8']
    exact hbad (fun h => by have := h.c8; omega) _
   have hc8' : ¬ (8 : Int) < D.cons.length := by omega
   simp [zef, hlt, hD, Dat.cs, hv0, hv6, hc1', hc8']
   refine zvt _ _ _ ?_
   cases hup : zcp D.name with
   | false => simp; exact hbad (fun h => by have := h.up; rw [hup] at this; cases this) _
   | true =>
   simp [zpm]
   simp [zaA, zaV, zaN, hdl]
   refine ⟨by omega, ?_⟩
   rw [← zrr, ← hds]
   refine zGg (Inv := fun q t4 t7 H' => ∃ k : Nat, k ≤ D.cons.length ∧ q = D.cons.length - k ∧ t7 = .int .i64 k ∧ t4 = .sl (strs (zaF (data.take d) ++ (D.cons.map Con.name).take k)) (.own (H.length + 1)) ∧ (∀ c ∈ D.cons.take k, RCon data d D.vars c) ∧ H' = H ++ [.perm zbA 1 (d + 1), .perm zbA 1 ((zaF (data.take d)).length + k), .cells [.str D.name, .int .i64 D.vars, .sl (D.cons.map Con.cs) .none]]) D.cons.length ?_ ?_
   ·intro _; exact ⟨0, by omega, by omega, rfl, by simp, by simp, by simp⟩
   ·rintro q t4 t7 H' ⟨k, hk, rfl, rfl, rfl, hck, rfl⟩ hsc1 hlen1 hsF1 Kb1 hKb1
    have hlk : (zaF (data.take d) ++ (D.cons.map Con.name).take k).length = (zaF (data.take d)).length + k := by simp; omega
    by_cases hkl : k < D.cons.length
    ·have hkI : (k : Int) < D.cons.length := by omega
     have hca := zwE hkl
     have hcbad : ¬ RCon data d D.vars D.cons[k] → ∀ J, Out H.length K (.bool false) (H ++ J) := fun h => hbad fun hh => h (hh.cons _ (List.getElem_mem hkl))
     have hns : zaF (data.take d) ++ (D.cons.map Con.name).take (k + 1) = (zaF (data.take d) ++ (D.cons.map Con.name).take k) ++ [(D.cons[k]).name] := by rw [zlO (by simpa using hkl)]; simp
     obtain ⟨_, ka, kan⟩ := kcc _ (List.getElem_mem hkl)
     generalize hC : D.cons[k] = C at *
     simp [znM, hkl, hC, Con.cs]
     refine zvt _ _ _ ?_
     cases hupc : zcp C.name with
     | false => simp; exact hcbad (fun h => by have := h.up; rw [hupc] at this; cases this) _
     | true =>
     by_cases ha6 : 6 < C.args.length
     ·have ha6' : (6 : Int) < C.args.length := by omega
      simp [hkl, hC, Con.cs, ha6']
      exact hcbad (fun h => by have := h.len; omega) _
     have ha6' : ¬ (6 : Int) < C.args.length := by omega
     simp [hkl, hC, Con.cs, ha6', zpm]
     generalize hA : zaF (data.take d) ++ (D.cons.map Con.name).take k = A at *
     have hAl : A.length = (zaF (data.take d)).length + k := hlk
     simp [zaA, zaV, zaN, hAl, hkl, hC, Con.cs]
     refine ⟨by omega, ?_⟩
     rw [← zrr, ← hns]
     refine zGh (Inv := fun q t95 H' => ∃ i : Nat, i ≤ C.args.length ∧ q = C.args.length - i ∧ t95 = .int .i64 i ∧ (∀ x ∈ C.args.take i, zda data d D.vars x = true) ∧ H' = H ++ [.perm zbA 1 (d + 1), .perm zbA 1 ((zaF (data.take d)).length + k + 1), .cells [.str D.name, .int .i64 D.vars, .sl (D.cons.map Con.cs) .none]]) C.args.length ?_ ?_
     ·intro _; exact ⟨0, by omega, by omega, rfl, by simp, rfl⟩
     ·rintro q t95 H' ⟨i, hi, rfl, rfl, hok3, rfl⟩ hsc2 hlen2 hsF2 Kb2 hKb2
      by_cases hil : i < C.args.length
      ·have hxn := kan _ (List.getElem_mem hil)
       have habad : zda data d D.vars C.args[i] = false → ∀ J, Out H.length K (.bool false) (H ++ J) := fun h => hcbad fun hh => by
        have := hh.args _ (List.getElem_mem hil)
        rw [h] at this; cases this
       obtain ⟨x, y, z, hvx, hx, hy, hz⟩ := vt3 C.args[i]
       have good : zda data d D.vars C.args[i] = true → zi8 (.sl (data.map Dat.cs) .none) (.sl (strs (za5 (data.take (d + 1)))) (.own H.length)) (.sl (strs (zaF (data.take d) ++ (D.cons.map Con.name).take (k + 1))) (.own (H.length + 1))) (.int .i64 d) (.ptr (H.length + 2) 0) (.int .i64 k) (.sl (VT.css C.args) .none) (.int .i64 C.args.length) (.int .i64 i) (H ++ [.perm zbA 1 (d + 1), .perm zbA 1 ((zaF (data.take d)).length + k + 1), .cells [.str D.name, .int .i64 D.vars, .sl (D.cons.map Con.cs) .none], .cells [x, y, z]]) (Out H.length K) Kb Kb1 Kb2 := fun hg => by
        simp [zi8, zuF]
        rw [zaq (by omega) (by omega)]
        refine hKb2 _ _ ⟨C.args.length - (i + 1), by omega, Back.at (J := [_]) (H2 := H ++ [.perm zbA 1 (d + 1), .perm zbA 1 ((zaF (data.take d)).length + k + 1), .cells [.str D.name, .int .i64 D.vars, .sl (D.cons.map Con.cs) .none]]) (by simp; rfl) (by simp) hsc2 ?_ ⟨_, rfl, i + 1, by omega, rfl, by simp, zfq hil hok3 hg, rfl⟩⟩
        simp [zi6, AV.sc, AV.scV, AV.scA, AV.scB]
       simp [znN, hil, hvx, hx, hy, hz]
       rw [← hvx]
       refine zoT _ _ _ (by omega) _ _ ?_
       cases hself : zbk d D.vars C.args[i] with
       | true =>
        rw [hvx]
        simp
        exact good (by simp [zda, hself])
       | false =>
        simp [hvx]
        refine ⟨⟨by omega, fun a _ => rfl⟩, ?_⟩
        rw [← List.map_take, ← hvx]
        refine zbq (.bool (zaH (data.take d) D.vars C.args[i])) (fun J => znR (data.take d) (by simp; omega) _ _ (by omega) _ _ ⟨rfl, rfl⟩) ?_
        cases hty : zaH (data.take d) D.vars C.args[i] with
        | false => simp; exact habad (by simp [zda, hself, hty]) _
        | true =>
         rw [hvx]
         simp
         exact good (by simp [zda, hty])
      ·obtain rfl : i = C.args.length := by omega
       rw [List.take_length] at *
       simp [znN]
       rw [zaq (by omega) (by omega)]
       refine hKb1 _ _ ⟨D.cons.length - (k + 1), by omega, Back.here (by simp) hsc2 ?_ ⟨_, _, rfl, k + 1, by omega, rfl, by simp, rfl, ?_, by simp [Nat.add_assoc]⟩⟩
       ·simp [zi5, AV.sc, AV.scV, AV.scA, AV.scB]
       ·exact zfq hkl hck (by rw [hC]; exact ⟨hupc, by omega, hok3⟩)
    ·obtain rfl : k = D.cons.length := by omega
     rw [List.take_length] at *
     simp [znM]
     rw [zaq (by omega) (by omega)]
     refine hKb _ _ ⟨data.length - (d + 1), by omega, Back.at (J := [_]) (H2 := H ++ [.perm zbA 1 (d + 1), .perm zbA 1 (zaF (data.take (d + 1))).length]) (by rw [hcs]; simp; rfl) (by simp) (hsP _ _) ?_ ⟨_, _, _, rfl, d + 1, by omega, rfl, by simp, rfl, by rw [hcs]; exact congrArg (fun l => AV.sl (strs (zaF (data.take d) ++ l)) (.own (H.length + 1))) (List.take_of_length_le (Nat.le_of_eq (List.length_map _))), fun j hj hji => ?_, rfl⟩⟩
     ·simp [zi7, AV.sc, AV.scV, AV.scA, AV.scB]
     ·by_cases hjd : j = d
      ·subst hjd; rw [hD]; exact ⟨by omega, by omega, by omega, by omega, hup, hck⟩
      ·exact hok j hj (by omega)
  ·obtain rfl : d = data.length := by omega
   rw [List.take_length] at *
   have hdn : (za5 data).length = data.length := by simp [za5]
   have hcn' := hcn data.length
   rw [List.take_length] at hcn'
   simp [zef]
   refine zqZ _ (by omega) _ _ ?_
   cases hr : zbX (za5 data) with
   | true =>
    simp
    refine hT _ ?_ _
    simp
    intro h
    have := zlC h.names
    rw [hr] at this; cases this
   | false =>
    simp
    refine zqZ _ (by omega) _ _ ?_
    refine hT _ ?_ _
    simp only [zbX, Bool.not_eq_false', decide_eq_true_eq, Bool.not_not] at hr ⊢
    exact ⟨fun h => ⟨by omega, fun j hj => hok j hj hj, hr, h⟩, fun h => h.cons⟩
mutual
theorem zx4 : ∀ v w : VT, v.same w = true ↔ v = w
 | .mk k n ks, .mk k' n' ks' => by
  have h := zq4 ks ks'
  simp only [VT.same, Bool.and_eq_true, beq_iff_eq, VT.mk.injEq, h, and_assoc]
theorem zq4 : ∀ v w : List VT, VT.sameL v w = true ↔ v = w
 | v :: vs, w :: ws => by
  have h1 := zx4 v w
  have h2 := zq4 vs ws
  simp only [VT.sameL, Bool.and_eq_true, List.cons.injEq, h1, h2]
 | [], [] => by simp [VT.sameL]
 | [], _ :: _ => by simp [VT.sameL]
 | _ :: _, [] => by simp [VT.sameL]
end
theorem zhk {α : Type} (l : List α) (d n : Nat) : (l.take d)[n]? = if n < d then l[n]? else none := by
 by_cases h : n < d
 ·rw [if_pos h, List.getElem?_take_of_lt h]
 ·rw [if_neg h, List.getElem?_eq_none (by rw [List.length_take]; omega)]
theorem zyc {data : List Dat} {d : Nat} {vars k n : Int} {len : Nat} (h : (k == 5 && n == (d : Int)) = false) : zaR (data.take (d + 1)) vars k n len = zaR (data.take d) vars k n len := by
 unfold zaR
 by_cases h5 : k = 5
 ·subst h5
  have hn : n ≠ d := by simpa using h
  simp only [zhk]
  by_cases h0 : 0 ≤ n
  ·have : (n.toNat < d + 1) = (n.toNat < d) := by
    apply propext; omega
   simp [this]
  ·simp [h0]
 ·have : (k == 5) = false := by simpa using h5
  simp [this]
mutual
theorem zrM (data : List Dat) (d : Nat) (vars : Int) : ∀ t : VT, zb2 d t = false → zaJ (data.take (d + 1)) vars t = zaJ (data.take d) vars t
 | .mk k n ks => by
  intro h
  simp only [zb2, Bool.or_eq_false_iff] at h
  rw [zaJ, zaJ, zyc h.1, zrJ data d vars ks h.2]
theorem zrJ (data : List Dat) (d : Nat) (vars : Int) : ∀ l : List VT, zdw d l = false → zaS (data.take (d + 1)) vars l = zaS (data.take d) vars l
 | [] => fun _ => rfl
 | t :: ts => by
  intro h
  simp only [zdw, Bool.or_eq_false_iff] at h
  rw [zaS, zaS, zrM data d vars t h.1, zrJ data d vars ts h.2]
end
mutual
theorem zqj (data : List Dat) (d : Nat) (vars : Int) : ∀ t : VT, zaJ (data.take d) vars t = true → zb2 d t = false
 | .mk k n ks => by
  intro h
  rw [zaJ, Bool.and_eq_true] at h
  rw [zb2, zqi data d vars ks h.2, Bool.or_false]
  by_cases h5 : k = 5
  ·subst h5
   have h1 := h.1
   simp [zaR, zhk] at h1
   obtain ⟨h0, h2⟩ := h1
   by_cases hn : n = d
   ·subst hn
    simp at h2
   ·simpa using hn
  ·have : (k == 5) = false := by simpa using h5
   simp [this]
theorem zqi (data : List Dat) (d : Nat) (vars : Int) : ∀ l : List VT, zaS (data.take d) vars l = true → zdw d l = false
 | [] => fun _ => rfl
 | t :: ts => by
  intro h
  rw [zaS, Bool.and_eq_true] at h
  rw [zdw, zqj data d vars t h.1, zqi data d vars ts h.2]; rfl
end
theorem zq9 (data : List Dat) (vars : Int) : ∀ (l : List VT) (i : Nat), zcd l i = true → ((i + l.length : Nat) : Int) ≤ vars → zaS data vars l = true ∧ VT.nodesL l = l.length
 | [], i, _, _ => ⟨rfl, rfl⟩
 | .mk k n ks :: l, i, h, hv => by
  rw [zcd, Bool.and_eq_true] at h
  obtain ⟨h1, h2⟩ := h
  simp only [zfl, Bool.and_eq_true, beq_iff_eq] at h1
  obtain ⟨⟨rfl, rfl⟩, h3⟩ := h1
  have hk : ks = [] := List.eq_nil_of_length_eq_zero h3
  subst hk
  obtain ⟨h4, h5⟩ := zq9 data vars l (i + 1) h2 (by simp at hv ⊢; omega)
  simp at hv
  constructor
  ·simp [zaS, zaJ, zaR, h4]
   omega
  ·simp [VT.nodesL, VT.nodes, h5]; omega
theorem zpd (data : List Dat) (d : Nat) (hd : d < data.length) (h0 : 0 ≤ (data[d]).vars) (h6 : (data[d]).vars ≤ 6) (t : VT) : zcV data d (data[d]).vars t = zda data d (data[d]).vars t := by
 unfold zcV zda
 cases hs : zbk d (data[d]).vars t with
 | true =>
  obtain ⟨k, n, ks⟩ := t
  simp only [zbk, Bool.and_eq_true, beq_iff_eq] at hs
  obtain ⟨⟨⟨rfl, rfl⟩, hl⟩, hs⟩ := hs
  obtain ⟨h1, h2⟩ := zq9 (data.take (d + 1)) (data[d]).vars ks 0 hs (by simp; omega)
  have hty : zaH (data.take (d + 1)) (data[d]).vars (.mk 5 d ks) = true := by
   simp [zaH, zaJ, h1, VT.nodes, h2, zaR, zhk, hd, hl]
   omega
  simp [hty]
 | false =>
  simp only [Bool.false_or]
  unfold zaH
  cases hm : zb2 d t with
  | false => rw [zrM data d _ t hm]; simp
  | true =>
   have : zaJ (data.take d) (data[d]).vars t = false := by
    cases h : zaJ (data.take d) (data[d]).vars t with
    | false => rfl
    | true => rw [zqj data d _ t h] at hm; cases hm
   simp [this]
theorem zko (data : List Dat) : ∀ (l : List Dat) (d : Nat), zci data l d = true ↔ ∀ j (h : j < l.length), zcb data (d + j) l[j] = true
 | [], d => by simp [zci]
 | D :: l, d => by
  rw [zci, Bool.and_eq_true, zko data l (d + 1)]
  constructor
  ·rintro ⟨h1, h2⟩ j hj
   cases j with
   | zero => exact h1
   | succ j =>
    have := h2 j (by simpa using hj)
    rw [show d + (j + 1) = d + 1 + j by omega]
    simpa using this
  ·intro h
   refine ⟨h 0 (by simp), fun j hj => ?_⟩
   have := h (j + 1) (by simpa using hj)
   rw [show d + (j + 1) = d + 1 + j by omega] at this
   simpa using this
theorem zpD (data : List Dat) : za4 data = true ↔ RData data := by
 unfold za4
 simp only [Bool.and_eq_true, decide_eq_true_eq, zko, zbX, Bool.not_not, Nat.zero_add]
 constructor
 ·rintro ⟨⟨⟨h1, h2⟩, h3⟩, h4⟩
  refine ⟨h1, fun d hd => ?_, h3, h4⟩
  have := h2 d hd
  simp only [zcb, Bool.and_eq_true, decide_eq_true_eq, List.all_eq_true] at this
  obtain ⟨⟨⟨⟨⟨q1, q2⟩, q3⟩, q4⟩, q5⟩, q6⟩ := this
  refine ⟨q2, q3, q4, q5, q1, fun c hc => ?_⟩
  have := q6 c hc
  simp only [zcD, Bool.and_eq_true, decide_eq_true_eq, List.all_eq_true] at this
  exact ⟨this.1, this.2.1, fun x hx => by rw [← zpd data d hd q2 q3 x]; exact this.2.2 x hx⟩
 ·rintro ⟨h1, h2, h3, h4⟩
  refine ⟨⟨⟨h1, fun d hd => ?_⟩, h3⟩, h4⟩
  obtain ⟨q2, q3, q4, q5, q1, q6⟩ := h2 d hd
  simp only [zcb, Bool.and_eq_true, decide_eq_true_eq, List.all_eq_true]
  refine ⟨⟨⟨⟨⟨q1, q2⟩, q3⟩, q4⟩, q5⟩, fun c hc => ?_⟩
  obtain ⟨r1, r2, r3⟩ := q6 c hc
  simp only [zcD, Bool.and_eq_true, decide_eq_true_eq, List.all_eq_true]
  exact ⟨r1, r2, fun x hx => by rw [zpd data d hd q2 q3 x]; exact r3 x hx⟩
mutual
def zat (data : List Dat) : VT → VT → Bool
 | .mk vk vn vks, .mk k n al =>
  if k = 1 then vk == 3 && decide (-1099511627776 ≤ vn) && decide (vn ≤ 1099511627776) && vks.length == 0
  else if k = 2 then vk == 2 && (vn == 0 || vn == 1) && vks.length == 0
  else if k = 3 then vk == 1 && vn == 0 && vks.length == 0
  else if k = 6 then vk == 4 && vn == 0 && zbs data vks al
  else if k = 5 then vk == 5 && decide (0 ≤ vn) && decide (vn < 8) && zdu data vks (za7 data (.mk k n al) vn)
  else if k = 7 then vk == 6 && vn == 0 && decide (vks.length ≤ 4096) && zcc data vks (al.getD 0 (.mk 0 0 []))
  else if k = 8 then vk == 7 && vn == 0 && zbs data vks al
  else vk == 8 && decide (0 ≤ vn) && decide (vn < 64) && vks.length == 0
def zdu (data : List Dat) : List VT → Option (List VT) → Bool
 | _, none => false
 | [], some ts => ts.isEmpty
 | v :: vs, some ts => match ts with
  | [] => false
  | t :: ts => zat data v t && zbs data vs ts
def zbs (data : List Dat) : List VT → List VT → Bool
 | [], ts => ts.isEmpty
 | v :: vs, ts => match ts with
  | [] => false
  | t :: ts => zat data v t && zbs data vs ts
def zcc (data : List Dat) : List VT → VT → Bool
 | [], _ => true
 | v :: vs, t => zat data v t && zcc data vs t
end
theorem zkx (data : List Dat) (vs ts : List VT) : zdu data vs (some ts) = zbs data vs ts := by
 cases vs with
 | nil => cases ts <;> rw [zdu, zbs]
 | cons v vs => cases ts <;> simp only [zdu, zbs]
theorem zkw (data : List Dat) (vs : List VT) : zdu data vs none = false := by cases vs <;> rw [zdu]
theorem zp0 {data : List Dat} : ∀ {vs ts : List VT}, zbs data vs ts = true → vs.length = ts.length
 | [], ts, h => by rw [zbs] at h; cases ts <;> simp at h ⊢
 | v :: vs, [], h => by simp [zbs] at h
 | v :: vs, t :: ts, h => by
  simp only [zbs, Bool.and_eq_true] at h
  simp [zp0 h.2]
theorem zpZ {data : List Dat} : ∀ {vs ts : List VT}, zbs data vs ts = true → ∀ (i : Nat) (h1 : i < vs.length) (h2 : i < ts.length), zat data vs[i] ts[i] = true
 | [], ts, h => by intro i h1; simp at h1
 | v :: vs, [], h => by simp [zbs] at h
 | v :: vs, t :: ts, h => by
  simp only [zbs, Bool.and_eq_true] at h
  intro i h1 h2
  cases i with
  | zero => exact h.1
  | succ i => exact zpZ h.2 i (by simpa using h1) (by simpa using h2)
theorem zyd {data : List Dat} {m : Nat} {vars k n : Int} {len : Nat} (h : zaR (data.take m) vars k n len = true) (h4 : k ≠ 4) : zaR data 0 k n len = true := by
 unfold zaR at h ⊢
 have h4' : (k == 4) = false := by simpa using h4
 rw [h4'] at h ⊢
 by_cases h5 : k = 5
 ·subst h5
  simp only [zhk] at h
  by_cases hm : n.toNat < m
  ·simpa [hm] using h
  ·simp [hm] at h
 ·have : (k == 5) = false := by simpa using h5
  simpa [this] using h
theorem zrt (ks : List VT) : ∀ l : List VT, (zaD ks l).length = l.length
 | [] => rfl
 | t :: ts => by simp [zaD, zrt ks ts]
mutual
theorem zrN {data : List Dat} {m : Nat} {vars : Int} {ks : List VT} (hk : ∀ x ∈ ks, zaJ data 0 x = true) (hl : (ks.length : Int) = vars) : ∀ a : VT, zaJ (data.take m) vars a = true → zaJ data 0 (subst ks a) = true
 | .mk k n al => by
  intro h
  rw [zaJ, Bool.and_eq_true] at h
  unfold subst
  by_cases h4 : k = 4
  ·have h1 := h.1
   subst h4
   simp [zaR] at h1
   rw [if_pos ⟨rfl, by omega, by omega⟩]
   have hn : n.toNat < ks.length := by omega
   rw [List.getElem?_eq_getElem hn]
   exact hk _ (List.getElem_mem hn)
  ·rw [if_neg (fun h => h4 h.1), zaJ, Bool.and_eq_true, zrt]
   exact ⟨zyd h.1 h4, zrK hk hl al h.2⟩
theorem zrK {data : List Dat} {m : Nat} {vars : Int} {ks : List VT} (hk : ∀ x ∈ ks, zaJ data 0 x = true) (hl : (ks.length : Int) = vars) : ∀ l : List VT, zaS (data.take m) vars l = true → zaS data 0 (zaD ks l) = true
 | [] => by intro _; simp [zaD, zaS]
 | t :: ts => by
  intro h
  rw [zaS, Bool.and_eq_true] at h
  rw [zaD, zaS, Bool.and_eq_true]
  exact ⟨zrN hk hl t h.1, zrK hk hl ts h.2⟩
end
theorem zrI {data : List Dat} {vars : Int} : ∀ {l : List VT}, zaS data vars l = true → ∀ x ∈ l, zaJ data vars x = true
 | [], _ => by simp
 | t :: ts, h => by
  rw [zaS, Bool.and_eq_true] at h
  intro x hx
  rcases List.mem_cons.1 hx with rfl | hx
  ·exact h.1
  ·exact zrI h.2 x hx
theorem zrL {data : List Dat} {vars : Int} {k n : Int} {ks : List VT} (h : zaJ data vars (.mk k n ks) = true) : ∀ x ∈ ks, zaJ data vars x = true := by
 rw [zaJ, Bool.and_eq_true] at h
 exact zrI h.2
theorem zrP {data : List Dat} {vars : Int} {k n : Int} {ks : List VT} (h : zaH data vars (.mk k n ks) = true) : ∀ x ∈ ks, zaH data vars x = true := by
 rw [zaH, Bool.and_eq_true, decide_eq_true_eq] at h
 intro x hx
 rw [zaH, Bool.and_eq_true, decide_eq_true_eq]
 exact ⟨Nat.le_trans (zer x hx) h.1, zrL h.2 x hx⟩
theorem zwD {data : List Dat} (hD : za4 data = true) {d c : Nat} (hd : d < data.length) (hc : c < data[d].cons.length) : ∀ x ∈ (data[d].cons[c]).args, zaJ (data.take (d + 1)) data[d].vars x = true := by
 simp only [za4, Bool.and_eq_true, zko, Nat.zero_add] at hD
 have h1 := hD.1.1.2 d hd
 simp only [zcb, Bool.and_eq_true] at h1
 have h2 := List.all_eq_true.1 h1.2 _ (List.getElem_mem hc)
 simp only [zcD, Bool.and_eq_true] at h2
 intro x hx
 have h3 := List.all_eq_true.1 h2.2.2 x hx
 simp only [zcV, zaH, Bool.and_eq_true] at h3
 exact h3.1.2
theorem zff {data : List Dat} {k n : Int} {ks : List VT} {c : Int} {l : List VT} (h : za7 data (.mk k n ks) c = some l) :
  k = 5 ∧ 0 ≤ n ∧ 0 ≤ c ∧ ∃ (hn : n.toNat < data.length) (hc : c.toNat < (data[n.toNat]).cons.length), (ks.length : Int) = (data[n.toNat]).vars ∧ l = ((data[n.toNat]).cons[c.toNat]).args.map (subst ks) ∧ ∀ x ∈ l, x.nodes ≤ 200 := by
 rw [zcs] at h
 split at h
 ·rename_i h5
  split at h
  ·rename_i D hD
   obtain ⟨hn, rfl⟩ := List.getElem?_eq_some_iff.1 hD
   split at h
   ·rename_i hv
    split at h
    ·rename_i C hC
     obtain ⟨hc, rfl⟩ := List.getElem?_eq_some_iff.1 hC
     split at h
     ·rename_i ha
      simp only [Option.some.injEq] at h
      subst h
      exact ⟨h5.1, h5.2.1, h5.2.2, hn, hc, hv, rfl, fun x hx => of_decide_eq_true (List.all_eq_true.1 ha x hx)⟩
     ·cases h
    ·cases h
   ·cases h
  ·cases h
 ·cases h
theorem zpL {data : List Dat} (hD : za4 data = true) {t : VT} (ht : zaJ data 0 t = true) {c : Int} {l : List VT} (h : za7 data t c = some l) : ∀ x ∈ l, zaH data 0 x = true := by
 obtain ⟨k, n, ks⟩ := t
 obtain ⟨rfl, h0, hc0, hn, hc, hv, rfl, hsz⟩ := zff h
 intro x hx
 rw [zaH, Bool.and_eq_true, decide_eq_true_eq]
 refine ⟨hsz x hx, ?_⟩
 obtain ⟨a, ha, rfl⟩ := List.mem_map.1 hx
 exact zrN (zrL ht) hv a (zwD hD hn hc a ha)
theorem zra {ks : List VT} : ∀ (l : List VT) (i : Nat), zcd l i = true → i + l.length = ks.length → zaD ks l = ks.drop i
 | [], i, _, hl => by simp at hl; subst hl; simp [zaD]
 | x :: l, i, h, hl => by
  rw [zcd, Bool.and_eq_true] at h
  obtain ⟨k, n, al⟩ := x
  simp only [zfl, Bool.and_eq_true, beq_iff_eq] at h
  obtain ⟨⟨⟨rfl, rfl⟩, h3⟩, h4⟩ := h
  simp at hl
  have hi : i < ks.length := by omega
  rw [List.drop_eq_getElem_cons hi, zaD, zra l (i + 1) h4 (by omega)]
  rw [subst, if_pos ⟨rfl, by omega, by omega⟩]
  simp [hi]
theorem zx9 {ks : List VT} {d vars : Int} {a : VT} (h : zbk d vars a = true) (hl : (ks.length : Int) = vars) : subst ks a = .mk 5 d ks := by
 obtain ⟨k, n, al⟩ := a
 simp only [zbk, Bool.and_eq_true, beq_iff_eq] at h
 obtain ⟨⟨⟨rfl, rfl⟩, h3⟩, h4⟩ := h
 rw [subst, if_neg (fun h => by have := h.1; omega)]
 have := zra (ks := ks) al 0 h4 (by omega)
 rw [this, List.drop_zero]
def zbC (d : Nat) (D : Dat) (C : Con) : List Bool := C.args.map (zbk d D.vars)
def za8 (data : List Dat) (d : Nat) : List (List Bool) := match data[d]? with
 | some D => D.cons.map (zbC d D)
 | none => []
mutual
def za2 (rs : List (List Bool)) : VT → List VT
 | .mk k n ks => .mk k n ks :: zbl rs ks (rs.getD n.toNat [])
def zbl (rs : List (List Bool)) : List VT → List Bool → List VT
 | [], _ => []
 | v :: vs, bs => match bs with
  | [] => []
  | b :: bs => (if b = true then za2 rs v else []) ++ zbl rs vs bs
end
mutual
theorem zeF (rs : List (List Bool)) : ∀ v : VT, (za2 rs v).length ≤ v.nodes
 | .mk k n ks => by
  have := zhe rs ks (rs.getD n.toNat [])
  simp only [za2, VT.nodes, List.length_cons]
  omega
theorem zhe (rs : List (List Bool)) : ∀ (vs : List VT) (bs : List Bool), (zbl rs vs bs).length ≤ VT.nodesL vs
 | [], _ => by simp [zbl, VT.nodesL]
 | v :: vs, [] => by simp [zbl]
 | v :: vs, b :: bs => by
  have h1 := zeF rs v
  have h2 := zhe rs vs bs
  simp only [zbl, VT.nodesL, List.length_append]
  split
  ·omega
  ·simp; omega
end
theorem zgl {data : List Dat} {n : Int} {al : List VT} {vk vn : Int} {vks : List VT} (h : zat data (.mk vk vn vks) (.mk 5 n al) = true) :
  vk = 5 ∧ 0 ≤ n ∧ 0 ≤ vn ∧ vn < 8 ∧ ∃ (hn : n.toNat < data.length) (hc : vn.toNat < (data[n.toNat]).cons.length), vks.length = ((data[n.toNat]).cons[vn.toNat]).args.length ∧ (al.length : Int) = (data[n.toNat]).vars ∧
   (za8 data n.toNat).getD vn.toNat [] = zbC n.toNat data[n.toNat] (data[n.toNat]).cons[vn.toNat] ∧ (za8 data n.toNat).length = (data[n.toNat]).cons.length ∧
   ∀ (i : Nat) (hi : i < vks.length) (h2 : i < ((data[n.toNat]).cons[vn.toNat]).args.length), zbk n.toNat (data[n.toNat]).vars ((data[n.toNat]).cons[vn.toNat]).args[i] = true → zat data vks[i] (.mk 5 n al) = true := by
 simp only [zat] at h
 simp at h
 obtain ⟨⟨⟨h1, h2⟩, h3⟩, h4⟩ := h
 cases hf : za7 data (.mk 5 n al) vn with
 | none => rw [hf, zkw] at h4; cases h4
 | some l =>
  rw [hf, zkx] at h4
  obtain ⟨_, k1, k2, hn, hc, hv, rfl, _⟩ := zff hf
  have hlen := zp0 h4
  simp at hlen
  refine ⟨h1, k1, h2, h3, hn, hc, hlen, hv, ?_, ?_, ?_⟩
  ·simp [za8, List.getElem?_eq_getElem hn, hc, List.getD_eq_getElem?_getD]
  ·simp [za8, List.getElem?_eq_getElem hn]
  ·intro i hi hi2 hself
   have := zpZ h4 i hi (by simpa using hi2)
   rw [List.getElem_map, zx9 hself (by simpa using hv)] at this
   rwa [show ((n.toNat : Nat) : Int) = n by omega] at this
end Go.Proofs.YtjkkonpjecoieaaGreat
namespace Go.Proofs.YtjkkonpjecoieaaGreat
open Go Go.Abs
set_option maxRecDepth 100000
def zz5 (_ : Nat) : List Bool := []
noncomputable def zz6 : Code := Tryz.f120.body.getD .skip
def zsq (t0 : AV) (H : zaa) (K : Kt) : Prop :=
 zap t0 H fun t1 H =>
 zaf 0 t1 fun t3 =>
 zad false 1 t3 H fun t4 =>
 ACalls tP zkS [t4] H fun t5 H =>
 zab t5 true H (fun K' => zad true 4 t1 H (K' · H)) fun t7 H =>
 zab t5 true H (fun K' => ACalls tP zkT [t7] H K') fun t8 H =>
 zai t5 t8 (.bool false) fun t9 =>
 zab t9 true H (fun K' => zad true 4 t1 H (K' · H)) fun t11 H =>
 zab t9 true H (fun K' => ACalls tP zkU [t11] H K') fun t12 H =>
 zai t9 t12 (.bool false) fun t13 =>
 zab t13 true H (fun K' => zad true 4 t1 H (K' · H)) fun t15 H =>
 zab t13 true H (fun K' => ACalls tP zkV [t15] H K') fun t16 H =>
 zai t13 t16 (.bool false) fun t17 =>
 zab t17 true H (fun K' => zad true 4 t1 H (K' · H)) fun t19 H =>
 zab t17 true H (fun K' => ACalls tP zkW [t19] H K') fun t20 H =>
 zai t17 t20 (.bool false) fun t21 =>
 zab t21 true H (fun K' => zad true 4 t1 H (K' · H)) fun t23 H =>
 zab t21 true H (fun K' => ACalls tP zkX [t23] H K') fun t24 H =>
 zai t21 t24 (.bool false) fun t25 =>
 zab t25 true H (fun K' => zad true 4 t1 H (K' · H)) fun t27 H =>
 zab t25 true H (fun K' => ACalls tP zkY [t27] H K') fun t28 H =>
 zai t25 t28 (.bool false) fun t29 =>
 K t29 H
theorem zz7 {t0 : AV} {H : zaa} {K : Kt} (h : HSc H → zsq t0 H K) : ACalls tP zgy [t0] H K :=
 zam (M := zz5) Tryz.func120 (c := zz6) (by kernel_rfl) (fun hs => Eq.mpr (by kernel_rfl) (h hs))
def zBF (_ : Nat) : List Bool := []
noncomputable def zBG : Code := Tryz.f159.body.getD .skip
def zsS (t0 : AV) (H : zaa) (K : Kt) : Prop :=
 zap t0 H fun t1 H =>
 zaf 2 t1 fun t3 =>
 zad false 1 t3 H fun t4 =>
 zah 1 t4 fun t5 =>
 zac .leq false t5 (.int .i64 3000) fun t6 =>
 zab t6 true H (fun K' => zaf 2 t1 (K' · H)) fun t8 H =>
 zab t6 true H (fun K' => zad false 1 t8 H (K' · H)) fun t9 H =>
 zab t6 true H (fun K' => zbM zqn [t1] (K' · H)) fun t10 H =>
 zab t6 true H (fun K' => ACalls tP zdY [t9, t10] H K') fun t11 H =>
 zab t6 true H (fun K' => aUn .not t11 (K' · H)) fun t12 H =>
 zai t6 t12 (.bool false) fun t13 =>
 K t13 H
theorem zBH {t0 : AV} {H : zaa} {K : Kt} (h : HSc H → zsS t0 H K) : ACalls tP zkT [t0] H K :=
 zam (M := zBF) Tryz.func159 (c := zBG) (by kernel_rfl) (fun hs => Eq.mpr (by kernel_rfl) (h hs))
def zid : Nat → List Bool
 | 6 => rl false [1,1,1,2,14,3,59]
 | _ => []
noncomputable def zmD : Code := Tryz.f160.body.getD .skip
noncomputable def zBN : List ResultVar := Tryz.f160.results.toList
def zmE (t1 t3 t4 t19 t20 t21 : AV) : List AV := ux 1 (t1 :: ux 1 (t3 :: t4 :: ux 14 (t19 :: t20 :: t21 :: ux 59 [])))
def zBL : List Bool := zid 6
noncomputable def zBJ : Code := zar [1, 1, 1, 1, 0, 1, 0, 0] zmD
def zBI (K : Kt) : AExit → List AV → zaa → Prop := zas tP zid [1, 1, 1, 1, 0, 1, 0] zmD (zaw tP zBN K)
def zsW (t1 t3 t4 t19 t20 t21 : AV) (H : zaa) (K : Kt) : Prop := ALoop tP zBJ (zBI K) (zmE t1 t3 t4 t19 t20 t21) H
def zsV (t1 t3 t4 t6 t19 t20 t21 : AV) (H : zaa) (K : Kt) (Kb6 : Lt) : Prop :=
 zaf 0 t6 fun t42 =>
 zad false 1 t42 H fun t43 =>
 zcq t3 t43 (.bool true) H fun H =>
 zaf 1 t6 fun t44 =>
 zad false 1 t44 H fun t45 =>
 zah 1 t45 fun t46 =>
 zac .gtr false t46 (.int .i64 6) fun t47 =>
 zab t47 false H (fun K' => zaf 0 t1 (K' · H)) fun t49 H =>
 zab t47 false H (fun K' => zad false 1 t49 H (K' · H)) fun t50 H =>
 zab t47 false H (fun K' => zaf 3 t6 (K' · H)) fun t51 H =>
 zab t47 false H (fun K' => zad true 3 t51 H (K' · H)) fun t52 H =>
 zab t47 false H (fun K' => ACalls tP zex [t50, t52, (.int .i64 0)] H K') fun t53 H =>
 zab t47 false H (fun K' => aUn .not t53 (K' · H)) fun t54 H =>
 zai t47 (.bool true) t54 fun t55 =>
 zag t55
 (K (.bool false) H)
 (zae H (fun K' => zaf 6 t6 (K' · H)) fun t56 =>
 zae H (fun K' => zan false 1 t56 H (K' · H)) fun t57 =>
 zae H (fun K' => zac .lss false t57 (.int .i64 0) (K' · H)) fun t58 =>
 zae H (fun K' => K' t58 H) fun t59 =>
 zab t59 false H (fun K' => zae H (fun K'' => zaf 6 t6 (K'' · H)) (K' · H)) fun t60 H =>
 zab t59 false H (fun K' => zae H (fun K'' => zan false 1 t60 H (K'' · H)) (K' · H)) fun t61 H =>
 zab t59 false H (fun K' => zae H (fun K'' => zaf 3 t1 (K'' · H)) (K' · H)) fun t62 H =>
 zab t59 false H (fun K' => zae H (fun K'' => zan false 1 t62 H (K'' · H)) (K' · H)) fun t63 H =>
 zab t59 false H (fun K' => zae H (fun K'' => zah 1 t63 (K'' · H)) (K' · H)) fun t64 H =>
 zab t59 false H (fun K' => zae H (fun K'' => zac .geq false t61 t64 (K'' · H)) (K' · H)) fun t65 H =>
 zae H (fun K' => zai t59 (.bool true) t65 (K' · H)) fun t66 =>
 zae H (fun K' => K' t66 H) fun t67 =>
 zab t67 false H (fun K' => zae H (fun K'' => zaf 3 t1 (K'' · H)) (K' · H)) fun t68 H =>
 zab t67 false H (fun K' => zae H (fun K'' => zan false 1 t68 H (K'' · H)) (K' · H)) fun t69 H =>
 zab t67 false H (fun K' => zae H (fun K'' => zaf 6 t6 (K'' · H)) (K' · H)) fun t70 H =>
 zab t67 false H (fun K' => zae H (fun K'' => zan false 1 t70 H (K'' · H)) (K' · H)) fun t71 H =>
 zab t67 false H (fun K' => zae H (fun K'' => zaj 8 t69 t71 (K'' · H)) (K' · H)) fun t72 H =>
 zab t67 false H (fun K' => zae H (fun K'' => zaf 5 t72 (K'' · H)) (K' · H)) fun t73 H =>
 zab t67 false H (fun K' => zae H (fun K'' => zan true 3 t73 H (K'' · H)) (K' · H)) fun t74 H =>
 zab t67 false H (fun K' => zae H (fun K'' => zaf 3 t6 (K'' · H)) (K' · H)) fun t75 H =>
 zab t67 false H (fun K' => zae H (fun K'' => zan true 3 t75 H (K'' · H)) (K' · H)) fun t76 H =>
 zab t67 false H (fun K' => za6 H (fun H K'' => ACalls tP zxl [t74, t76] H K'') (K' · H)) fun t77 H =>
 zab t67 false H (fun K' => zae H (fun K'' => aUn .not t77 (K'' · H)) (K' · H)) fun t78 H =>
 zae H (fun K' => zai t67 (.bool true) t78 (K' · H)) fun t79 =>
 zag t79
 (K (.bool false) H)
 (zac .add false t21 (.int .i64 1) fun t80 =>
 Kb6 (zmE t1 t3 t4 t19 t20 t80) H))
def zsU (t1 t3 t4 t19 t20 t21 : AV) (H : zaa) (K : Kt) (Kb6 : Lt) : Prop :=
 zac .lss false t21 t20 fun t22 =>
 zag t22
 (zaj 7 t19 t21 fun t23 =>
 zad true 7 t23 H fun t24 =>
 zau [(.str []), .snil, .snil, (.int .i64 0), (.int .i64 0), .snil, (.int .i64 0)] H fun t6 H =>
 zak 7 t6 t24 H fun H =>
 zaf 0 t6 fun t25 =>
 zad false 1 t25 H fun t26 =>
 zac .eql false t26 (.str []) fun t27 =>
 zag t27
 (zsV t1 t3 (.bool true) t6 t19 t20 t21 H K Kb6)
 (zab t4 false H (fun K' => K' t3 H) fun t30 H =>
 zab t4 false H (fun K' => zaf 0 t6 (K' · H)) fun t31 H =>
 zab t4 false H (fun K' => zad false 1 t31 H (K' · H)) fun t32 H =>
 zab t4 false H (fun K' => zcU (.bool false) false t30 t32 H (K' · H)) fun t33 H =>
 zai t4 (.bool true) t33 fun t34 =>
 zab t34 false H (fun K' => zaf 2 t6 (K' · H)) fun t36 H =>
 zab t34 false H (fun K' => zad false 1 t36 H (K' · H)) fun t37 H =>
 zab t34 false H (fun K' => zah 1 t37 (K' · H)) fun t38 H =>
 zab t34 false H (fun K' => zac .gtr false t38 (.int .i64 0) (K' · H)) fun t39 H =>
 zai t34 (.bool true) t39 fun t40 =>
 zag t40
 (K (.bool false) H)
 (zsV t1 t3 t4 t6 t19 t20 t21 H K Kb6)))
 (K (.bool true) H)
def zsT (t0 : AV) (H : zaa) (K : Kt) : Prop :=
 zap t0 H fun t1 H =>
 zaf 1 t1 fun t7 =>
 zad false 1 t7 H fun t8 =>
 zah 1 t8 fun t9 =>
 zac .gtr false t9 (.int .i64 64) fun t10 =>
 zab t10 false H (fun K' => zaf 3 t1 (K' · H)) fun t12 H =>
 zab t10 false H (fun K' => zad false 1 t12 H (K' · H)) fun t13 H =>
 zab t10 false H (fun K' => zah 1 t13 (K' · H)) fun t14 H =>
 zab t10 false H (fun K' => zac .gtr false t14 (.int .i64 3000) (K' · H)) fun t15 H =>
 zai t10 (.bool true) t15 fun t16 =>
 zag t16
 (K (.bool false) H)
 (zdl H fun t17 H =>
 zaf 1 t1 fun t18 =>
 zad false 1 t18 H fun t19 =>
 zah 1 t19 fun t20 =>
 zsW t1 t17 (.bool false) t19 t20 (.int .i64 0) H K)
theorem zBK {t1 t3 t4 t19 t20 t21 : AV} {H : zaa} {K : Kt} (Inv : Nat → AV → AV → zaa → Prop) (n : Nat) (h0 : HSc H → Inv n t4 t21 H)
  (round : Rd2 (fun t4 => fun t21 => zmE t1 t3 t4 t19 t20 t21) (fun t4 => fun t21 => fun H Kb6 => zsU t1 t3 t4 t19 t20 t21 H K Kb6) H Inv) : zsW t1 t3 t4 t19 t20 t21 H K :=
 lp2 (M := zid) zBL t4 t21 (by kernel_rfl) Inv n h0 round
theorem zBM {t0 : AV} {H : zaa} {K : Kt} (h : HSc H → zsT t0 H K) : ACalls tP zkU [t0] H K :=
 zam (M := zid) Tryz.func160 (c := zmD) (by kernel_rfl) (fun hs => Eq.mpr (by kernel_rfl) (h hs))
def zdG : Nat → List Bool
 | 5 => rl false [1,1,2,2,12,3,54]
 | 11 => rl false [1,1,2,2,25,3,41]
 | 16 => rl false [1,1,2,2,2,1,22,3,12,3,26]
 | _ => []
noncomputable def zfV : Code := Tryz.f161.body.getD .skip
noncomputable def zs5 : List ResultVar := Tryz.f161.results.toList
def zmG (t1 t4 t5 t18 t19 t20 : AV) : List AV := ux 1 (t1 :: ux 2 (t4 :: t5 :: ux 12 (t18 :: t19 :: t20 :: ux 54 [])))
def zBW : List Bool := zdG 5
noncomputable def zBR : Code := zar [1, 1, 1, 1, 0, 1, 0, 0] zfV
def zBP (K : Kt) : AExit → List AV → zaa → Prop := zas tP zdG [1, 1, 1, 1, 0, 1, 0] zfV (zaw tP zs5 K)
def zs3 (t1 t4 t5 t18 t19 t20 : AV) (H : zaa) (K : Kt) : Prop := ALoop tP zBR (zBP K) (zmG t1 t4 t5 t18 t19 t20) H
def zs1 (t1 t4 t5 t31 t32 t33 : AV) : List AV := ux 1 (t1 :: ux 2 (t4 :: t5 :: ux 25 (t31 :: t32 :: t33 :: ux 41 [])))
def zs4 : List Bool := zdG 11
noncomputable def zmF : Code := zar [1, 1, 1, 1, 1, 0, 1, 0, 0] zfV
def zsY (K : Kt) : AExit → List AV → zaa → Prop := zas tP zdG [1, 1, 1, 1, 1, 0, 1, 0] zfV (zaw tP zs5 K)
def zs2 (t1 t4 t5 t31 t32 t33 : AV) (H : zaa) (K : Kt) : Prop := ALoop tP zmF (zsY K) (zs1 t1 t4 t5 t31 t32 t33) H
def zBS (t1 t4 t5 t8 t31 t32 t33 t46 t47 t48 : AV) : List AV := ux 1 (t1 :: ux 2 (t4 :: t5 :: ux 2 (t8 :: ux 22 (t31 :: t32 :: t33 :: ux 12 (t46 :: t47 :: t48 :: ux 26 [])))))
noncomputable def zBQ : Code := zar [1, 1, 0, 0, 1, 1, 1, 0, 0] zmF
def zBO (K : Kt) (Kb11 : Lt) : AExit → List AV → zaa → Prop := zas tP zdG [1, 1, 0, 0, 1, 1, 1, 0] zmF (zbQ zs4 Kb11 (zsY K))
def zBT (t1 t4 t5 t8 t31 t32 t33 t46 t47 t48 : AV) (H : zaa) (K : Kt) (Kb11 : Lt) : Prop := ALoop tP zBQ (zBO K Kb11) (zBS t1 t4 t5 t8 t31 t32 t33 t46 t47 t48) H
def zsZ (t1 t4 t5 t31 t32 t33 : AV) (H : zaa) (K : Kt) (Kb11 : Lt) : Prop :=
 zac .lss false t33 t32 fun t34 =>
 zag t34
 (zaj 8 t31 t33 fun t36 =>
 zad true 8 t36 H fun t37 =>
 zau [(.int .i64 0), (.int .i64 0), .snil, .snil, .snil, (.int .i64 0), (.int .i64 0), .snil] H fun t9 H =>
 zak 8 t9 t37 H fun H =>
 zaf 3 t9 fun t38 =>
 zad false 1 t38 H fun t39 =>
 zah 1 t39 fun t40 =>
 zaf 4 t9 fun t41 =>
 zad false 1 t41 H fun t42 =>
 zah 1 t42 fun t43 =>
 zac .neq false t40 t43 fun t44 =>
 zag t44
 (K (.bool false) H)
 (zaf 4 t9 fun t45 =>
 zad false 1 t45 H fun t46 =>
 zah 1 t46 fun t47 =>
 zBT t1 t4 t5 t33 t31 t32 t33 t46 t47 (.int .i64 0) H K Kb11))
 (zad false 1 t4 H fun t70 =>
 zaf 3 t1 fun t71 =>
 zad false 1 t71 H fun t72 =>
 zah 1 t72 fun t73 =>
 zac .eql false t70 t73 fun t74 =>
 K t74 H)
def zs0 (t1 t4 t5 t18 t19 t20 : AV) (H : zaa) (K : Kt) (Kb5 : Lt) : Prop :=
 zac .lss false t20 t19 fun t21 =>
 zag t21
 (zaj 7 t18 t20 fun t22 =>
 zad true 7 t22 H fun t23 =>
 zau [(.str []), .snil, .snil, (.int .i64 0), (.int .i64 0), .snil, (.int .i64 0)] H fun t7 H =>
 zak 7 t7 t23 H fun H =>
 zaf 6 t7 fun t25 =>
 zad false 1 t25 H fun t26 =>
 aCallV tP t5 [t26] H fun t27 H =>
 aUn .not t27 fun t28 =>
 zag t28
 (K (.bool false) H)
 (zac .add false t20 (.int .i64 1) fun t29 =>
 Kb5 (zmG t1 t4 t5 t18 t19 t29) H))
 (zaf 3 t1 fun t30 =>
 zad false 1 t30 H fun t31 =>
 zah 1 t31 fun t32 =>
 zs2 t1 t4 t5 t31 t32 (.int .i64 0) H K)
def zsX (t0 : AV) (H : zaa) (K : Kt) : Prop :=
 zap t0 H fun t1 H =>
 zaf 3 t1 fun t12 =>
 zad false 1 t12 H fun t13 =>
 zah 1 t13 fun t14 =>
 zba 1 [(.bool false)] t14 t14 H fun t15 H =>
 zau [.snil] H fun t3 H =>
 zak 1 t3 t15 H fun H =>
 zau [(.int .i64 0)] H fun t4 H =>
 zak 1 t4 (.int .i64 0) H fun H =>
 zbM zxm [t3, t4] fun t16 =>
 zaf 1 t1 fun t17 =>
 zad false 1 t17 H fun t18 =>
 zah 1 t18 fun t19 =>
 zs3 t1 t4 t16 t18 t19 (.int .i64 0) H K
theorem zBU {t1 t4 t5 t31 t32 t33 : AV} {H : zaa} {K : Kt} (Inv : Nat → AV → zaa → Prop) (n : Nat) (h0 : HSc H → Inv n t33 H)
  (round : Rd1 (fun t33 => zs1 t1 t4 t5 t31 t32 t33) (fun t33 => fun H Kb11 => zsZ t1 t4 t5 t31 t32 t33 H K Kb11) H Inv) : zs2 t1 t4 t5 t31 t32 t33 H K :=
 lp1 (M := zdG) zs4 t33 (by kernel_rfl) Inv n h0 round
theorem zBV {t1 t4 t5 t18 t19 t20 : AV} {H : zaa} {K : Kt} (Inv : Nat → AV → zaa → Prop) (n : Nat) (h0 : HSc H → Inv n t20 H)
  (round : Rd1 (fun t20 => zmG t1 t4 t5 t18 t19 t20) (fun t20 => fun H Kb5 => zs0 t1 t4 t5 t18 t19 t20 H K Kb5) H Inv) : zs3 t1 t4 t5 t18 t19 t20 H K :=
 lp1 (M := zdG) zBW t20 (by kernel_rfl) Inv n h0 round
theorem zBX {t0 : AV} {H : zaa} {K : Kt} (h : HSc H → zsX t0 H K) : ACalls tP zkV [t0] H K :=
 zam (M := zdG) Tryz.func161 (c := zfV) (by kernel_rfl) (fun hs => Eq.mpr (by kernel_rfl) (h hs))
def zdH : Nat → List Bool
 | 5 => rl false [1,1,2,2,12,3,41]
 | 11 => rl false [1,1,2,2,32,3,21]
 | 14 => rl false [1,1,2,2,32,3,4,3,14]
 | _ => []
noncomputable def zfW : Code := Tryz.f162.body.getD .skip
noncomputable def zte : List ResultVar := Tryz.f162.results.toList
def zmI (t1 t4 t5 t18 t19 t20 : AV) : List AV := ux 1 (t1 :: ux 2 (t4 :: t5 :: ux 12 (t18 :: t19 :: t20 :: ux 41 [])))
def zB6 : List Bool := zdH 5
noncomputable def zB1 : Code := zar [1, 1, 1, 1, 0, 1, 0, 0] zfW
def zBZ (K : Kt) : AExit → List AV → zaa → Prop := zas tP zdH [1, 1, 1, 1, 0, 1, 0] zfW (zaw tP zte K)
def ztc (t1 t4 t5 t18 t19 t20 : AV) (H : zaa) (K : Kt) : Prop := ALoop tP zB1 (zBZ K) (zmI t1 t4 t5 t18 t19 t20) H
def zta (t1 t4 t5 t38 t39 t40 : AV) : List AV := ux 1 (t1 :: ux 2 (t4 :: t5 :: ux 32 (t38 :: t39 :: t40 :: ux 21 [])))
def ztd : List Bool := zdH 11
noncomputable def zmH : Code := zar [1, 1, 1, 1, 1, 0, 1, 0, 0] zfW
def zs7 (K : Kt) : AExit → List AV → zaa → Prop := zas tP zdH [1, 1, 1, 1, 1, 0, 1, 0] zfW (zaw tP zte K)
def ztb (t1 t4 t5 t38 t39 t40 : AV) (H : zaa) (K : Kt) : Prop := ALoop tP zmH (zs7 K) (zta t1 t4 t5 t38 t39 t40) H
def zB2 (t1 t4 t5 t38 t39 t40 t45 t46 t47 : AV) : List AV := ux 1 (t1 :: ux 2 (t4 :: t5 :: ux 32 (t38 :: t39 :: t40 :: ux 4 (t45 :: t46 :: t47 :: ux 14 []))))
noncomputable def zB0 : Code := zar [1, 1, 0, 0, 1, 1, 0, 0] zmH
def zBY (K : Kt) (Kb11 : Lt) : AExit → List AV → zaa → Prop := zas tP zdH [1, 1, 0, 0, 1, 1, 0] zmH (zbQ ztd Kb11 (zs7 K))
def zB3 (t1 t4 t5 t38 t39 t40 t45 t46 t47 : AV) (H : zaa) (K : Kt) (Kb11 : Lt) : Prop := ALoop tP zB0 (zBY K Kb11) (zB2 t1 t4 t5 t38 t39 t40 t45 t46 t47) H
def zs8 (t1 t4 t5 t38 t39 t40 : AV) (H : zaa) (K : Kt) (Kb11 : Lt) : Prop :=
 zac .lss false t40 t39 fun t41 =>
 zag t41
 (zaj 8 t38 t40 fun t42 =>
 zad true 8 t42 H fun t43 =>
 zau [(.int .i64 0), (.int .i64 0), .snil, .snil, .snil, (.int .i64 0), (.int .i64 0), .snil] H fun t9 H =>
 zak 8 t9 t43 H fun H =>
 zaf 3 t9 fun t44 =>
 zad false 1 t44 H fun t45 =>
 zah 1 t45 fun t46 =>
 zB3 t1 t4 t5 t38 t39 t40 t45 t46 (.int .i64 0) H K Kb11)
 (zad false 1 t4 H fun t57 =>
 zaf 2 t1 fun t58 =>
 zad false 1 t58 H fun t59 =>
 zah 1 t59 fun t60 =>
 zac .eql false t57 t60 fun t61 =>
 K t61 H)
def zs9 (t1 t4 t5 t18 t19 t20 : AV) (H : zaa) (K : Kt) (Kb5 : Lt) : Prop :=
 zac .lss false t20 t19 fun t21 =>
 zag t21
 (zaj 7 t18 t20 fun t22 =>
 zad true 7 t22 H fun t23 =>
 zau [(.str []), .snil, .snil, (.int .i64 0), (.int .i64 0), .snil, (.int .i64 0)] H fun t7 H =>
 zak 7 t7 t23 H fun H =>
 zaf 1 t7 fun t25 =>
 zad false 1 t25 H fun t26 =>
 aCallV tP t5 [t26] H fun t27 H =>
 aUn .not t27 fun t28 =>
 zab t28 false H (fun K' => K' t5 H) fun t30 H =>
 zab t28 false H (fun K' => zaf 2 t7 (K' · H)) fun t31 H =>
 zab t28 false H (fun K' => zad false 1 t31 H (K' · H)) fun t32 H =>
 zab t28 false H (fun K' => aCallV tP t30 [t32] H K') fun t33 H =>
 zab t28 false H (fun K' => aUn .not t33 (K' · H)) fun t34 H =>
 zai t28 (.bool true) t34 fun t35 =>
 zag t35
 (K (.bool false) H)
 (zac .add false t20 (.int .i64 1) fun t36 =>
 Kb5 (zmI t1 t4 t5 t18 t19 t36) H))
 (zaf 3 t1 fun t37 =>
 zad false 1 t37 H fun t38 =>
 zah 1 t38 fun t39 =>
 ztb t1 t4 t5 t38 t39 (.int .i64 0) H K)
def zs6 (t0 : AV) (H : zaa) (K : Kt) : Prop :=
 zap t0 H fun t1 H =>
 zaf 2 t1 fun t12 =>
 zad false 1 t12 H fun t13 =>
 zah 1 t13 fun t14 =>
 zba 1 [(.bool false)] t14 t14 H fun t15 H =>
 zau [.snil] H fun t3 H =>
 zak 1 t3 t15 H fun H =>
 zau [(.int .i64 0)] H fun t4 H =>
 zak 1 t4 (.int .i64 0) H fun H =>
 zbM zxn [t3, t4] fun t16 =>
 zaf 1 t1 fun t17 =>
 zad false 1 t17 H fun t18 =>
 zah 1 t18 fun t19 =>
 ztc t1 t4 t16 t18 t19 (.int .i64 0) H K
theorem zB4 {t1 t4 t5 t38 t39 t40 : AV} {H : zaa} {K : Kt} (Inv : Nat → AV → zaa → Prop) (n : Nat) (h0 : HSc H → Inv n t40 H)
  (round : Rd1 (fun t40 => zta t1 t4 t5 t38 t39 t40) (fun t40 => fun H Kb11 => zs8 t1 t4 t5 t38 t39 t40 H K Kb11) H Inv) : ztb t1 t4 t5 t38 t39 t40 H K :=
 lp1 (M := zdH) ztd t40 (by kernel_rfl) Inv n h0 round
theorem zB5 {t1 t4 t5 t18 t19 t20 : AV} {H : zaa} {K : Kt} (Inv : Nat → AV → zaa → Prop) (n : Nat) (h0 : HSc H → Inv n t20 H)
  (round : Rd1 (fun t20 => zmI t1 t4 t5 t18 t19 t20) (fun t20 => fun H Kb5 => zs9 t1 t4 t5 t18 t19 t20 H K Kb5) H Inv) : ztc t1 t4 t5 t18 t19 t20 H K :=
 lp1 (M := zdH) zB6 t20 (by kernel_rfl) Inv n h0 round
theorem zB7 {t0 : AV} {H : zaa} {K : Kt} (h : HSc H → zs6 t0 H K) : ACalls tP zkW [t0] H K :=
 zam (M := zdH) Tryz.func162 (c := zfW) (by kernel_rfl) (fun hs => Eq.mpr (by kernel_rfl) (h hs))
def zie : Nat → List Bool
 | 6 => rl false [4,2,9,3,25]
 | _ => []
noncomputable def zmJ : Code := Tryz.f163.body.getD .skip
noncomputable def zCd : List ResultVar := Tryz.f163.results.toList
def zmK (t4 t5 t15 t16 t17 : AV) : List AV := ux 4 (t4 :: t5 :: ux 9 (t15 :: t16 :: t17 :: ux 25 []))
def zCb : List Bool := zie 6
noncomputable def zB9 : Code := zar [1, 1, 1, 1, 1, 0, 1, 0, 0] zmJ
def zB8 (K : Kt) : AExit → List AV → zaa → Prop := zas tP zie [1, 1, 1, 1, 1, 0, 1, 0] zmJ (zaw tP zCd K)
def zth (t4 t5 t15 t16 t17 : AV) (H : zaa) (K : Kt) : Prop := ALoop tP zB9 (zB8 K) (zmK t4 t5 t15 t16 t17) H
def ztg (t4 t5 t15 t16 t17 : AV) (H : zaa) (K : Kt) (Kb6 : Lt) : Prop :=
 zac .lss false t17 t16 fun t18 =>
 zag t18
 (zaj 7 t15 t17 fun t19 =>
 zad true 7 t19 H fun t20 =>
 zau [(.str []), .snil, .snil, (.int .i64 0), (.int .i64 0), .snil, (.int .i64 0)] H fun t7 H =>
 zak 7 t7 t20 H fun H =>
 zad false 1 t4 H fun t21 =>
 zaf 1 t7 fun t22 =>
 zad false 1 t22 H fun t23 =>
 aCallV tP t21 [t23, (.bool true)] H fun t24 H =>
 zad false 1 t4 H fun t25 =>
 zaf 2 t7 fun t26 =>
 zad false 1 t26 H fun t27 =>
 aCallV tP t25 [t27, (.bool true)] H fun t28 H =>
 zad false 1 t5 H fun t29 =>
 zaf 6 t7 fun t30 =>
 zad false 1 t30 H fun t31 =>
 aCallV tP t29 [t31] H fun t32 H =>
 aUn .not t32 fun t33 =>
 zag t33
 (K (.bool false) H)
 (zad false 1 t4 H fun t34 =>
 zaf 1 t7 fun t35 =>
 zad false 1 t35 H fun t36 =>
 aCallV tP t34 [t36, (.bool false)] H fun t37 H =>
 zad false 1 t4 H fun t38 =>
 zaf 2 t7 fun t39 =>
 zad false 1 t39 H fun t40 =>
 aCallV tP t38 [t40, (.bool false)] H fun t41 H =>
 zac .add false t17 (.int .i64 1) fun t42 =>
 Kb6 (zmK t4 t5 t15 t16 t42) H))
 (K (.bool true) H)
def ztf (t0 : AV) (H : zaa) (K : Kt) : Prop :=
 zap t0 H fun t1 H =>
 zaf 2 t1 fun t8 =>
 zad false 1 t8 H fun t9 =>
 zah 1 t9 fun t10 =>
 zba 1 [(.bool false)] t10 t10 H fun t11 H =>
 zau [.snil] H fun t3 H =>
 zak 1 t3 t11 H fun H =>
 zbM zxo [t3] fun t12 =>
 zau [.nilfn] H fun t4 H =>
 zak 1 t4 t12 H fun H =>
 zau [.nilfn] H fun t5 H =>
 zbM zxp [t1, t3, t4, t5] fun t13 =>
 zak 1 t5 t13 H fun H =>
 zaf 1 t1 fun t14 =>
 zad false 1 t14 H fun t15 =>
 zah 1 t15 fun t16 =>
 zth t4 t5 t15 t16 (.int .i64 0) H K
theorem zCa {t4 t5 t15 t16 t17 : AV} {H : zaa} {K : Kt} (Inv : Nat → AV → zaa → Prop) (n : Nat) (h0 : HSc H → Inv n t17 H)
  (round : Rd1 (fun t17 => zmK t4 t5 t15 t16 t17) (fun t17 => fun H Kb6 => ztg t4 t5 t15 t16 t17 H K Kb6) H Inv) : zth t4 t5 t15 t16 t17 H K :=
 lp1 (M := zie) zCb t17 (by kernel_rfl) Inv n h0 round
theorem zCc {t0 : AV} {H : zaa} {K : Kt} (h : HSc H → ztf t0 H K) : ACalls tP zkX [t0] H K :=
 zam (M := zie) Tryz.func163 (c := zmJ) (by kernel_rfl) (fun hs => Eq.mpr (by kernel_rfl) (h hs))
def zeb : Nat → List Bool
 | 3 => rl false [1,1,1,1,12,3,30]
 | 9 => rl false [3,1,24,3,18]
 | _ => []
noncomputable def zfX : Code := Tryz.f164.body.getD .skip
noncomputable def ztn : List ResultVar := Tryz.f164.results.toList
def zmL (t1 t3 t16 t17 t18 : AV) : List AV := ux 1 (t1 :: ux 1 (t3 :: ux 12 (t16 :: t17 :: t18 :: ux 30 [])))
def zCk : List Bool := zeb 3
noncomputable def zCg : Code := zar [1, 1, 0, 1, 0, 0] zfX
def zCe (K : Kt) : AExit → List AV → zaa → Prop := zas tP zeb [1, 1, 0, 1, 0] zfX (zaw tP ztn K)
def ztl (t1 t3 t16 t17 t18 : AV) (H : zaa) (K : Kt) : Prop := ALoop tP zCg (zCe K) (zmL t1 t3 t16 t17 t18) H
def zmM (t3 t28 t29 t30 : AV) : List AV := ux 3 (t3 :: ux 24 (t28 :: t29 :: t30 :: ux 18 []))
def zCl : List Bool := zeb 9
noncomputable def zCh : Code := zar [1, 1, 1, 0, 1, 0, 0] zfX
def zCf (K : Kt) : AExit → List AV → zaa → Prop := zas tP zeb [1, 1, 1, 0, 1, 0] zfX (zaw tP ztn K)
def ztm (t3 t28 t29 t30 : AV) (H : zaa) (K : Kt) : Prop := ALoop tP zCh (zCf K) (zmM t3 t28 t29 t30) H
def ztk (t3 t28 t29 t30 : AV) (H : zaa) (K : Kt) (Kb9 : Lt) : Prop :=
 zac .lss false t30 t29 fun t31 =>
 zag t31
 (zaj 7 t28 t30 fun t33 =>
 zad true 7 t33 H fun t34 =>
 zau [(.str []), .snil, .snil, (.int .i64 0), (.int .i64 0), .snil, (.int .i64 0)] H fun t7 H =>
 zak 7 t7 t34 H fun H =>
 zaf 0 t7 fun t35 =>
 zad false 1 t35 H fun t36 =>
 zac .eql false t36 (.str []) fun t37 =>
 zab t37 true H (fun K' => K' t3 H) fun t39 H =>
 zab t37 true H (fun K' => zaU t39 (K' · H)) fun t40 H =>
 zab t37 true H (fun K' => zaf 4 t40 (K' · H)) fun t41 H =>
 zab t37 true H (fun K' => zad false 1 t41 H (K' · H)) fun t42 H =>
 zab t37 true H (fun K' => K' t30 H) fun t43 H =>
 zab t37 true H (fun K' => zaj 1 t42 t43 (K' · H)) fun t44 H =>
 zab t37 true H (fun K' => zad false 1 t44 H (K' · H)) fun t45 H =>
 zab t37 true H (fun K' => zac .neq false t45 (.int .i64 1) (K' · H)) fun t46 H =>
 zai t37 t46 (.bool false) fun t47 =>
 zag t47
 (K (.bool false) H)
 (zac .add false t30 (.int .i64 1) fun t48 =>
 Kb9 (zmM t3 t28 t29 t48) H))
 (K (.bool true) H)
def ztj (t1 t3 t16 t17 t18 : AV) (H : zaa) (K : Kt) (Kb3 : Lt) : Prop :=
 zac .lss false t18 t17 fun t19 =>
 zag t19
 (zaj 8 t16 t18 fun t20 =>
 zad true 8 t20 H fun t21 =>
 zau [(.int .i64 0), (.int .i64 0), .snil, .snil, .snil, (.int .i64 0), (.int .i64 0), .snil] H fun t5 H =>
 zak 8 t5 t21 H fun H =>
 zad true 8 t5 H fun t23 =>
 ACalls tP zxq [t3, t23] H fun t24 H =>
 aUn .not t24 fun t25 =>
 zag t25
 (K (.bool false) H)
 (zac .add false t18 (.int .i64 1) fun t26 =>
 Kb3 (zmL t1 t3 t16 t17 t26) H))
 (zaf 1 t1 fun t27 =>
 zad false 1 t27 H fun t28 =>
 zah 1 t28 fun t29 =>
 ztm t3 t28 t29 (.int .i64 0) H K)
def zti (t0 : AV) (H : zaa) (K : Kt) : Prop :=
 zap t0 H fun t1 H =>
 zae H (fun K' => zan true 4 t1 H (K' · H)) fun t8 =>
 zae H (fun K' => zaf 1 t1 (K' · H)) fun t9 =>
 zae H (fun K' => zan false 1 t9 H (K' · H)) fun t10 =>
 zae H (fun K' => zah 1 t10 (K' · H)) fun t11 =>
 zba 8 [(.int .i64 0)] t11 t11 H fun t12 H =>
 zae H (fun K' => zav [.snil, .snil, .snil, .snil, .snil] [(0, 4), (4, 1)] [(0, t8), (1, t12)] (K' · H)) fun t13 =>
 zap t13 H fun t14 H =>
 zae H (fun K' => K' t14 H) fun t3 =>
 zaf 3 t1 fun t15 =>
 zad false 1 t15 H fun t16 =>
 zah 1 t16 fun t17 =>
 ztl t1 t3 t16 t17 (.int .i64 0) H K
theorem zCj {t3 t28 t29 t30 : AV} {H : zaa} {K : Kt} (Inv : Nat → AV → zaa → Prop) (n : Nat) (h0 : HSc H → Inv n t30 H)
  (round : Rd1 (fun t30 => zmM t3 t28 t29 t30) (fun t30 => fun H Kb9 => ztk t3 t28 t29 t30 H K Kb9) H Inv) : ztm t3 t28 t29 t30 H K :=
 lp1 (M := zeb) zCl t30 (by kernel_rfl) Inv n h0 round
theorem zCi {t1 t3 t16 t17 t18 : AV} {H : zaa} {K : Kt} (Inv : Nat → AV → zaa → Prop) (n : Nat) (h0 : HSc H → Inv n t18 H)
  (round : Rd1 (fun t18 => zmL t1 t3 t16 t17 t18) (fun t18 => fun H Kb3 => ztj t1 t3 t16 t17 t18 H K Kb3) H Inv) : ztl t1 t3 t16 t17 t18 H K :=
 lp1 (M := zeb) zCk t18 (by kernel_rfl) Inv n h0 round
theorem zCm {t0 : AV} {H : zaa} {K : Kt} (h : HSc H → zti t0 H K) : ACalls tP zkY [t0] H K :=
 zam (M := zeb) Tryz.func164 (c := zfX) (by kernel_rfl) (fun hs => Eq.mpr (by kernel_rfl) (h hs))
end Go.Proofs.YtjkkonpjecoieaaGreat

