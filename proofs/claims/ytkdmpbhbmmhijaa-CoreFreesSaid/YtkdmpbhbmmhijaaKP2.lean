import Derived.Test.YtkdmpbhbmmhijaaKC10
set_option linter.unusedSimpArgs false
set_option linter.unusedVariables false
namespace Go.Proofs.Ytkdmpbhbmmhijaa
open Go Go.Abs
set_option maxRecDepth 8000
def ScP (c : Cor) : Prop := ∀ i (h : i < c.codes.length), (zbx c c.exprs.length (c.codes[i]).body.toNat (zcI c c.codes[i])).1 = true
theorem zyM {c : Cor} (hc : zaR c) (hcodes : ∀ i (h : i < c.codes.length), RCode c i c.codes[i]) (hexprs : ∀ i (h : i < c.exprs.length), RExpr c i c.exprs[i]) {H : zaa} (hs : HSc H) {S T M : List Int} {m : Nat} (K : AV → zaa → Prop) (hb : ∀ b : Bool, (b = true ↔ ScP c) → ∀ J, Out H.length K (.bool b) (H ++ J)) :
  zod (.ptr H.length 0) (.sl (c.codes.map Cod.cs) .none) (.int .i64 c.codes.length) (.int .i64 0) (vH H c S T M m) (Out H.length K) := by
 have hbJ : ∀ b : Bool, (b = true ↔ ScP c) → ∀ J, Out H.length K (.bool b) (vH H c S T M m ++ J) := fun b h J => by rw [vH, List.append_assoc]; exact hb b h _
 obtain ⟨k1, k2, k3, ⟨k4, k5⟩, k6, k7⟩ := hc
 have hp : InP c := ⟨⟨k1, k2, k3, ⟨k4, k5⟩, k6, k7⟩, fun i h => (hexprs i h).bk, fun i h k hk => ⟨(hexprs i h).kids k hk, ((hexprs i h).range k hk).2⟩, fun i h => (hexprs i h).binds, fun i h => ⟨(hcodes i h).rp, (hcodes i h).rc⟩, fun i h => by obtain ⟨b, h1, h2, _⟩ := (hcodes i h).body; exact ⟨b, h1, h2⟩⟩
 refine zDA (Inv := fun q t326 H' => ∃ i : Nat, i ≤ c.codes.length ∧ q = c.codes.length - i ∧ t326 = .int .i64 i ∧ (∀ j (h : j < c.codes.length), j < i → (zbx c c.exprs.length (c.codes[j]).body.toNat (zcI c c.codes[j])).1 = true) ∧ H' = vH H c S T M m) c.codes.length ?_ ?_
 ·intro _; exact ⟨0, by omega, by omega, rfl, by omega, rfl⟩
 ·rintro q t326 H' ⟨i, hi, rfl, rfl, hok, rfl⟩ hsc hlen hsF Kb hKb
  by_cases hlt : i < c.codes.length
  ·have hcat : (c.codes[i]).cs = zbd c.codes[i] := zfu _
   obtain ⟨_, kp, kc, _⟩ := k6 _ (List.getElem_mem hlt)
   have hR := hcodes i hlt
   obtain ⟨b, hbb, hbl, _⟩ := hR.body
   have hrp := hR.rp
   have hrc := hR.rc
   have hbad : (zbx c c.exprs.length (c.codes[i]).body.toNat (zcI c c.codes[i])).1 = false → ¬ ScP c := fun h hh => by rw [hh i hlt] at h; cases h
   have hgd : (zbx c c.exprs.length (c.codes[i]).body.toNat (zcI c c.codes[i])).1 = true → ∀ j (h : j < c.codes.length), j < i + 1 → (zbx c c.exprs.length (c.codes[j]).body.toNat (zcI c c.codes[j])).1 = true := fun h j hj hji => by
    by_cases e : j = i
    ·subst e; exact h
    ·exact hok j hj (by omega)
   generalize hf : c.codes[i] = f at *
   rw [hbb, Int.toNat_natCast] at hbad hgd
   have g0 := vH0 H c S T M m
   have g5 := vH5 H c S T M m
   have g50 : ∀ J, (vH H c S T M m ++ J)[H.length + 5]? = J[0]? := fun J => by have := g5 0 J; simpa using this
   simp [zn6, hlt, hf, hcat, zbd, g0, zaG]
   simp only [zbc, Int.toNat_natCast, zeb]
   refine ⟨⟨by omega, by omega, by omega, by omega⟩, ?_⟩
   simp [g0, g50, zaG]
   obtain ⟨B, hB⟩ : ∃ B, B = vH H c S T M m ++ [.cells [.str f.name, .sl (ints f.params) .none, .sl (ints f.capt) .none, .int .i64 f.res.kind, .int .i64 f.res.num, .sl (VT.css f.res.kids) .none, .int .i64 f.body]] := ⟨_, rfl⟩
   have hBl : B.length = H.length + 6 := by rw [hB]; simp
   have hset : ∀ st st', (B ++ [boB st]).set (H.length + 6) (boB st') = B ++ [boB st'] := fun st st' => by rw [← hBl]; simp
   have hget : ∀ st, (B ++ [boB st])[H.length + 6]? = some (boB st) := fun st => by rw [← hBl]; simp
   have hb0 : ∀ st, (B ++ [boB st])[H.length]? = some (.cells (zaG c)) := fun st => by rw [hB, List.append_assoc]; exact g0 _
   have hb5 : ∀ st, (B ++ [boB st])[H.length + 5]? = some (.cells [.str f.name, .sl (ints f.params) .none, .sl (ints f.capt) .none, .int .i64 f.res.kind, .int .i64 f.res.num, .sl (VT.css f.res.kids) .none, .int .i64 f.body]) := fun st => by rw [hB, List.append_assoc, g50]; rfl
   have hHB : ∀ st, vH H c S T M m ++ [.cells [.str f.name, .sl (ints f.params) .none, .sl (ints f.capt) .none, .int .i64 f.res.kind, .int .i64 f.res.num, .sl (VT.css f.res.kids) .none, .int .i64 f.body], .cells (zaQ st)] = B ++ [boB st] := fun st => by rw [hB]; simp [boB]
   rw [hHB]
   refine zhD (hget _) (by simp) (by omega) hrp _ ?_
   rw [hset]
   simp [hb5]
   refine zhD (hget _) (by simp) (by omega) hrc _ ?_
   rw [hset]
   simp [hb0, hb5, zaG, hbb]
   refine zzm hp (fun i h => (hexprs i h).vars) c.exprs.length b (by omega) hbl (zcI c f) _ _ (hget _) (by simp [zcI]) _ ?_
   rw [hset]
   cases hv : (zbx c c.exprs.length b (zcI c f)).1 with
   | false =>
    simp
    rw [hB, List.append_assoc]
    exact hbJ _ (by simp; exact hbad hv) _
   | true =>
    simp
    rw [zaq (by omega) (by omega), hB, List.append_assoc]
    refine hKb _ _ ⟨c.codes.length - (i + 1), by omega, Back.at (H2 := vH H c S T M m) rfl (by simp) (zd3 hs _ _ _ _ _) ?_ ⟨_, rfl, i + 1, by omega, rfl, by simp, hgd hv, rfl⟩⟩
    simp [zjg, AV.sc, AV.scV, AV.scA, AV.scB]
  ·obtain rfl : i = c.codes.length := by omega
   simp [zn6]
   have := hbJ true (by simp; exact fun j hj => hok j hj hj) []
   simpa using this
structure RuP (c : Cor) : Prop where
 rules : ∀ i (h : i < c.exprs.length), zdi c c.exprs[i] = true
 sc : ScP c
theorem zyL {c : Cor} (hc : zaR c) (hvars : ∀ v ∈ c.vars, zav c.data 0 v = true) (hcodes : ∀ i (h : i < c.codes.length), RCode c i c.codes[i]) (hexprs : ∀ i (h : i < c.exprs.length), RExpr c i c.exprs[i]) {H : zaa} (hs : HSc H) {S T M : List Int} {m : Nat} (K : AV → zaa → Prop) (hb : ∀ b : Bool, (b = true ↔ RuP c) → ∀ J, Out H.length K (.bool b) (H ++ J)) :
  zoc (.ptr H.length 0) (.int .i64 c.exprs.length) (.int .i64 0) (vH H c S T M m) (Out H.length K) := by
 have hbJ : ∀ b : Bool, (b = true ↔ RuP c) → ∀ J, Out H.length K (.bool b) (vH H c S T M m ++ J) := fun b h J => by rw [vH, List.append_assoc]; exact hb b h _
 have hc' := hc
 obtain ⟨k1, k2, k3, ⟨k4, k5⟩, k6, k7⟩ := hc
 have hex : ∀ i (h : i < c.exprs.length), ExIn c c.exprs[i] := fun i h => ⟨hc', k7 _ (List.getElem_mem h), (hexprs i h).vars, (hexprs i h).range, (hexprs i h).bk, (hexprs i h).binds, fun f hf => by
  obtain ⟨j, hj, rfl⟩ := List.getElem_of_mem hf
  exact ⟨(hcodes j hj).rp, (hcodes j hj).rc⟩, hvars⟩
 refine zDz (Inv := fun q t311 H' => ∃ i : Nat, i ≤ c.exprs.length ∧ q = c.exprs.length - i ∧ t311 = .int .i64 i ∧ (∀ j (h : j < c.exprs.length), j < i → zdi c c.exprs[j] = true) ∧ H' = vH H c S T M m) c.exprs.length ?_ ?_
 ·intro _; exact ⟨0, by omega, by omega, rfl, by omega, rfl⟩
 ·rintro q t311 H' ⟨i, hi, rfl, rfl, hok, rfl⟩ hsc hlen hsF Kb hKb
  have g0 : ∀ h, (vH H c S T M m)[H.length]'h = .cells (zaG c) := fun h => by simp [vH]
  by_cases hlt : i < c.exprs.length
  ·have hat : (c.exprs[i]).cs = [.int .i64 (c.exprs[i]).op, .int .i64 (c.exprs[i]).num, .sl (ints (c.exprs[i]).vars) .none, .sl (rows (c.exprs[i]).binds) .none, .sl (ints (c.exprs[i]).kids) .none, .int .i64 (c.exprs[i]).ty.kind, .int .i64 (c.exprs[i]).ty.num, .sl (VT.css (c.exprs[i]).ty.kids) .none] := by rw [CEx.cs, zas]
   have hcc : c.cs = [.sl (c.data.map Dat.cs) .none, .sl (c.codes.map Cod.cs) .none, .sl (VT.css c.vars) .none, .sl (c.exprs.map CEx.cs) .none] := rfl
   simp [zn5, hlt, g0, zaG, hat, zal]
   rw [← hcc, ← hat]
   refine zdb (.bool (zdi c c.exprs[i])) _ (zzd (hex i hlt) (fun h => by obtain ⟨h1, h2⟩ := (hexprs i hlt).lam h; exact ⟨(c.exprs[i]).num.toNat, by omega, by omega⟩) _ _ ⟨rfl, rfl⟩) ?_
   cases hr : zdi c c.exprs[i] with
   | false =>
    simp
    have := hbJ false (by simp; intro h; have := h.rules i hlt; rw [hr] at this; cases this) []
    simpa using this
   | true =>
    simp
    rw [zaq (by omega) (by omega)]
    refine hKb _ _ ⟨c.exprs.length - (i + 1), by omega, Back.here (by simp) (zd3 hs _ _ _ _ _) ?_ ⟨_, rfl, i + 1, by omega, rfl, by simp, fun j hj hji => ?_, rfl⟩⟩
    ·simp [zjf, AV.sc, AV.scV, AV.scA, AV.scB]
    ·by_cases e : j = i
     ·subst e; exact hr
     ·exact hok j hj (by omega)
  ·obtain rfl : i = c.exprs.length := by omega
   simp [zn5, g0, zaG]
   refine zyM hc' hcodes hexprs hs K fun b h J => hb b ?_ J
   rw [h]
   exact ⟨fun h => ⟨fun j hj => hok j hj hj, h⟩, fun h => h.sc⟩
structure MaP (c : Cor) (M : List Int) : Prop where
 made : ∀ i (h : i < c.codes.length), M.count (i : Int) = if (c.codes[i]).name = [] then 1 else 0
 ru : RuP c
theorem zyK {c : Cor} (hc : zaR c) (hvars : ∀ v ∈ c.vars, zav c.data 0 v = true) (hcodes : ∀ i (h : i < c.codes.length), RCode c i c.codes[i]) (hexprs : ∀ i (h : i < c.exprs.length), RExpr c i c.exprs[i]) {H : zaa} (hs : HSc H) {S T M : List Int} {m : Nat} (K : AV → zaa → Prop) (hb : ∀ b : Bool, (b = true ↔ MaP c M) → ∀ J, Out H.length K (.bool b) (H ++ J)) :
  zob (.ptr H.length 0) (.ms (H.length + 3) 0 c.codes.length c.codes.length) (.int .i64 c.codes.length) (.int .i64 0) (vH H c S T M m) (Out H.length K) := by
 have hF : ¬ MaP c M → Out H.length K (.bool false) (vH H c S T M m) := fun h => by have := hb false (by simp [h]) [.cells (zaG c), usB (cnt c.vars.length S), usB (cnt c.exprs.length T), usB (cnt c.codes.length M), .perm zbB 1 m]; exact this
 have hc' := hc
 obtain ⟨k1, k2, k3, ⟨k4, k5⟩, k6, k7⟩ := hc
 refine zDy (Inv := fun q t278 H' => ∃ i : Nat, i ≤ c.codes.length ∧ q = c.codes.length - i ∧ t278 = .int .i64 i ∧ (∀ j (h : j < c.codes.length), j < i → M.count (j : Int) = if (c.codes[j]).name = [] then 1 else 0) ∧ H' = vH H c S T M m) c.codes.length ?_ ?_
 ·intro _; exact ⟨0, by omega, by omega, rfl, by omega, rfl⟩
 ·rintro q t278 H' ⟨i, hi, rfl, rfl, hok, rfl⟩ hsc hlen hsF Kb hKb
  have g0 : ∀ h, (vH H c S T M m)[H.length]'h = .cells (zaG c) := fun h => by simp [vH]
  have g3 : ∀ h, (vH H c S T M m)[H.length + 3]'h = .cells ((cnt c.codes.length M).map fun n => .int .i64 n) := fun h => by simp [vH, usB]
  by_cases hlt : i < c.codes.length
  ·have hel : i < (cnt c.codes.length M).length := by simpa using hlt
   have hcat : (c.codes[i]).cs = zbd c.codes[i] := zfu _
   have hu1 : ∀ k : AV → Prop, zaK false 1 i ((cnt c.codes.length M).map fun n => AV.int .i64 n) k = k (.int .i64 ((M.count (i : Int) : Nat) : Int)) := fun k => by rw [zeG 1 (zeZ hel), zdR]
   have good : (M.count (i : Int) = if (c.codes[i]).name = [] then 1 else 0) → Kb (zgO (.ptr H.length 0) (.ms (H.length + 3) 0 c.codes.length c.codes.length) (.int .i64 c.codes.length) (.int .i64 ((i : Int) + 1))) (vH H c S T M m) := fun h => by
    refine hKb _ _ ⟨c.codes.length - (i + 1), by omega, Back.here (by simp) (zd3 hs _ _ _ _ _) ?_ ⟨_, rfl, i + 1, by omega, rfl, by simp, fun j hj hji => ?_, rfl⟩⟩
    ·simp [zgO, AV.sc, AV.scV, AV.scA, AV.scB]
    ·by_cases e : j = i
     ·subst e; exact h
     ·exact hok j hj (by omega)
   have bad : ¬ (M.count (i : Int) = if (c.codes[i]).name = [] then 1 else 0) → ¬ MaP c M := fun h hh => h (hh.made i hlt)
   cases hnm : (c.codes[i]).name.isEmpty with
   | true =>
    have hn : (c.codes[i]).name = [] := by simpa using hnm
    rw [if_pos hn] at good bad
    by_cases h1 : M.count (i : Int) = 1
    ·have h1' : ((M.count (i : Int) : Int) != 1) = false := by simp [h1]
     simp [zfW, hlt, g0, g3, hu1, zaG, hcat, zbd, hnm, h1']
     rw [zaq (by omega) (by omega)]
     exact good h1
    ·have h1' : ((M.count (i : Int) : Int) != 1) = true := nbt (by omega)
     simp [zfW, hlt, g0, g3, hu1, zaG, hcat, zbd, hnm, h1']
     exact hF (bad h1)
   | false =>
    have hn : (c.codes[i]).name ≠ [] := by intro h; simp [h] at hnm
    rw [if_neg hn] at good bad
    by_cases h1 : M.count (i : Int) = 0
    ·have h1' : ((M.count (i : Int) : Int) != 0) = false := by simp [h1]
     simp [zfW, hlt, g0, g3, hu1, zaG, hcat, zbd, hnm, h1']
     rw [zaq (by omega) (by omega)]
     exact good h1
    ·have h1' : ((M.count (i : Int) : Int) != 0) = true := nbt (by omega)
     simp [zfW, hlt, g0, g3, hu1, zaG, hcat, zbd, hnm, h1']
     exact hF (bad h1)
  ·obtain rfl : i = c.codes.length := by omega
   simp [zfW, g0, zaG]
   refine zyL hc' hvars hcodes hexprs hs K fun b h J => hb b ?_ J
   rw [h]
   exact ⟨fun h => ⟨fun j hj => hok j hj hj, h⟩, fun h => h.ru⟩
structure PlP (c : Cor) (T M : List Int) : Prop where
 placed : ∀ v : Nat, v < c.exprs.length → T.count (v : Int) = 1
 ma : MaP c M
theorem zyJ {c : Cor} (hc : zaR c) (hvars : ∀ v ∈ c.vars, zav c.data 0 v = true) (hcodes : ∀ i (h : i < c.codes.length), RCode c i c.codes[i]) (hexprs : ∀ i (h : i < c.exprs.length), RExpr c i c.exprs[i]) {H : zaa} (hs : HSc H) {S T M : List Int} {m : Nat} (K : AV → zaa → Prop) (hb : ∀ b : Bool, (b = true ↔ PlP c T M) → ∀ J, Out H.length K (.bool b) (H ++ J)) :
  zoa (.ptr H.length 0) (.ms (H.length + 3) 0 c.codes.length c.codes.length) (.ms (H.length + 2) 0 c.exprs.length c.exprs.length) (.int .i64 c.exprs.length) (.int .i64 0) (vH H c S T M m) (Out H.length K) := by
 have hF : ¬ PlP c T M → Out H.length K (.bool false) (vH H c S T M m) := fun h => by have := hb false (by simp [h]) [.cells (zaG c), usB (cnt c.vars.length S), usB (cnt c.exprs.length T), usB (cnt c.codes.length M), .perm zbB 1 m]; exact this
 have hc' := hc
 obtain ⟨k1, k2, k3, ⟨k4, k5⟩, k6, k7⟩ := hc
 refine zDx (Inv := fun q t269 H' => ∃ i : Nat, i ≤ c.exprs.length ∧ q = c.exprs.length - i ∧ t269 = .int .i64 i ∧ (∀ j, j < i → T.count (j : Int) = 1) ∧ H' = vH H c S T M m) c.exprs.length ?_ ?_
 ·intro _; exact ⟨0, by omega, by omega, rfl, by omega, rfl⟩
 ·rintro q t269 H' ⟨i, hi, rfl, rfl, hok, rfl⟩ hsc hlen hsF Kb hKb
  have g3 : ∀ h, (vH H c S T M m)[H.length + 2]'h = .cells ((cnt c.exprs.length T).map fun n => .int .i64 n) := fun h => by simp [vH, usB]
  by_cases hlt : i < c.exprs.length
  ·have hel : i < (cnt c.exprs.length T).length := by simpa using hlt
   have hu1 : ∀ k : AV → Prop, zaK false 1 i ((cnt c.exprs.length T).map fun n => AV.int .i64 n) k = k (.int .i64 ((T.count (i : Int) : Nat) : Int)) := fun k => by rw [zeG 1 (zeZ hel), zdR]
   by_cases h1 : T.count (i : Int) = 1
   ·have h1' : ((T.count (i : Int) : Int) != 1) = false := by simp [h1]
    simp [zi6, hlt, g3, hu1, h1']
    rw [zaq (by omega) (by omega)]
    refine hKb _ _ ⟨c.exprs.length - (i + 1), by omega, Back.here (by simp) (zd3 hs _ _ _ _ _) ?_ ⟨_, rfl, i + 1, by omega, rfl, by simp, fun j hji => ?_, rfl⟩⟩
    ·simp [zje, AV.sc, AV.scV, AV.scA, AV.scB]
    ·by_cases e : j = i
     ·subst e; exact h1
     ·exact hok j (by omega)
   ·have h1' : ((T.count (i : Int) : Int) != 1) = true := nbt (by omega)
    simp [zi6, hlt, g3, hu1, h1']
    exact hF fun h => h1 (h.placed i hlt)
  ·obtain rfl : i = c.exprs.length := by omega
   simp [zi6]
   refine zyK hc' hvars hcodes hexprs hs K fun b h J => hb b ?_ J
   rw [h]
   exact ⟨fun h => ⟨hok, h⟩, fun h => h.ma⟩
structure BoP (c : Cor) (S T M : List Int) : Prop where
 bound : ∀ v : Nat, v < c.vars.length → S.count (v : Int) = 1
 pl : PlP c T M
theorem zyI {c : Cor} (hc : zaR c) (hvars : ∀ v ∈ c.vars, zav c.data 0 v = true) (hcodes : ∀ i (h : i < c.codes.length), RCode c i c.codes[i]) (hexprs : ∀ i (h : i < c.exprs.length), RExpr c i c.exprs[i]) {H : zaa} (hs : HSc H) {S T M : List Int} {m : Nat} (K : AV → zaa → Prop) (hb : ∀ b : Bool, (b = true ↔ BoP c S T M) → ∀ J, Out H.length K (.bool b) (H ++ J)) :
  zn9 (.ptr H.length 0) (.ms (H.length + 2) 0 c.exprs.length c.exprs.length) (.ms (H.length + 3) 0 c.codes.length c.codes.length) (.ms (H.length + 1) 0 c.vars.length c.vars.length) (.int .i64 c.vars.length) (.int .i64 0) (vH H c S T M m) (Out H.length K) := by
 have hF : ¬ BoP c S T M → Out H.length K (.bool false) (vH H c S T M m) := fun h => by have := hb false (by simp [h]) [.cells (zaG c), usB (cnt c.vars.length S), usB (cnt c.exprs.length T), usB (cnt c.codes.length M), .perm zbB 1 m]; exact this
 have hc' := hc
 obtain ⟨k1, k2, k3, ⟨k4, k5⟩, k6, k7⟩ := hc
 refine zDw (Inv := fun q t260 H' => ∃ i : Nat, i ≤ c.vars.length ∧ q = c.vars.length - i ∧ t260 = .int .i64 i ∧ (∀ j, j < i → S.count (j : Int) = 1) ∧ H' = vH H c S T M m) c.vars.length ?_ ?_
 ·intro _; exact ⟨0, by omega, by omega, rfl, by omega, rfl⟩
 ·rintro q t260 H' ⟨i, hi, rfl, rfl, hok, rfl⟩ hsc hlen hsF Kb hKb
  have g3 : ∀ h, (vH H c S T M m)[H.length + 1]'h = .cells ((cnt c.vars.length S).map fun n => .int .i64 n) := fun h => by simp [vH, usB]
  by_cases hlt : i < c.vars.length
  ·have hel : i < (cnt c.vars.length S).length := by simpa using hlt
   have hu1 : ∀ k : AV → Prop, zaK false 1 i ((cnt c.vars.length S).map fun n => AV.int .i64 n) k = k (.int .i64 ((S.count (i : Int) : Nat) : Int)) := fun k => by rw [zeG 1 (zeZ hel), zdR]
   by_cases h1 : S.count (i : Int) = 1
   ·have h1' : ((S.count (i : Int) : Int) != 1) = false := by simp [h1]
    simp [zi5, hlt, g3, hu1, h1']
    rw [zaq (by omega) (by omega)]
    refine hKb _ _ ⟨c.vars.length - (i + 1), by omega, Back.here (by simp) (zd3 hs _ _ _ _ _) ?_ ⟨_, rfl, i + 1, by omega, rfl, by simp, fun j hji => ?_, rfl⟩⟩
    ·simp [zjd, AV.sc, AV.scV, AV.scA, AV.scB]
    ·by_cases e : j = i
     ·subst e; exact h1
     ·exact hok j (by omega)
   ·have h1' : ((S.count (i : Int) : Int) != 1) = true := nbt (by omega)
    simp [zi5, hlt, g3, hu1, h1']
    exact hF fun h => h1 (h.bound i hlt)
  ·obtain rfl : i = c.vars.length := by omega
   simp [zi5]
   refine zyJ hc' hvars hcodes hexprs hs K fun b h J => hb b ?_ J
   rw [h]
   exact ⟨fun h => ⟨hok, h⟩, fun h => h.pl⟩
theorem zrW {c : Cor} (hc : zaR c) (i : Nat) : (zaS c i).length ≤ 1200 := by
 obtain ⟨k1, k2, k3, ⟨k4, k5⟩, k6, k7⟩ := hc
 have h := zdf (fun f : Cod => f.params ++ f.capt) 50 (c.codes.take i) (fun f hf => by
  obtain ⟨_, h1, h2, _⟩ := k6 f (List.mem_of_mem_take hf)
  rw [List.length_append]; omega)
 have h2 : (c.codes.take i).length * 50 ≤ 24 * 50 := Nat.mul_le_mul_right _ (by rw [List.length_take]; omega)
 rw [zaS]; omega
theorem zq8 (l : List (List Int)) (h : ∀ r ∈ l, r.length ≤ 10) : l.flatten.length ≤ l.length * 10 := by
 have := zdf (fun r : List Int => r) 10 l h
 simpa [List.flatMap] using this
theorem zw0 {c : Cor} (hc : zaR c) (i : Nat) : (zbA c i).length ≤ 16000 := by
 obtain ⟨k1, k2, k3, ⟨k4, k5⟩, k6, k7⟩ := hc
 have h := zdf (fun e : CEx => e.binds.flatten) 100 (c.exprs.take i) (fun e he => by
  obtain ⟨_, h1, _, _, h2⟩ := k7 e (List.mem_of_mem_take he)
  have := zq8 e.binds h2
  have : e.binds.length * 10 ≤ 10 * 10 := Nat.mul_le_mul_right _ h1
  omega)
 have h2 : (c.exprs.take i).length * 100 ≤ 160 * 100 := Nat.mul_le_mul_right _ (by rw [List.length_take]; omega)
 rw [zbA]; omega
theorem zx2 {c : Cor} (hc : zaR c) (i : Nat) : (zbe c i).length ≤ 1600 := by
 obtain ⟨k1, k2, k3, ⟨k4, k5⟩, k6, k7⟩ := hc
 have h := zdf CEx.kids 10 (c.exprs.take i) (fun e he => (k7 e (List.mem_of_mem_take he)).2.2.1)
 have h2 : (c.exprs.take i).length * 10 ≤ 160 * 10 := Nat.mul_le_mul_right _ (by rw [List.length_take]; omega)
 rw [zbe]; omega
theorem zqB {c : Cor} (hc : zaR c) (i : Nat) : (zaN c i).length ≤ 24 := by
 obtain ⟨k1, k2, k3, ⟨k4, k5⟩, k6, k7⟩ := hc
 simp [zaN]; omega
theorem zx3 {c : Cor} {i : Nat} (h : i < c.exprs.length) : zbe c (i + 1) = zbe c i ++ (c.exprs[i]).kids := by
 rw [zbe, zbM h, List.flatMap_append]; simp [zbe]
theorem zrq {c : Cor} {i : Nat} (h : i < c.exprs.length) : zb3 (c.exprs.take (i + 1)) = zb3 (c.exprs.take i) ++ (if (c.exprs[i]).op = 11 then [(c.exprs[i]).num] else []) := by
 rw [zb3, zbM h, List.filter_append, List.map_append, zb3]
 by_cases h1 : (c.exprs[i]).op = 11
 ·simp [h1]
 ·simp [h1]
theorem zya (l : List CEx) : (zb3 l).length ≤ l.length := by
 rw [zb3, List.length_map]; exact List.length_filter_le _ _
structure ExP (c : Cor) : Prop where
 exprs : ∀ i (h : i < c.exprs.length), RExpr c i c.exprs[i]
 bo : BoP c (zbS c) (zbG c) (zb3 c.exprs)
theorem zyH {c : Cor} (hc : zaR c) (hvars : ∀ v ∈ c.vars, zav c.data 0 v = true) (hcodes : ∀ i (h : i < c.codes.length), RCode c i c.codes[i]) {H : zaa} (hs : HSc H) {m : Nat} (K : AV → zaa → Prop) (hb : ∀ b : Bool, (b = true ↔ ExP c) → ∀ J, Out H.length K (.bool b) (H ++ J)) :
  zn8 (.ptr H.length 0) (.ms (H.length + 1) 0 c.vars.length c.vars.length) (.ms (H.length + 2) 0 c.exprs.length c.exprs.length) (.ms (H.length + 3) 0 c.codes.length c.codes.length) (.sl (c.exprs.map CEx.cs) .none) (.int .i64 c.exprs.length) (.int .i64 0)
   (vH H c (zaS c c.codes.length) (zaN c c.codes.length) [] m) (Out H.length K) := by
 have hF : ¬ ExP c → ∀ S T M J, Out H.length K (.bool false) (vH H c S T M m ++ J) := fun h S T M J => by rw [vH, List.append_assoc]; exact hb false (by simp [h]) _
 have hc' := hc
 obtain ⟨k1, k2, k3, ⟨k4, k5⟩, k6, k7⟩ := hc
 have lp := zrW hc' c.codes.length
 have lb := zqB hc' c.codes.length
 refine zDr (Inv := fun q t177 H' => ∃ i : Nat, i ≤ c.exprs.length ∧ q = c.exprs.length - i ∧ t177 = .int .i64 i ∧ (∀ j (h : j < c.exprs.length), j < i → RExpr c j c.exprs[j]) ∧ H' = vH H c (zaS c c.codes.length ++ zbA c i) (zaN c c.codes.length ++ zbe c i) (zb3 (c.exprs.take i)) m) c.exprs.length ?_ ?_
 ·intro _; exact ⟨0, by omega, by omega, rfl, by omega, by simp [zbA, zbe, zb3]⟩
 rintro q t177 H' ⟨i, hi, rfl, rfl, hok, rfl⟩ hsc hlen hsF Kb hKb
 have lbi := zw0 hc' i
 have lki := zx2 hc' i
 have lmi := zya (c.exprs.take i)
 rw [List.length_take] at lmi
 by_cases hlt : i < c.exprs.length
 ·have hbad : ¬ RExpr c i c.exprs[i] → ∀ S T M J, Out H.length K (.bool false) (vH H c S T M m ++ J) := fun h => hF fun hh => h (hh.exprs i hlt)
  have hbs := zqA hlt
  have hks := zx3 hlt
  have hls := zrq hlt
  obtain ⟨kv, kb, kk, _, kbl⟩ := k7 _ (List.getElem_mem hlt)
  have hat : (c.exprs[i]).cs = [.int .i64 (c.exprs[i]).op, .int .i64 (c.exprs[i]).num, .sl (ints (c.exprs[i]).vars) .none, .sl (rows (c.exprs[i]).binds) .none, .sl (ints (c.exprs[i]).kids) .none, .int .i64 (c.exprs[i]).ty.kind, .int .i64 (c.exprs[i]).ty.num, .sl (VT.css (c.exprs[i]).ty.kids) .none] := by rw [CEx.cs, zas]
  have hgood : RExpr c i c.exprs[i] → ∀ j (h : j < c.exprs.length), j < i + 1 → RExpr c j c.exprs[j] := fun h j hj hji => by
   by_cases e : j = i
   ·subst e; exact h
   ·exact hok j hj (by omega)
  generalize hE : c.exprs[i] = E at *
  generalize hS : zaS c c.codes.length ++ zbA c i = S at *
  generalize hT : zaN c c.codes.length ++ zbe c i = T at *
  generalize hM : zb3 (c.exprs.take i) = M at *
  have lS : S.length ≤ 20000 := by rw [← hS, List.length_append]; omega
  have lT : T.length ≤ 2000 := by rw [← hT, List.length_append]; omega
  have lfl : ∀ j, (E.binds.take j).flatten.length ≤ 100 := fun j => by
   have := zq8 (E.binds.take j) (fun r hr => kbl r (List.mem_of_mem_take hr))
   have : (E.binds.take j).length * 10 ≤ 10 * 10 := Nat.mul_le_mul_right _ (by rw [List.length_take]; omega)
   omega
  obtain ⟨X, hX⟩ : ∃ X, X = AB.cells [.int .i64 E.op, .int .i64 E.num, .sl (ints E.vars) .none, .sl (rows E.binds) .none, .sl (ints E.kids) .none, .int .i64 E.ty.kind, .int .i64 E.ty.num, .sl (VT.css E.ty.kids) .none] := ⟨_, rfl⟩
  have g5 : ∀ S T M, (vH H c S T M m ++ [X])[H.length + 5]? = some X := fun S T M => by have := vH5 H c S T M m 0 [X]; rw [Nat.add_zero] at this; exact this
  have hscX : ∀ S T M, HSc (vH H c S T M m ++ [X]) := fun S T M => (zd3 hs c S T M m).snoc (by rw [hX]; simp [AB.sc, AV.scA, AV.scB])
  simp [zn2, hlt, hE, hat]
  rw [← hX]
  refine zDs (Inv := fun q t185 H' => ∃ j : Nat, j ≤ E.kids.length ∧ q = E.kids.length - j ∧ t185 = .int .i64 j ∧ (∀ k ∈ E.kids.take j, (i : Int) < k) ∧ H' = vH H c S T M m ++ [X]) E.kids.length ?_ ?_
  ·intro _; exact ⟨0, by omega, by omega, rfl, by simp, rfl⟩
  rintro q t185 H' ⟨j, hj, rfl, rfl, hk1, rfl⟩ hsc1 hlen1 hsF1 Kb1 hKb1
  by_cases hjl : j < E.kids.length
  ·by_cases hle : E.kids[j] ≤ i
   ·simp [zi4, hjl, hle]
    exact hbad (fun h => by have := h.kids _ (List.getElem_mem hjl); omega) _ _ _ _
   ·simp [zi4, hjl, hle]
    rw [zaq (by omega) (by omega)]
    refine hKb1 _ _ ⟨E.kids.length - (j + 1), by omega, Back.here (by simp) (hscX _ _ _) ?_ ⟨_, rfl, j + 1, by omega, rfl, by simp, zb9 hjl hk1 (by omega), rfl⟩⟩
    simp [zi9, AV.sc, AV.scV, AV.scA, AV.scB]; omega
  obtain rfl : j = E.kids.length := by omega
  rw [List.take_length] at hk1
  simp [zi4, g5]
  rw [hX]
  simp
  rw [← hX]
  refine zed (vH2 _ _ _ _ _ _ _) (by omega) _ (fun hr => ?_) (fun hr => ?_)
  rotate_left
  ·rw [ziq]
   simp
   exact hbad (fun h => hr h.range) _ _ _ _
  rw [ziq]
  by_cases hbk : E.binds.length ≠ E.kids.length
  ·have h1 : ((E.binds.length : Int) != E.kids.length) = true := nbt (by omega)
   simp [g5]
   rw [hX]
   simp [h1]
   exact hbad (fun h => hbk h.bk) _ _ _ _
  have hbk' : E.binds.length = E.kids.length := by omega
  have h1 : ((E.binds.length : Int) != E.kids.length) = false := by simp [hbk']
  simp [g5]
  rw [hX]
  simp [h1, hbk']
  rw [← hX, ← hbk']
  refine zDt (Inv := fun q t210 H' => ∃ j : Nat, j ≤ E.binds.length ∧ q = E.binds.length - j ∧ t210 = .int .i64 j ∧ (∀ l ∈ E.binds.take j, inV c l) ∧ H' = vH H c (S ++ (E.binds.take j).flatten) (T ++ E.kids) M m ++ [X]) E.binds.length ?_ ?_
  ·intro _; exact ⟨0, by omega, by omega, rfl, by simp, by simp⟩
  rintro q t210 H' ⟨j, hj, rfl, rfl, hb2, rfl⟩ hsc2 hlen2 hsF2 Kb2 hKb2
  by_cases hjl : j < E.binds.length
  ·have hbl := kbl _ (List.getElem_mem hjl)
   have hfl := lfl j
   simp [zn3, hjl]
   refine zed (vH1 _ _ _ _ _ _ _) (by rw [List.length_append]; omega) _ (fun hr => ?_) (fun hr => ?_)
   ·rw [zfR]
    simp
    rw [zaq (by omega) (by omega)]
    have hnx : S ++ ((E.binds.take j).flatten ++ E.binds[j]) = S ++ (E.binds.take (j + 1)).flatten := by
     rw [zbM hjl, List.flatten_append]; simp
    rw [hnx]
    refine hKb2 _ _ ⟨E.binds.length - (j + 1), by omega, Back.here (by simp) (hscX _ _ _) ?_ ⟨_, rfl, j + 1, by omega, rfl, by simp, zb9 hjl hb2 hr, rfl⟩⟩
    simp [zja, AV.sc, AV.scV, AV.scA, AV.scB]; omega
   ·rw [zfR]
    simp
    exact hbad (fun h => hr (h.binds _ (List.getElem_mem hjl))) _ _ _ _
  obtain rfl : j = E.binds.length := by omega
  rw [List.take_length] at *
  simp [zn3, g5]
  rw [hX]
  simp
  rw [← hX]
  refine zDv (Inv := fun q t222 H' => ∃ j : Nat, j ≤ E.vars.length ∧ q = E.vars.length - j ∧ t222 = .int .i64 j ∧ (∀ x ∈ E.vars.take j, 0 ≤ x ∧ x < (c.vars.length : Int)) ∧ H' = vH H c (S ++ E.binds.flatten) (T ++ E.kids) M m ++ [X]) E.vars.length ?_ ?_
  ·intro _; exact ⟨0, by omega, by omega, rfl, by simp, rfl⟩
  rintro q t222 H' ⟨j, hj, rfl, rfl, hv1, rfl⟩ hsc3 hlen3 hsF3 Kb3 hKb3
  have g0 := vH0 H c (S ++ E.binds.flatten) (T ++ E.kids) M m
  by_cases hjl : j < E.vars.length
  ·by_cases h0 : E.vars[j] < 0
   ·simp [zew, hjl, h0]
    exact hbad (fun h => by have := h.vars _ (List.getElem_mem hjl); omega) _ _ _ _
   by_cases hge : (c.vars.length : Int) ≤ E.vars[j]
   ·simp [zew, hjl, h0, g0, zaG, hge]
    exact hbad (fun h => by have := h.vars _ (List.getElem_mem hjl); omega) _ _ _ _
   simp [zew, hjl, h0, g0, zaG, hge]
   rw [zaq (by omega) (by omega)]
   refine hKb3 _ _ ⟨E.vars.length - (j + 1), by omega, Back.here (by simp) (hscX _ _ _) ?_ ⟨_, rfl, j + 1, by omega, rfl, by simp, zb9 hjl hv1 (by omega), rfl⟩⟩
   simp [zjc, AV.sc, AV.scV, AV.scA, AV.scB]; omega
  obtain rfl : j = E.vars.length := by omega
  rw [List.take_length] at hv1
  have back : ∀ M', zb3 (c.exprs.take (i + 1)) = M' → RExpr c i E → zji (.ptr H.length 0) (.ms (H.length + 1) 0 c.vars.length c.vars.length) (.ms (H.length + 2) 0 c.exprs.length c.exprs.length) (.ms (H.length + 3) 0 c.codes.length c.codes.length) (.sl (c.exprs.map CEx.cs) .none) (.int .i64 c.exprs.length) (.int .i64 i) (vH H c (S ++ E.binds.flatten) (T ++ E.kids) M' m ++ [X]) (Out H.length K) Kb := fun M' hM' hR => by
   simp [zji, ztH]
   rw [zaq (by omega) (by omega)]
   refine hKb _ _ ⟨c.exprs.length - (i + 1), by omega, Back.at (J := [X]) (H2 := vH H c (S ++ E.binds.flatten) (T ++ E.kids) M' m) rfl (by simp) (zd3 hs _ _ _ _ _) ?_ ⟨_, rfl, i + 1, by omega, rfl, by simp, hgood hR, ?_⟩⟩
   ·simp [zi8, AV.sc, AV.scV, AV.scA, AV.scB]
   ·rw [hM', hbs, hks, ← List.append_assoc, hS, ← List.append_assoc, hT]
  by_cases h11 : E.op = 11
  ·rw [if_pos h11] at hls
   by_cases hn0 : E.num < 0
   ·simp [zew, g5]
    rw [hX]
    simp [h11, hn0]
    exact hbad (fun h => by have := (h.lam h11).1; omega) _ _ _ _
   by_cases hnc : (c.codes.length : Int) ≤ E.num
   ·simp [zew, g5, g0, zaG]
    rw [hX]
    simp [h11, hn0, g0, zaG, hnc]
    exact hbad (fun h => by have := (h.lam h11).2; omega) _ _ _ _
   obtain ⟨n, hn⟩ : ∃ n : Nat, E.num = n := ⟨E.num.toNat, by omega⟩
   have hnl : n < c.codes.length := by omega
   have hel : n < (cnt c.codes.length M).length := by simpa using hnl
   have hu1 : ∀ k : AV → Prop, zaK false 1 n ((cnt c.codes.length M).map fun n => AV.int .i64 n) k = k (.int .i64 ((M.count (n : Int) : Nat) : Int)) := fun k => by rw [zeG 1 (zeZ hel), zdR]
   have hce := List.count_le_length (a := (n : Int)) (l := M)
   have g3 : ∀ J, (vH H c (S ++ E.binds.flatten) (T ++ E.kids) M m ++ J)[H.length + 3]? = some (.cells ((cnt c.codes.length M).map fun n => .int .i64 n)) := fun J => vH3 _ _ _ _ _ _ _
   have := back (M ++ [E.num]) hls ⟨hk1, hr, hbk', hb2, hv1, fun _ => by omega⟩
   have hn0' : ¬ (n : Int) < 0 := by omega
   have hnc' : ¬ c.codes.length ≤ n := by omega
   have hs3 : ∀ M', (vH H c (S ++ E.binds.flatten) (T ++ E.kids) M m).set (H.length + 3) (.cells ((cnt c.codes.length M').map fun n => .int .i64 n)) = vH H c (S ++ E.binds.flatten) (T ++ E.kids) M' m := fun M' => by simp [vH, usB]
   have g3' : ∀ h, (vH H c (S ++ E.binds.flatten) (T ++ E.kids) M m)[H.length + 3]'h = .cells ((cnt c.codes.length M).map fun n => .int .i64 n) := fun h => by simp [vH, usB]
   rw [hn] at this
   simp [zew, g5]
   rw [hX]
   simp [h11, hn, hn0', hnc', hnl]
   rw [← hn, ← h11, ← hX]
   simp [g0, zaG, hn, hnc', g3', hu1]
   rw [zaq (by omega) (by omega), zni hel, zlG M hnl, hs3]
   exact ⟨by omega, this⟩
  ·rw [if_neg h11, List.append_nil] at hls
   have := back M hls ⟨hk1, hr, hbk', hb2, hv1, fun h => absurd h h11⟩
   simp [zew, g5]
   rw [hX]
   simp [nb h11]
   rw [← hX]
   exact this
 obtain rfl : i = c.exprs.length := by omega
 rw [List.take_length] at *
 simp [zn2]
 rw [← zqq, ← zqp]
 refine zyI hc' hvars hcodes (fun j hj => hok j hj hj) hs K fun b h J => hb b ?_ J
 rw [h]
 exact ⟨fun h => ⟨fun j hj => hok j hj hj, h⟩, fun h => h.bo⟩
theorem zyf {c : Cor} {i : Nat} (h : i < c.codes.length) : nms (c.codes.take (i + 1)) = nms (c.codes.take i) ++ (if (c.codes[i]).name.isEmpty = true then [] else [(c.codes[i]).name]) := by
 rw [nms, zbM h, List.map_append, List.filter_append, nms]
 cases h1 : (c.codes[i]).name.isEmpty <;> simp [h1]
theorem zye (l : List Cod) : (nms l).length ≤ l.length := by
 rw [nms]; exact Nat.le_trans (List.length_filter_le _ _) (by simp)
theorem zw4 {c : Cor} {i : Nat} (h : i < c.codes.length) : zaN c (i + 1) = zaN c i ++ [(c.codes[i]).body] := by
 rw [zaN, zbM h, List.map_append]; rfl
theorem zw8 {m : Int} {k : AV → Prop} : zay 1 [.int .i64 0] 1 [(0, .int .i64 m)] k = k (.sl (ints [m]) .full) := propext Iff.rfl
structure CoP (c : Cor) : Prop where
 codes : ∀ i (h : i < c.codes.length), RCode c i c.codes[i]
 names : (nms c.codes).Nodup
 ex : ExP c
theorem zyG {c : Cor} (hc : zaR c) (hvars : ∀ v ∈ c.vars, zav c.data 0 v = true) {H : zaa} (hs : HSc H) (K : AV → zaa → Prop) (hb : ∀ b : Bool, (b = true ↔ CoP c) → ∀ J, Out H.length K (.bool b) (H ++ J)) :
  zjj (.ptr H.length 0) (.ms (H.length + 1) 0 c.vars.length c.vars.length) (.ms (H.length + 2) 0 c.exprs.length c.exprs.length) (.ms (H.length + 3) 0 c.codes.length c.codes.length) (.sl [] (.own (H.length + 4))) (.sl (c.codes.map Cod.cs) .none) (.int .i64 c.codes.length) (.int .i64 0)
   (vH H c [] [] [] 0) (Out H.length K) := by
 have hF : ¬ CoP c → ∀ S T M m J, Out H.length K (.bool false) (vH H c S T M m ++ J) := fun h S T M m J => by rw [vH, List.append_assoc]; exact hb false (by simp [h]) _
 have hc' := hc
 obtain ⟨k1, k2, k3, ⟨k4, k5⟩, k6, k7⟩ := hc
 refine zDq (Inv := fun q t8 t79 H' => ∃ i : Nat, i ≤ c.codes.length ∧ q = c.codes.length - i ∧ t79 = .int .i64 i ∧ t8 = .sl (strs (nms (c.codes.take i))) (.own (H.length + 4)) ∧ (∀ j (h : j < c.codes.length), j < i → RCode c j c.codes[j]) ∧ H' = vH H c (zaS c i) (zaN c i) [] (nms (c.codes.take i)).length) c.codes.length ?_ ?_
 ·intro _; exact ⟨0, by omega, by omega, rfl, by simp [nms, strs], by omega, by simp [nms, zaS, zaN]⟩
 rintro q t8 t79 H' ⟨i, hi, rfl, rfl, rfl, hok, rfl⟩ hsc hlen hsF Kb hKb
 have lp := zrW hc' i
 have lb := zqB hc' i
 have ln := zye (c.codes.take i)
 rw [List.length_take] at ln
 by_cases hlt : i < c.codes.length
 ·have hbad : ¬ RCode c i c.codes[i] → ∀ S T M m J, Out H.length K (.bool false) (vH H c S T M m ++ J) := fun h => hF fun hh => h (hh.codes i hlt)
  have hps := zrX hlt
  have hbs := zw4 hlt
  have hns := zyf hlt
  have hcat : (c.codes[i]).cs = zbd c.codes[i] := zfu _
  obtain ⟨_, kp, kc, kr⟩ := k6 _ (List.getElem_mem hlt)
  have hgood : RCode c i c.codes[i] → ∀ j (h : j < c.codes.length), j < i + 1 → RCode c j c.codes[j] := fun h j hj hji => by
   by_cases e : j = i
   ·subst e; exact h
   ·exact hok j hj (by omega)
  generalize hf : c.codes[i] = f at *
  generalize hS : zaS c i = S at *
  generalize hT : zaN c i = T at *
  generalize hN : nms (c.codes.take i) = N at *
  have hw : IntKind.i64.wrap ((i : Int) + 1) = (i : Int) + 1 := zaq (by omega) (by omega)
  obtain ⟨X, hX⟩ : ∃ X, X = AB.cells [.str f.name, .sl (ints f.params) .none, .sl (ints f.capt) .none, .int .i64 f.res.kind, .int .i64 f.res.num, .sl (VT.css f.res.kids) .none, .int .i64 f.body] := ⟨_, rfl⟩
  have g5 : ∀ S T M m, (vH H c S T M m ++ [X])[H.length + 5]? = some X := fun S T M m => by have := vH5 H c S T M m 0 [X]; rw [Nat.add_zero] at this; exact this
  have hscX : ∀ S T M m, HSc (vH H c S T M m ++ [X]) := fun S T M m => (zd3 hs c S T M m).snoc (by rw [hX]; simp [AB.sc, AV.scA, AV.scB])
  have hNl : N.length ≤ 24 := by omega
  -- the counts
  have j3 : (f.name = [] → ∀ h : i + 1 < c.codes.length, (c.codes[i + 1]).name = []) → (f.name ≠ [] → f.capt = []) → f.params.length ≤ 6 → zav c.data 0 f.res = true → ∀ N', nms (c.codes.take (i + 1)) = N' →
    zjh (.ptr H.length 0) (.ms (H.length + 1) 0 c.vars.length c.vars.length) (.ms (H.length + 2) 0 c.exprs.length c.exprs.length) (.ms (H.length + 3) 0 c.codes.length c.codes.length) (.sl (strs N') (.own (H.length + 4))) (.ptr (H.length + 5) 0) (.sl (c.codes.map Cod.cs) .none) (.int .i64 c.codes.length) (.int .i64 i) (vH H c S T [] N'.length ++ [X]) (Out H.length K) Kb := by
   intro q1 q2 q3 q4 N' hN'
   refine zDm fun hs3 => ?_
   unfold ztE
   simp [g5]
   rw [hX]
   simp
   rw [← hX]
   by_cases hrp : inV c f.params
   ·refine zdb (.bool true) (vH H c (S ++ f.params) T [] N'.length ++ [X]) (zed (vH1 _ _ _ _ _ _ _) (by omega) _ (fun hr => ⟨rfl, zfR _ _ _ _ _ _ _ _⟩) (fun hr => absurd hrp hr)) ?_
    simp [g5]
    rw [hX]
    simp
    rw [← hX]
    by_cases hrc : inV c f.capt
    ·refine zdb (.bool true) (vH H c (S ++ f.params ++ f.capt) T [] N'.length ++ [X]) (zed (vH1 _ _ _ _ _ _ _) (by rw [List.length_append]; omega) _ (fun hr => ⟨rfl, zfR _ _ _ _ _ _ _ _⟩) (fun hr => absurd hrc hr)) ?_
     simp [g5]
     rw [hX]
     simp [zw8]
     rw [← hX]
     by_cases hbd : 0 ≤ f.body ∧ f.body < c.exprs.length
     ·refine zdb (.bool true) (vH H c (S ++ (f.params ++ f.capt)) (T ++ [f.body]) [] N'.length ++ [X]) (zed (vH2 _ _ _ _ _ _ _) (by simp; omega) _ (fun hr => ⟨rfl, ziq _ _ _ _ _ _ _ _⟩) (fun hr => absurd (by simpa using hbd) hr)) ?_
      obtain ⟨b, hbb⟩ : ∃ b : Nat, f.body = b := ⟨f.body.toNat, by omega⟩
      have hbl : b < c.exprs.length := by omega
      have hce : (c.exprs[b]).cs = zal c.exprs[b] := by rw [CEx.cs, zas]; rfl
      have hnb := (k7 _ (List.getElem_mem hbl)).2.2.2.1
      have g0 := vH0 H c (S ++ (f.params ++ f.capt)) (T ++ [f.body]) [] N'.length
      simp [g5, g0, zaG]
      rw [hX]
      simp [hbb, hbl, hce, zal]
      rw [← zas, ← zas, ← hbb]
      refine zdb (.bool ((c.exprs[b]).ty.same f.res)) _ (zdh (by omega) _ _ ⟨rfl, rfl⟩) ?_
      cases hsm : (c.exprs[b]).ty.same f.res with
      | false =>
       simp
       refine hbad (fun h => ?_) _ _ _ _ _
       obtain ⟨b', h1, h2, h3⟩ := h.body
       obtain rfl : b' = b := by omega
       rw [hsm] at h3; cases h3
      | true =>
       simp
       rw [hw]
       refine hKb _ _ ⟨c.codes.length - (i + 1), by omega, Back.at (J := [_]) (H2 := vH H c (S ++ (f.params ++ f.capt)) (T ++ [f.body]) [] N'.length) rfl (by simp) (zd3 hs _ _ _ _ _) ?_ ⟨_, _, rfl, i + 1, by omega, rfl, by simp, by rw [hN'], hgood ⟨q1, q2, q3, q4, hrp, hrc, b, hbb, hbl, hsm⟩, by rw [hN', hps, hbs]⟩⟩
       simp [zi7, AV.sc, AV.scV, AV.scA, AV.scB]
     ·refine zdb (.bool false) _ (zed (vH2 _ _ _ _ _ _ _) (by simp; omega) _ (fun hr => absurd (by simpa using hr) hbd) (fun hr => ⟨rfl, ziq _ _ _ _ _ _ _ _⟩)) ?_
      simp
      refine hbad (fun h => ?_) _ _ _ _ _
      obtain ⟨b', h1, h2, _⟩ := h.body
      exact hbd (by omega)
    ·refine zdb (.bool false) _ (zed (vH1 _ _ _ _ _ _ _) (by rw [List.length_append]; omega) _ (fun hr => absurd hr hrc) (fun hr => ⟨rfl, zfR _ _ _ _ _ _ _ _⟩)) ?_
     simp
     exact hbad (fun h => hrc h.rc) _ _ _ _ _
   ·refine zdb (.bool false) _ (zed (vH1 _ _ _ _ _ _ _) (by omega) _ (fun hr => absurd hr hrp) (fun hr => ⟨rfl, zfR _ _ _ _ _ _ _ _⟩)) ?_
    simp
    exact hbad (fun h => hrp h.rp) _ _ _ _ _
  have g0 := vH0 H c S T [] N.length
  cases hnm : f.name.isEmpty with
  | true =>
   have hn : f.name = [] := by simpa using hnm
   by_cases hI : i + 1 < c.codes.length
   ·have hI' : (i : Int) + 1 < c.codes.length := by omega
    have hto : ((i : Int) + 1).toNat = i + 1 := by omega
    have hI0 : (0 : Int) ≤ (i : Int) + 1 := by omega
    have hcat2 : (c.codes[i + 1]).cs = zbd c.codes[i + 1] := zfu _
    cases hnx : (c.codes[i + 1]).name.isEmpty with
    | false =>
     simp [zdH, hlt, hf, hcat, zbd, g0, zaG, hw, hnm, hI, hI', hto, hI0, hcat2, hnx]
     refine hbad (fun h => ?_) _ _ _ _ _
     have := h.order hn hI
     simp [this] at hnx
    | true =>
     have hnx' : (c.codes[i + 1]).name = [] := by simpa using hnx
     by_cases hp6 : 6 < f.params.length
     ·have hp6' : (6 : Int) < f.params.length := by omega
      simp [zdH, hlt, hf, hcat, zbd, g0, zaG, hw, hnm, hI, hI', hto, hI0, hcat2, hnx, hp6']
      exact hbad (fun h => by have := h.pars; omega) _ _ _ _ _
     have hp6' : ¬ (6 : Int) < f.params.length := by omega
     simp [zdH, hlt, hf, hcat, zbd, g0, zaG, hw, hnm, hI, hI', hto, hI0, hcat2, hnx, hp6']
     rw [← zas f.res]
     refine zfX c.data (by obtain ⟨k1, _⟩ := k1; omega) 0 f.res (by omega) _ _ ?_
     cases hty : zav c.data 0 f.res with
     | false => simp; exact hbad (fun h => by have := h.res; rw [hty] at this; cases this) _ _ _ _ _
     | true =>
      have fin := j3 (fun _ _ => hnx') (fun h => absurd hn h) (by omega) hty
      rw [← hX]
      have fin := fin N (by rw [hns, if_pos hnm, List.append_nil])
      simp [g5]
      rw [hX] at fin ⊢
      simp [hnm] at fin ⊢
      exact fin
   ·have hI' : ¬ (i : Int) + 1 < c.codes.length := by omega
    by_cases hp6 : 6 < f.params.length
    ·have hp6' : (6 : Int) < f.params.length := by omega
     simp [zdH, hlt, hf, hcat, zbd, g0, zaG, hw, hnm, hI', hp6']
     exact hbad (fun h => by have := h.pars; omega) _ _ _ _ _
    have hp6' : ¬ (6 : Int) < f.params.length := by omega
    simp [zdH, hlt, hf, hcat, zbd, g0, zaG, hw, hnm, hI', hp6']
    rw [← zas f.res]
    refine zfX c.data (by obtain ⟨k1, _⟩ := k1; omega) 0 f.res (by omega) _ _ ?_
    cases hty : zav c.data 0 f.res with
    | false => simp; exact hbad (fun h => by have := h.res; rw [hty] at this; cases this) _ _ _ _ _
    | true =>
     have fin := j3 (fun _ h => absurd h hI) (fun h => absurd hn h) (by omega) hty
     rw [← hX]
     have fin := fin N (by rw [hns, if_pos hnm, List.append_nil])
     simp [g5]
     rw [hX] at fin ⊢
     simp [hnm] at fin ⊢
     exact fin
  | false =>
   have hn : f.name ≠ [] := by intro h; simp [h] at hnm
   by_cases hcap : 0 < f.capt.length
   ·have hcap' : (0 : Int) < f.capt.length := by omega
    simp [zdH, hlt, hf, hcat, zbd, g0, zaG, hw, hnm, hcap, hcap']
    exact hbad (fun h => by have := h.capt hn; rw [this] at hcap; simp at hcap) _ _ _ _ _
   have hcap' : ¬ (0 : Int) < f.capt.length := by omega
   have hcap2 : f.capt = [] := List.eq_nil_of_length_eq_zero (by omega)
   by_cases hp6 : 6 < f.params.length
   ·have hp6' : (6 : Int) < f.params.length := by omega
    simp [zdH, hlt, hf, hcat, zbd, g0, zaG, hw, hnm, hcap, hcap', hp6']
    exact hbad (fun h => by have := h.pars; omega) _ _ _ _ _
   have hp6' : ¬ (6 : Int) < f.params.length := by omega
   simp [zdH, hlt, hf, hcat, zbd, g0, zaG, hw, hnm, hcap, hcap', hp6']
   rw [← zas f.res]
   refine zfX c.data (by obtain ⟨k1, _⟩ := k1; omega) 0 f.res (by omega) _ _ ?_
   cases hty : zav c.data 0 f.res with
   | false => simp; exact hbad (fun h => by have := h.res; rw [hty] at this; cases this) _ _ _ _ _
   | true =>
    have fin := j3 (fun h => absurd h hn) (fun _ => hcap2) (by omega) hty
    rw [← hX]
    have fin := fin (N ++ [f.name]) (by rw [hns, if_neg (by simp [hnm])])
    simp [g5]
    rw [hX] at fin ⊢
    simp [hnm, zlA] at fin ⊢
    simp [zaH, zbE, zbb, vH]
    refine ⟨by clear fin j3 hbad hgood ln hok hF hKb; omega, ?_⟩
    rw [← zm4]
    simpa [vH] using fin
 obtain rfl : i = c.codes.length := by omega
 rw [List.take_length] at *
 simp [zdH]
 refine zDp fun hs4 => ?_
 unfold ztG
 refine zmS _ (by omega) _ _ ?_
 have g0 : ∀ h, (vH H c (zaS c c.codes.length) (zaN c c.codes.length) [] (nms c.codes).length)[H.length]'h = .cells (zaG c) := fun h => by simp [vH]
 cases hr : zb0 (nms c.codes) with
 | true =>
  simp
  have := hF (fun h => by have := zh8 h.names; rw [hr] at this; cases this) (zaS c c.codes.length) (zaN c c.codes.length) [] (nms c.codes).length []
  simpa using this
 | false =>
  simp [g0, zaG]
  refine zyH hc' hvars (fun j hj => hok j hj hj) hs K fun b h J => hb b ?_ J
  rw [h]
  simp only [zb0, Bool.not_eq_false', decide_eq_true_eq] at hr
  exact ⟨fun h => ⟨fun j hj => hok j hj hj, hr, h⟩, fun h => h.ex⟩
theorem zDL (c : Cor) (hc : zaR c) (H : zaa) (K : AV → zaa → Prop) (hK : ∀ b, (b = true ↔ RefV c) → K (.bool b) H) : ACalls tP zhM [.agg c.cs] H K := by
 refine ACalls.out (zDK fun hs => ?_)
 have hF : ¬ RefV c → ∀ J, Out H.length K (.bool false) (H ++ J) := fun h J => Out.bool rfl (Nat.le_refl _) hs (hK _ (by simp [h]))
 have hT : ∀ b : Bool, (b = true ↔ RefV c) → ∀ J, Out H.length K (.bool b) (H ++ J) := fun b h J => Out.bool rfl (Nat.le_refl _) hs (hK _ h)
 have hc' := hc
 obtain ⟨k1, k2, k3, ⟨k4, k5⟩, k6, k7⟩ := hc
 have h1 : ¬ (64 : Int) < c.codes.length := by omega
 have h2 : ¬ (3000 : Int) < c.exprs.length := by omega
 have h3 : ¬ (3000 : Int) < c.vars.length := by omega
 simp [zts, Cor.cs]
 refine zFA c.data k1 _ _ fun b hb => ?_
 cases b with
 | false => simp; exact hF (fun h => by have := hb.2 h.data; cases this) _
 | true =>
 have hd := hb.1 rfl
 simp [h1, h2, h3]
 refine zDg fun hs1 => ?_
 unfold ztB
 simp
 refine zDu (Inv := fun q t54 H' => ∃ i : Nat, i ≤ c.vars.length ∧ q = c.vars.length - i ∧ t54 = .int .i64 i ∧ (∀ v ∈ c.vars.take i, zav c.data 0 v = true) ∧ H' = H ++ [.cells (zaG c)]) c.vars.length ?_ ?_
 ·intro _; exact ⟨0, by omega, by omega, rfl, by simp, rfl⟩
 rintro q t54 H' ⟨i, hi, rfl, rfl, hok, rfl⟩ hsc hlen hsF Kb hKb
 by_cases hlt : i < c.vars.length
 ·have hn := k5 _ (List.getElem_mem hlt)
  have hcs := zas c.vars[i]
  simp [zn4, hlt, hcs, zaG]
  rw [← hcs]
  refine zfX c.data (by obtain ⟨k1, _⟩ := k1; omega) 0 c.vars[i] (by omega) _ _ ?_
  cases hty : zav c.data 0 c.vars[i] with
  | false =>
   simp
   exact hF (fun h => by have := h.vars _ (List.getElem_mem hlt); rw [hty] at this; cases this) _
  | true =>
   simp
   rw [zaq (by omega) (by omega)]
   refine hKb _ _ ⟨c.vars.length - (i + 1), by omega, Back.at (J := [_]) (H2 := H ++ [.cells (zaG c)]) (by simp [zaG]; rfl) (by simp) hsc ?_ ⟨_, rfl, i + 1, by omega, rfl, by simp, zb9 hlt hok hty, rfl⟩⟩
   simp [zjb, AV.sc, AV.scV, AV.scA, AV.scB]
 obtain rfl : i = c.vars.length := by omega
 rw [List.take_length] at hok
 simp [zn4, zaG]
 simp only [zbc, Int.toNat_natCast, zmR, zlF]
 refine ⟨⟨by omega, by omega, by omega, by omega⟩, ?_⟩
 simp [zaG]
 refine ⟨⟨by omega, by omega⟩, ?_⟩
 refine zDj fun hs2 => ?_
 unfold ztD
 simp
 simp only [zbc, Int.toNat_natCast, zmR, zlF]
 refine ⟨⟨by omega, by omega, by omega, by omega⟩, ?_⟩
 simp
 unfold zjj
 refine ALoop.own 8 zbB 1 rfl ?_
 have := zyG hc' hok hs K fun b h J => hT b (by
  rw [h]
  exact ⟨fun h => ⟨hd, hok, h.codes, h.names, h.ex.exprs, h.ex.bo.bound, h.ex.bo.pl.placed, h.ex.bo.pl.ma.made, h.ex.bo.pl.ma.ru.rules, h.ex.bo.pl.ma.ru.sc⟩, fun h => ⟨h.codes, h.names, h.exprs, h.bound, h.placed, h.made, h.rules, h.scopes⟩⟩) J
 simp [vH, usB, zaG] at this ⊢
 exact this
mutual
theorem za6 : ∀ v w : VT, v.same w = true ↔ v = w
 | .mk k n ks, .mk k' n' ks' => by
  have h := zbp ks ks'
  simp only [VT.same, Bool.and_eq_true, beq_iff_eq, VT.mk.injEq, h, and_assoc]
theorem zbp : ∀ v w : List VT, VT.sameL v w = true ↔ v = w
 | v :: vs, w :: ws => by
  have h1 := za6 v w
  have h2 := zbp vs ws
  simp only [VT.sameL, Bool.and_eq_true, List.cons.injEq, h1, h2]
 | [], [] => by simp [VT.sameL]
 | [], _ :: _ => by simp [VT.sameL]
 | _ :: _, [] => by simp [VT.sameL]
end
theorem zm9 {α : Type} (l : List α) (d n : Nat) : (l.take d)[n]? = if n < d then l[n]? else none := by
 by_cases h : n < d
 ·rw [if_pos h, List.getElem?_take_of_lt h]
 ·rw [if_neg h, List.getElem?_eq_none (by rw [List.length_take]; omega)]
theorem zzt {data : List Dat} {d : Nat} {vars k n : Int} {len : Nat} (h : (k == 5 && n == (d : Int)) = false) : za4 (data.take (d + 1)) vars k n len = za4 (data.take d) vars k n len := by
 unfold za4
 by_cases h5 : k = 5
 ·subst h5
  have hn : n ≠ d := by simpa using h
  simp only [zm9]
  by_cases h0 : 0 ≤ n
  ·have : (n.toNat < d + 1) = (n.toNat < d) := by
    apply propext; omega
   simp [this]
  ·simp [h0]
 ·have : (k == 5) = false := by simpa using h5
  simp [this]
mutual
theorem zsC (data : List Dat) (d : Nat) (vars : Int) : ∀ t : VT, zcg d t = false → zbq (data.take (d + 1)) vars t = zbq (data.take d) vars t
 | .mk k n ks => by
  intro h
  simp only [zcg, Bool.or_eq_false_iff] at h
  rw [zbq, zbq, zzt h.1, zsB data d vars ks h.2]
theorem zsB (data : List Dat) (d : Nat) (vars : Int) : ∀ l : List VT, zej d l = false → zbr (data.take (d + 1)) vars l = zbr (data.take d) vars l
 | [] => fun _ => rfl
 | t :: ts => by
  intro h
  simp only [zej, Bool.or_eq_false_iff] at h
  rw [zbr, zbr, zsC data d vars t h.1, zsB data d vars ts h.2]
end
mutual
theorem zrA (data : List Dat) (d : Nat) (vars : Int) : ∀ t : VT, zbq (data.take d) vars t = true → zcg d t = false
 | .mk k n ks => by
  intro h
  rw [zbq, Bool.and_eq_true] at h
  rw [zcg, zrz data d vars ks h.2, Bool.or_false]
  by_cases h5 : k = 5
  ·subst h5
   have h1 := h.1
   simp [za4, zm9] at h1
   obtain ⟨h0, h2⟩ := h1
   by_cases hn : n = d
   ·subst hn
    simp at h2
   ·simpa using hn
  ·have : (k == 5) = false := by simpa using h5
   simp [this]
theorem zrz (data : List Dat) (d : Nat) (vars : Int) : ∀ l : List VT, zbr (data.take d) vars l = true → zej d l = false
 | [] => fun _ => rfl
 | t :: ts => by
  intro h
  rw [zbr, Bool.and_eq_true] at h
  rw [zej, zrA data d vars t h.1, zrz data d vars ts h.2]; rfl
end
theorem zsd (data : List Dat) (vars : Int) : ∀ (l : List VT) (i : Nat), zcP l i = true → ((i + l.length : Nat) : Int) ≤ vars → zbr data vars l = true ∧ VT.nodesL l = l.length
 | [], i, _, _ => ⟨rfl, rfl⟩
 | .mk k n ks :: l, i, h, hv => by
  rw [zcP, Bool.and_eq_true] at h
  obtain ⟨h1, h2⟩ := h
  simp only [zhy, Bool.and_eq_true, beq_iff_eq] at h1
  obtain ⟨⟨rfl, rfl⟩, h3⟩ := h1
  have hk : ks = [] := List.eq_nil_of_length_eq_zero h3
  subst hk
  obtain ⟨h4, h5⟩ := zsd data vars l (i + 1) h2 (by simp at hv ⊢; omega)
  simp at hv
  constructor
  ·simp [zbr, zbq, za4, h4]
   omega
  ·simp [VT.nodesL, VT.nodes, h5]; omega
theorem zqu (data : List Dat) (d : Nat) (hd : d < data.length) (h0 : 0 ≤ (data[d]).vars) (h6 : (data[d]).vars ≤ 6) (t : VT) : zdO data d (data[d]).vars t = zdW data d (data[d]).vars t := by
 unfold zdO zdW
 cases hs : zce d (data[d]).vars t with
 | true =>
  obtain ⟨k, n, ks⟩ := t
  simp only [zce, Bool.and_eq_true, beq_iff_eq] at hs
  obtain ⟨⟨⟨rfl, rfl⟩, hl⟩, hs⟩ := hs
  obtain ⟨h1, h2⟩ := zsd (data.take (d + 1)) (data[d]).vars ks 0 hs (by simp; omega)
  have hty : zav (data.take (d + 1)) (data[d]).vars (.mk 5 d ks) = true := by
   simp [zav, zbq, h1, VT.nodes, h2, za4, zm9, hd, hl]
   omega
  simp [hty]
 | false =>
  simp only [Bool.false_or]
  unfold zav
  cases hm : zcg d t with
  | false => rw [zsC data d _ t hm]; simp
  | true =>
   have : zbq (data.take d) (data[d]).vars t = false := by
    cases h : zbq (data.take d) (data[d]).vars t with
    | false => rfl
    | true => rw [zrA data d _ t h] at hm; cases hm
   simp [this]
theorem zqV (data : List Dat) : ∀ (l : List Dat) (d : Nat), zc4 data l d = true ↔ ∀ j (h : j < l.length), zcO data (d + j) l[j] = true
 | [], d => by simp [zc4]
 | D :: l, d => by
  rw [zc4, Bool.and_eq_true, zqV data l (d + 1)]
  constructor
  ·rintro ⟨h1, h2⟩ j hj
   cases j with
   | zero => exact h1
   | succ j =>
    have := h2 j (by simpa using hj)
    rw [show d + (j + 1) = d + 1 + j by omega]
    simpa using this
  ·intro h
   refine ⟨h 0 (by simp), fun j hj => ?_⟩
   have := h (j + 1) (by simpa using hj)
   rw [show d + (j + 1) = d + 1 + j by omega] at this
   simpa using this
theorem zqU (data : List Dat) : zcl data = true ↔ RData data := by
 unfold zcl
 simp only [Bool.and_eq_true, decide_eq_true_eq, zqV, zb0, Bool.not_not, Nat.zero_add]
 constructor
 ·rintro ⟨⟨⟨h1, h2⟩, h3⟩, h4⟩
  refine ⟨h1, fun d hd => ?_, h3, h4⟩
  have := h2 d hd
  simp only [zcO, Bool.and_eq_true, decide_eq_true_eq, List.all_eq_true] at this
  obtain ⟨⟨⟨⟨⟨q1, q2⟩, q3⟩, q4⟩, q5⟩, q6⟩ := this
  refine ⟨q2, q3, q4, q5, q1, fun c hc => ?_⟩
  have := q6 c hc
  simp only [zdd, Bool.and_eq_true, decide_eq_true_eq, List.all_eq_true] at this
  exact ⟨this.1, this.2.1, fun x hx => by rw [← zqu data d hd q2 q3 x]; exact this.2.2 x hx⟩
 ·rintro ⟨h1, h2, h3, h4⟩
  refine ⟨⟨⟨h1, fun d hd => ?_⟩, h3⟩, h4⟩
  obtain ⟨q2, q3, q4, q5, q1, q6⟩ := h2 d hd
  simp only [zcO, Bool.and_eq_true, decide_eq_true_eq, List.all_eq_true]
  refine ⟨⟨⟨⟨⟨q1, q2⟩, q3⟩, q4⟩, q5⟩, fun c hc => ?_⟩
  obtain ⟨r1, r2, r3⟩ := q6 c hc
  simp only [zdd, Bool.and_eq_true, decide_eq_true_eq, List.all_eq_true]
  exact ⟨r1, r2, fun x hx => by rw [zqu data d hd q2 q3 x]; exact r3 x hx⟩
theorem zsP (t : VT) : t = .mk t.kind t.num t.kids := by cases t; rfl
theorem zis {t u : VT} (h1 : t.kind = u.kind) (h2 : t.num = u.num) (h3 : t.kids = u.kids) : t = u := by rw [zsP t, zsP u, h1, h2, h3]
theorem zir {data : List Dat} {t : VT} (h : zav data 0 t = true) : za4 data 0 t.kind t.num t.kids.length = true := by
 obtain ⟨k, n, ks⟩ := t
 simp only [zav, zbq, Bool.and_eq_true] at h
 exact h.2.1
theorem zeY {data : List Dat} {t : VT} (h : zav data 0 t = true) {k : Int} (hk : k = 1 ∨ k = 2 ∨ k = 3) : t.kind = k ↔ t = sm k := by
 constructor
 ·intro h1
  have h2 := zir h
  rw [h1] at h2
  have : t.num = 0 ∧ t.kids = [] := by rcases hk with rfl | rfl | rfl <;> simpa [za4] using h2
  exact zis h1 this.1 this.2
 ·intro h1; rw [h1]; rfl
theorem zAd {data : List Dat} {t : VT} (h : zav data 0 t = true) (h6 : t.kind = 6) : t.num = 0 ∧ 2 ≤ t.kids.length ∧ t.kids.length ≤ 6 := by
 have h2 := zir h
 rw [h6] at h2
 simpa [za4, and_assoc] using h2
theorem zAc {data : List Dat} {t : VT} (h : zav data 0 t = true) (h9 : t.kind = 9) : t.num = 0 := by
 have h2 := zir h
 rw [h9] at h2
 simp [za4] at h2
 exact h2.1.1
theorem zgK {data : List Dat} {t : VT} (h : zav data 0 t = true) {k : Int} (hk : k = 7 ∨ k = 8) (h1 : t.kind = k) : t = .mk k 0 [zbY t] := by
 have h2 := zir h
 rw [h1] at h2
 have : t.num = 0 ∧ t.kids.length = 1 := by rcases hk with rfl | rfl <;> simpa [za4] using h2
 obtain ⟨a, ha⟩ := zcn (l := t.kids) (by simp [this.2])
 have hk0 : zbY t = a := by simp [zbY, ha]
 rw [hk0]
 exact zis h1 this.1 ha
theorem zbl (c : Cor) (t : VT) (l : List Int) : zbW c t l = true ↔ ∀ k ∈ l, ety c k = t := by
 simp [zbW, za6]
theorem zqN {c : Cor} {n : Nat} (h : n < c.codes.length) : zc3 c (n : Int) = c.codes[n] := by simp [zc3, h]
section
variable {c : Cor} {e : CEx}
abbrev RR (c : Cor) (e : CEx) : Bool := refR4 c e (e.num == 0) ((e.kids.length : Int) == 0) (zam c e.vars) (zaD c e.kids) (e.binds.map (zam c))
theorem zxL {data : List Dat} {t : VT} {n : Int} {fs : List VT} (h : zbo data t n = some fs) : t.kind = 5 := by
 unfold zbo at h
 split at h
 ·rename_i h1; exact h1.1
 ·cases h
theorem ziu (hx : ExIn c e) {v : Int} (hv : v ∈ e.vars) : zav c.data 0 (vty c v) = true := by
 have := hx.vars v hv
 obtain ⟨k, rfl⟩ : ∃ k : Nat, v = k := ⟨v.toNat, by omega⟩
 rw [ze1 (by omega)]
 exact hx.vtys _ (List.getElem_mem _)
theorem zwW (c : Cor) (l : List (List Int)) (k : Nat) : bAt (l.map (zam c)) k = zam c (l.getD k []) := by
 rw [bAt, List.getD_eq_getElem?_getD, List.getElem?_map, List.getD_eq_getElem?_getD]
 cases l[k]? <;> rfl
theorem zre {t : VT} {X : List VT} (h : zav c.data 0 t = true) : t = .mk 9 0 X ↔ t.kind = 9 ∧ t.kids = X := by
 constructor
 ·intro h; rw [h]; exact ⟨rfl, rfl⟩
 ·rintro ⟨h1, h2⟩; exact zis h1 (zAc h h1) h2
theorem rl1 (hx : ExIn c e) (hT : zav c.data 0 e.ty = true) (hop : e.op = 1) : progRule c e = true ↔ RR c e = true := by
 have hvl := zaL c e.vars
 have hkl : (zaD c e.kids).length = e.kids.length := by simp [zaD]
 simp [progRule, za2, za7, restR, numR, parR, stR, stF, RR, refR4, refR5, refR6, refR7, refR9, hop, zaC, za6, zbp, zaL, zbl, cntL, zeY hT (k := 3) (by simp)]
 grind
theorem rl2 (hx : ExIn c e) (hT : zav c.data 0 e.ty = true) (hop : e.op = 2) : progRule c e = true ↔ RR c e = true := by
 have hvl := zaL c e.vars
 have hkl : (zaD c e.kids).length = e.kids.length := by simp [zaD]
 simp [progRule, za2, za7, restR, numR, parR, stR, stF, RR, refR4, refR5, refR6, refR7, refR9, hop, zaC, za6, zbp, zaL, zbl, cntL, zeY hT (k := 2) (by simp)]
 grind
theorem rl3 (hx : ExIn c e) (hT : zav c.data 0 e.ty = true) (hop : e.op = 3) : progRule c e = true ↔ RR c e = true := by
 have hvl := zaL c e.vars
 have hkl : (zaD c e.kids).length = e.kids.length := by simp [zaD]
 simp [progRule, za2, za7, restR, numR, parR, stR, stF, RR, refR4, refR5, refR6, refR7, refR9, hop, zaC, za6, zbp, zaL, zbl, cntL, zeY hT (k := 1) (by simp)]
 grind
theorem zy2 (hx : ExIn c e) (hT : zav c.data 0 e.ty = true) (hop : e.op = 22) : progRule c e = true ↔ RR c e = true := by
 have hvl := zaL c e.vars
 have hkl : (zaD c e.kids).length = e.kids.length := by simp [zaD]
 simp [progRule, za2, za7, restR, numR, parR, stR, stF, RR, refR4, refR5, refR6, refR7, refR9, hop, zaC, za6, zbp, zaL, zbl, cntL, zeY hT (k := 3) (by simp)]
 grind
theorem rl4 (hx : ExIn c e) (hT : zav c.data 0 e.ty = true) (hop : e.op = 4) : progRule c e = true ↔ RR c e = true := by
 have hvl := zaL c e.vars
 have hkl : (zaD c e.kids).length = e.kids.length := by simp [zaD]
 simp [progRule, za2, za7, restR, numR, parR, stR, stF, RR, refR4, refR5, refR6, refR7, refR9, hop, zaC, za6, zbp, zaL, zbl, cntL]
 grind
theorem rl5 (hx : ExIn c e) (hT : zav c.data 0 e.ty = true) (hop : e.op = 5) : progRule c e = true ↔ RR c e = true := by
 have hvl := zaL c e.vars
 have hkl : (zaD c e.kids).length = e.kids.length := by simp [zaD]
 simp [progRule, za2, za7, restR, numR, parR, stR, stF, RR, refR4, refR5, refR6, refR7, refR9, hop, zaC, za6, zbp, zaL, zbl, cntL]
 intro h0 h1
 constructor
 ·rintro ⟨h2, h3, h4⟩
  rw [h4]; exact ⟨rfl, rfl⟩
 ·rintro ⟨h2, h3⟩
  obtain ⟨q1, q2, q3⟩ := zAd hT h2
  rw [h3] at hvl
  exact ⟨by omega, by omega, zis h2 q1 h3.symm⟩
theorem rl6 (hx : ExIn c e) (hT : zav c.data 0 e.ty = true) (hop : e.op = 6) : progRule c e = true ↔ RR c e = true := by
 have hvl := zaL c e.vars
 have hkl : (zaD c e.kids).length = e.kids.length := by simp [zaD]
 simp [progRule, za2, za7, restR, numR, parR, stR, stF, RR, refR4, refR5, refR6, refR7, refR9, hop, zaC, za6, zbp, zaL, zbl, cntL]
 cases hf : zbo c.data e.ty e.num with
 | none => simp
 | some fs =>
  have := zxL hf
  simp [this]
  grind
theorem rl7 (hx : ExIn c e) (hT : zav c.data 0 e.ty = true) (hop : e.op = 7) : progRule c e = true ↔ RR c e = true := by
 have hvl := zaL c e.vars
 have hkl : (zaD c e.kids).length = e.kids.length := by simp [zaD]
 simp [progRule, za2, za7, restR, numR, parR, stR, stF, RR, refR4, refR5, refR6, refR7, refR9, hop, zaC, za6, zbp, zaL, zbl, cntL]
 intro h0
 by_cases hk : e.kids.length = 2
 ·obtain ⟨k0, k1, hk'⟩ := zco (l := e.kids) (by simp [hk])
  obtain ⟨b0, b1, hb'⟩ := zco (l := e.binds) (by simp [hx.bk, hk])
  simp [hk', hb', zaD, bAt, hd0, hd1, zbP, zam]
  grind
 ·grind
theorem rl8 (hx : ExIn c e) (hT : zav c.data 0 e.ty = true) (hop : e.op = 8) : progRule c e = true ↔ RR c e = true := by
 have hvl := zaL c e.vars
 have hkl : (zaD c e.kids).length = e.kids.length := by simp [zaD]
 simp [progRule, za2, za7, restR, numR, parR, stR, stF, RR, refR4, refR5, refR6, refR7, refR9, hop, zaC, za6, zbp, zaL, zbl, cntL]
 intro h0
 by_cases hv : e.vars.length = 1
 ·obtain ⟨v, hv'⟩ := zcn (l := e.vars) (by simp [hv])
  by_cases hk : e.kids.length = 1
  ·obtain ⟨k0, hk'⟩ := zcn (l := e.kids) (by simp [hk])
   obtain ⟨b0, hb'⟩ := zcn (l := e.binds) (by simp [hx.bk, hk])
   simp [hv', hk', hb', zaD, bAt, hd0, hd1, zbP, zam]
  ·grind
 ·grind
theorem rl9 (hx : ExIn c e) (hT : zav c.data 0 e.ty = true) (hop : e.op = 9) : progRule c e = true ↔ RR c e = true := by
 have hvl := zaL c e.vars
 have hkl : (zaD c e.kids).length = e.kids.length := by simp [zaD]
 simp [progRule, za2, za7, restR, numR, parR, stR, stF, RR, refR4, refR5, refR6, refR7, refR9, hop, zaC, za6, zbp, zaL, zbl, cntL]
 intro h0
 by_cases hv : e.vars.length = 1
 ·obtain ⟨v, hv'⟩ := zcn (l := e.vars) (by simp [hv])
  by_cases hk : e.kids.length = 2
  ·obtain ⟨k0, k1, hk'⟩ := zco (l := e.kids) (by simp [hk])
   obtain ⟨b0, b1, hb'⟩ := zco (l := e.binds) (by simp [hx.bk, hk])
   simp [hv', hk', hb', zaD, bAt, hd0, hd1, zbP, zam]
   grind
  ·grind
 ·grind
theorem zyQ (hx : ExIn c e) (hT : zav c.data 0 e.ty = true) (hop : e.op = 10) : progRule c e = true ↔ RR c e = true := by
 have hvl := zaL c e.vars
 have hkl : (zaD c e.kids).length = e.kids.length := by simp [zaD]
 simp [progRule, za2, za7, restR, numR, parR, stR, stF, RR, refR4, refR5, refR6, refR7, refR9, hop, zaC, za6, zbp, zaL, zbl, cntL]
 intro h0
 by_cases hv : e.vars.length = 1
 ·obtain ⟨v, hv'⟩ := zcn (l := e.vars) (by simp [hv])
  have hcr : ∀ k (h : k < e.kids.length), caseR c (vty c v) e.ty (zaD c e.kids) (e.binds.map (zam c)) k = (zeK c (vty c v) e k && (ety c e.kids[k]).same e.ty) := fun k h => by
   rw [caseR, zeK, zwW]
   congr 1
   simp [zaD, h]
  have h1 : (∀ x, x < e.kids.length → caseR c (vty c v) e.ty (zaD c e.kids) (e.binds.map (zam c)) x = true) ↔ (zeL c (vty c v) e = true ∧ ∀ k ∈ e.kids, ety c k = e.ty) := by
   rw [zeL, List.all_eq_true]
   constructor
   ·intro h
    refine ⟨fun k hk => ?_, fun k hk => ?_⟩
    ·have := h k (by simpa using hk)
     rw [hcr k (by simpa using hk), Bool.and_eq_true] at this
     exact this.1
    ·obtain ⟨j, hj, rfl⟩ := List.getElem_of_mem hk
     have := h j hj
     rw [hcr j hj, Bool.and_eq_true, za6] at this
     exact this.2
   ·rintro ⟨h1, h2⟩ k hk
    rw [hcr k hk, Bool.and_eq_true, za6]
    exact ⟨h1 k (by simpa using hk), h2 _ (List.getElem_mem hk)⟩
  have hh : hd0 (zam c e.vars) = vty c v := by simp [hv', zam, hd0]
  rw [hh, hkl, h1]
  simp [hv']
  grind
 ·grind
theorem zyR (hx : ExIn c e) (hT : zav c.data 0 e.ty = true) (hlam : e.op = 11 → ∃ n : Nat, e.num = n ∧ ∃ h : n < c.codes.length, (c.codes[n]).name = []) (hop : e.op = 11) : progRule c e = true ↔ RR c e = true := by
 have hvl := zaL c e.vars
 have hkl : (zaD c e.kids).length = e.kids.length := by simp [zaD]
 simp [progRule, za2, za7, restR, numR, parR, stR, stF, RR, refR4, refR5, refR6, refR7, refR9, hop, zaC, za6, zbp, zaL, zbl, cntL]
 obtain ⟨n, hn, hnl, hnm⟩ := hlam hop
 rw [hn, zqN hnl]
 simp [hnl, hnm, za6, zbp, zre hT]
 grind
theorem zyS (hx : ExIn c e) (hT : zav c.data 0 e.ty = true) (hop : e.op = 12) : progRule c e = true ↔ RR c e = true := by
 have hvl := zaL c e.vars
 have hkl : (zaD c e.kids).length = e.kids.length := by simp [zaD]
 simp [progRule, za2, za7, restR, numR, parR, stR, stF, RR, refR4, refR5, refR6, refR7, refR9, hop, zaC, za6, zbp, zaL, zbl, cntL]
 by_cases h0 : 0 ≤ e.num
 ·by_cases hl : e.num < c.codes.length
  ·obtain ⟨n, hn⟩ : ∃ n : Nat, e.num = n := ⟨e.num.toNat, by omega⟩
   have hnl : n < c.codes.length := by omega
   rw [hn, zqN hnl]
   simp [hnl, za6, zbp]
   grind
  ·have : c.codes[e.num.toNat]? = none := List.getElem?_eq_none (by omega)
   simp [this, h0, hl]
 ·simp [h0]
theorem zyT (hx : ExIn c e) (hT : zav c.data 0 e.ty = true) (hop : e.op = 13) : progRule c e = true ↔ RR c e = true := by
 have hvl := zaL c e.vars
 have hkl : (zaD c e.kids).length = e.kids.length := by simp [zaD]
 simp [progRule, za2, za7, restR, numR, parR, stR, stF, RR, refR4, refR5, refR6, refR7, refR9, hop, zaC, za6, zbp, zaL, zbl, cntL]
 intro h0
 cases hv : e.vars with
 | nil => simp
 | cons v l =>
  have hvv := ziu hx (v := v) (by simp [hv])
  simp [zam, hd0, zre hvv]
  grind
theorem zyU (hx : ExIn c e) (hT : zav c.data 0 e.ty = true) (hop : e.op = 14) : progRule c e = true ↔ RR c e = true := by
 have hvl := zaL c e.vars
 have hkl : (zaD c e.kids).length = e.kids.length := by simp [zaD]
 simp [progRule, za2, za7, restR, numR, parR, stR, stF, RR, refR4, refR5, refR6, refR7, refR9, hop, zaC, za6, zbp, zaL, zbl, cntL]
 have t1 := zeY hT (k := 1) (by simp)
 have t2 := zeY hT (k := 2) (by simp)
 by_cases h6 : 6 ≤ e.num
 ·simp [h6, t2, za6]
  grind
 ·simp [h6, t1, za6]
  grind
theorem zyV (hx : ExIn c e) (hT : zav c.data 0 e.ty = true) (hop : e.op = 15) : progRule c e = true ↔ RR c e = true := by
 have hvl := zaL c e.vars
 have hkl : (zaD c e.kids).length = e.kids.length := by simp [zaD]
 simp [progRule, za2, za7, restR, numR, parR, stR, stF, RR, refR4, refR5, refR6, refR7, refR9, hop, zaC, za6, zbp, zaL, zbl, cntL]
 intro h0
 by_cases hv : e.vars.length = 2
 ·obtain ⟨a, b, hv'⟩ := zco (l := e.vars) (by simp [hv])
  simp [hv', zam, hd0, hd1]
  intro h1
  constructor
  ·rintro ⟨h2, h3⟩
   rw [h3]
   exact ⟨rfl, h2, rfl⟩
  ·rintro ⟨h2, h3, h4⟩
   refine ⟨h3, ?_⟩
   rw [h4]
   exact zgK hT (k := 7) (by simp) h2
 ·grind
theorem zyW (hx : ExIn c e) (hT : zav c.data 0 e.ty = true) (hop : e.op = 16) : progRule c e = true ↔ RR c e = true := by
 have hvl := zaL c e.vars
 have hkl : (zaD c e.kids).length = e.kids.length := by simp [zaD]
 simp [progRule, za2, za7, restR, numR, parR, stR, stF, RR, refR4, refR5, refR6, refR7, refR9, hop, zaC, za6, zbp, zaL, zbl, cntL]
 intro h0
 by_cases hv : e.vars.length = 2
 ·obtain ⟨a, b, hv'⟩ := zco (l := e.vars) (by simp [hv])
  have hva := ziu hx (v := a) (by simp [hv'])
  simp [hv', zam, hd0, hd1]
  have := fun h => zgK hva (k := 7) (by simp) h
  grind
 ·grind
theorem zyX (hx : ExIn c e) (hT : zav c.data 0 e.ty = true) (hop : e.op = 17) : progRule c e = true ↔ RR c e = true := by
 have hvl := zaL c e.vars
 have hkl : (zaD c e.kids).length = e.kids.length := by simp [zaD]
 simp [progRule, za2, za7, restR, numR, parR, stR, stF, RR, refR4, refR5, refR6, refR7, refR9, hop, zaC, za6, zbp, zaL, zbl, cntL]
 intro h0
 by_cases hv : e.vars.length = 3
 ·obtain ⟨a, b, d, hv'⟩ := zrr (l := e.vars) (by simp [hv])
  have hva := ziu hx (v := a) (by simp [hv'])
  simp [hv', zam, hd0, hd1]
  have := fun h => zgK hva (k := 7) (by simp) h
  grind
 ·grind
theorem zyY (hx : ExIn c e) (hT : zav c.data 0 e.ty = true) (hop : e.op = 18) : progRule c e = true ↔ RR c e = true := by
 have hvl := zaL c e.vars
 have hkl : (zaD c e.kids).length = e.kids.length := by simp [zaD]
 simp [progRule, za2, za7, restR, numR, parR, stR, stF, RR, refR4, refR5, refR6, refR7, refR9, hop, zaC, za6, zbp, zaL, zbl, cntL, zeY hT (k := 1) (by simp)]
 intro h0
 by_cases hv : e.vars.length = 1
 ·obtain ⟨a, hv'⟩ := zcn (l := e.vars) (by simp [hv])
  simp [hv', zam, hd0, hd1]

 ·grind
theorem zyZ (hx : ExIn c e) (hT : zav c.data 0 e.ty = true) (hop : e.op = 19) : progRule c e = true ↔ RR c e = true := by
 have hvl := zaL c e.vars
 have hkl : (zaD c e.kids).length = e.kids.length := by simp [zaD]
 simp [progRule, za2, za7, restR, numR, parR, stR, stF, RR, refR4, refR5, refR6, refR7, refR9, hop, zaC, za6, zbp, zaL, zbl, cntL]
 intro h0
 by_cases hv : e.vars.length = 1
 ·obtain ⟨a, hv'⟩ := zcn (l := e.vars) (by simp [hv])
  simp [hv', zam, hd0, hd1]
  intro h1
  constructor
  ·intro h2
   rw [h2]
   exact ⟨rfl, rfl⟩
  ·rintro ⟨h2, h3⟩
   rw [h3]
   exact zgK hT (k := 8) (by simp) h2
 ·grind
theorem zy0 (hx : ExIn c e) (hT : zav c.data 0 e.ty = true) (hop : e.op = 20) : progRule c e = true ↔ RR c e = true := by
 have hvl := zaL c e.vars
 have hkl : (zaD c e.kids).length = e.kids.length := by simp [zaD]
 simp [progRule, za2, za7, restR, numR, parR, stR, stF, RR, refR4, refR5, refR6, refR7, refR9, hop, zaC, za6, zbp, zaL, zbl, cntL]
 intro h0
 by_cases hv : e.vars.length = 1
 ·obtain ⟨a, hv'⟩ := zcn (l := e.vars) (by simp [hv])
  simp [hv', zam, hd0, hd1]
  grind
 ·grind
theorem zy1 (hx : ExIn c e) (hT : zav c.data 0 e.ty = true) (hop : e.op = 21) : progRule c e = true ↔ RR c e = true := by
 have hvl := zaL c e.vars
 have hkl : (zaD c e.kids).length = e.kids.length := by simp [zaD]
 simp [progRule, za2, za7, restR, numR, parR, stR, stF, RR, refR4, refR5, refR6, refR7, refR9, hop, zaC, za6, zbp, zaL, zbl, cntL]
 intro h0
 by_cases hv : e.vars.length = 2
 ·obtain ⟨a, b, hv'⟩ := zco (l := e.vars) (by simp [hv])
  have hva := ziu hx (v := a) (by simp [hv'])
  simp [hv', zam, hd0, hd1]
  have := fun h => zgK hva (k := 8) (by simp) h
  grind
 ·grind
theorem zy3 (hx : ExIn c e) (hT : zav c.data 0 e.ty = true) (hop : e.op = 23) : progRule c e = true ↔ RR c e = true := by
 have hvl := zaL c e.vars
 have hkl : (zaD c e.kids).length = e.kids.length := by simp [zaD]
 simp [progRule, za2, za7, restR, numR, parR, stR, stF, RR, refR4, refR5, refR6, refR7, refR9, hop, zaC, za6, zbp, zaL, zbl, cntL]
 simp [hT]
 grind
theorem zy4 (hx : ExIn c e) (hT : zav c.data 0 e.ty = true) (hop : e.op = 24) : progRule c e = true ↔ RR c e = true := by
 have hvl := zaL c e.vars
 have hkl : (zaD c e.kids).length = e.kids.length := by simp [zaD]
 simp [progRule, za2, za7, restR, numR, parR, stR, stF, RR, refR4, refR5, refR6, refR7, refR9, hop, zaC, za6, zbp, zaL, zbl, cntL]
 intro h0
 by_cases hk : e.kids.length = 2
 ·obtain ⟨k0, k1, hk'⟩ := zco (l := e.kids) (by simp [hk])
  obtain ⟨b0, b1, hb'⟩ := zco (l := e.binds) (by simp [hx.bk, hk])
  simp [hk', hb', zaD, bAt, hd0, hd1, zbP, zam]
  grind
 ·grind
theorem zr6 (hx : ExIn c e) (hT : zav c.data 0 e.ty = true) (hlam : e.op = 11 → ∃ n : Nat, e.num = n ∧ ∃ h : n < c.codes.length, (c.codes[n]).name = []) : progRule c e = true ↔ RR c e = true := by
 by_cases h1 : e.op = 1
 ·exact rl1 hx hT h1
 by_cases h2 : e.op = 2
 ·exact rl2 hx hT h2
 by_cases h3 : e.op = 3
 ·exact rl3 hx hT h3
 by_cases h4 : e.op = 4
 ·exact rl4 hx hT h4
 by_cases h5 : e.op = 5
 ·exact rl5 hx hT h5
 by_cases h6 : e.op = 6
 ·exact rl6 hx hT h6
 by_cases h7 : e.op = 7
 ·exact rl7 hx hT h7
 by_cases h8 : e.op = 8
 ·exact rl8 hx hT h8
 by_cases h9 : e.op = 9
 ·exact rl9 hx hT h9
 by_cases h10 : e.op = 10
 ·exact zyQ hx hT h10
 by_cases h11 : e.op = 11
 ·exact zyR hx hT hlam h11
 by_cases h12 : e.op = 12
 ·exact zyS hx hT h12
 by_cases h13 : e.op = 13
 ·exact zyT hx hT h13
 by_cases h14 : e.op = 14
 ·exact zyU hx hT h14
 by_cases h15 : e.op = 15
 ·exact zyV hx hT h15
 by_cases h16 : e.op = 16
 ·exact zyW hx hT h16
 by_cases h17 : e.op = 17
 ·exact zyX hx hT h17
 by_cases h18 : e.op = 18
 ·exact zyY hx hT h18
 by_cases h19 : e.op = 19
 ·exact zyZ hx hT h19
 by_cases h20 : e.op = 20
 ·exact zy0 hx hT h20
 by_cases h21 : e.op = 21
 ·exact zy1 hx hT h21
 by_cases h22 : e.op = 22
 ·exact zy2 hx hT h22
 by_cases h23 : e.op = 23
 ·exact zy3 hx hT h23
 by_cases h24 : e.op = 24
 ·exact zy4 hx hT h24
 have hp : progRule c e = false := by
  have h15' : ¬ (15 ≤ e.op ∧ e.op ≤ 21) := by omega
  simp [progRule, za2, za7, restR, stR, h1, h2, h3, h4, h5, h6, h7, h8, h9, h10, h11, h12, h13, h14, h15, h16, h17, h18, h19, h20, h21, h22, h23, h24]
  intro _ h1 h2
  omega
 have hr : RR c e = false := by simp [RR, refR4, refR5, refR6, refR7, refR9, h1, h2, h3, h4, h5, h6, h7, h8, h9, h10, h11, h12, h13, h14, h15, h16, h17, h18, h19, h20, h21, h22, h23, h24]
 rw [hp, hr]
end
end Go.Proofs.Ytkdmpbhbmmhijaa
