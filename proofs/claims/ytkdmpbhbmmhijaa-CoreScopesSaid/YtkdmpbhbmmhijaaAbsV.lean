import Derived.Test.YtkdmpbhbmmhijaaKS2
import Derived.Test.YtkdmpbhbmmhijaaKNum
import Derived.Test.YtkdmpbhbmmhijaaProg
import Derived.KernelRfl
import Derived.Test.YtkdmpbhbmmhijaaAbsQ1
set_option linter.unusedSimpArgs false
set_option linter.unusedVariables false
namespace Go.Proofs.Ytkdmpbhbmmhijaa
open Go Go.Abs
set_option maxRecDepth 8000
theorem zro (x y : List Int) (hl : x.length ≤ 1000000) (H : zaa) (K : Kt) (hK : K (.bool (x == y)) H) : ACalls tP zih [.sl (ints x) .none, .sl (ints y) .none] H K := by
 refine ACalls.out (zFy fun hs => ?_)
 have hO : ∀ r, (x == y) = r → Out H.length K (.bool r) H := fun r h => by
  have := Out.bool (H2 := H) (J := []) (n := H.length) (H' := H) (b := (x == y)) (by simp) (Nat.le_refl _) hs hK
  rwa [h] at this
 by_cases hxy : x.length = y.length
 ·have h1 : ((x.length : Int) != y.length) = false := by simp [hxy]
  simp [zo3, h1]
  refine zFw (Inv := fun q t13 H' => ∃ i : Nat, i ≤ x.length ∧ q = x.length - i ∧ t13 = .int .i64 i ∧ (x.drop i == y.drop i) = (x == y) ∧ H' = H) x.length ?_ ?_
  ·intro _; exact ⟨0, by omega, by omega, rfl, by simp, rfl⟩
  rintro q t13 H' ⟨i, hi, rfl, rfl, ho, rfl⟩ hsc hlen hsF Kb hKb
  by_cases hlt : i < x.length
  ·have hlt' : i < y.length := by omega
   rw [List.drop_eq_getElem_cons hlt, List.drop_eq_getElem_cons hlt', List.cons_beq_cons] at ho
   by_cases he : x[i] = y[i]
   ·rw [he, beq_self_eq_true, Bool.true_and] at ho
    simp [zjU, hlt, hlt', he]
    rw [zaq (by omega) (by omega)]
    refine hKb _ _ ⟨x.length - (i + 1), by omega, Back.here (Nat.le_refl _) hsc ?_ ⟨_, rfl, i + 1, by omega, rfl, by simp, ho, rfl⟩⟩
    simp [zjV, AV.sc, AV.scV, AV.scA, AV.scB]
   ·rw [nb he, Bool.false_and] at ho
    simp [zjU, hlt, hlt', nbt he]
    exact hO _ ho.symm
  ·obtain rfl : i = x.length := by omega
   rw [List.drop_length, hxy, List.drop_length] at ho
   simp [zjU]
   exact hO _ (by rw [← ho]; rfl)
 ·have h1 : ((x.length : Int) != y.length) = true := nbt (by omega)
  simp [zo3, h1]
  refine hO _ ?_
  rw [beq_eq_false_iff_ne]
  intro h; exact hxy (by rw [h])
def ownC : List Cod → Nat → List Int → List Int
 | [], _, st => st
 | f :: l, i, st => ownC l (i + 1) (st.set f.body.toNat i)
def zdI (i : Nat) : List Int → List Int → List Int
 | [], st => st
 | k :: l, st => zdI i l (st.set k.toNat (st.getD i 0))
def zde : List CEx → Nat → List Int → List Int
 | [], _, st => st
 | e :: l, i, st => zde l (i + 1) (zdI i e.kids st)
def zef (c : Cor) : List Int := zde c.exprs 0 (ownC c.codes 0 (List.replicate c.exprs.length 0))
noncomputable def ziD (c : Cor) : List Int := if vOk c = true then zef c else []
def zdK (i : Nat) : List Int → List Int → List Int
 | [], st => st
 | k :: l, st => zdK i l (st.set k.toNat i)
def zcW : List CEx → Nat → List Int → List Int
 | [], _, st => st
 | e :: l, i, st => zcW l (i + 1) (zdK i e.kids st)
def zdJ (c : Cor) : List Int := zcW c.exprs 0 (List.replicate c.exprs.length (-1))
noncomputable def ziE (c : Cor) : List Int := if vOk c = true then zdJ c else []
theorem zAe (l : List Int) : zbc (l.map fun n => AV.int .i64 n) = some (l.map fun n => AV.int .i64 n) := by
 induction l with
 | nil => rfl
 | cons a l ih => rw [List.map_cons, zbc, ih]; rfl
theorem zzv (l : List Int) : (ints l).flatten = l.map fun n => AV.int .i64 n := by
 induction l with
 | nil => rfl
 | cons a l ih => simp [ints] at ih ⊢; exact ih
theorem zsV {H : zaa} {K : Kt} {st : List Int} {n : Nat} {X : AB} (hs : HSc H) (hn : st.length = n) (hK : K (.sl (ints st) .none) H) : Out H.length K (.ms (H.length + 1) 0 n n) (H ++ [X, usB st]) := by
 subst hn
 refine ⟨_, H, _, rfl, Nat.le_refl _, hs, .one (.frz (H.length + 1) 0 _ _ 1 (st.map fun n => .int .i64 n) (ints st) (by omega) (by simp [usB]) (by simp) ?_ (by simp) (by simp [ints]) (Nat.le_refl _)), hK⟩
 rw [List.drop_zero, List.take_of_length_le (by simp), zAe]
 rw [zzv]
structure BodP (c : Cor) : Prop where
 body : ∀ i (h : i < c.codes.length), ∃ b : Nat, (c.codes[i]).body = b ∧ b < c.exprs.length
 kids : ∀ i (h : i < c.exprs.length), ∀ k ∈ (c.exprs[i]).kids, (i : Int) < k ∧ k < c.exprs.length
theorem zmn {c : Cor} (h : vOk c = true) : BodP c := by
 have h := (zhc c).1 h
 exact ⟨fun i hi => by obtain ⟨_, _, _, _, b, h1, h2, _⟩ := h.codes i hi; exact ⟨b, h1, h2⟩, h.tree.kids⟩
theorem zBU {st : List Int} {i : Nat} (h : i < st.length) (k : AV → Prop) : zaL false 1 i (st.map fun n => AV.int .i64 n) k = k (.int .i64 st[i]) := zev 1 (zeS h)
theorem zFB {c : Cor} (hk : zaK c) (hp : BodP c) {H : zaa} (hs : HSc H) (R : List Int) (K : Kt) (hK : K (.sl (ints R) .none) H) {st : List Int} (hst : st.length = c.exprs.length) (hR : zde c.exprs 0 st = R) :
  zpa (.ms (H.length + 1) 0 c.exprs.length c.exprs.length) (.sl (c.exprs.map CEx.cs) .none) (.int .i64 c.exprs.length) (.int .i64 0) (H ++ [.cells c.cs, usB st]) (Out H.length K) := by
 obtain ⟨k1, k2, k3, ⟨k4, k5⟩, k6, k7⟩ := hk
 have hsX : ∀ st, HSc (H ++ [.cells c.cs, usB st]) := fun st => hs.append (by simp [AB.sc, Cor.cs, usB, AV.scA, AV.scB])
 refine zFG (Inv := fun q tI H' => ∃ (i : Nat) (st : List Int), i ≤ c.exprs.length ∧ q = c.exprs.length - i ∧ tI = .int .i64 i ∧ st.length = c.exprs.length ∧ zde (c.exprs.drop i) i st = R ∧ H' = H ++ [.cells c.cs, usB st]) c.exprs.length ?_ ?_
 ·intro _; exact ⟨0, st, by omega, by omega, rfl, hst, hR, rfl⟩
 rintro q tI H' ⟨i, st, hi, rfl, rfl, hs1, ho, rfl⟩ hsc hlen hsF Kb hKb
 by_cases hlt : i < c.exprs.length
 ·obtain ⟨x, y, z, hvv, hx, hy, hz, hce⟩ := zcE hlt
  have hkd := hp.kids i hlt
  obtain ⟨_, _, kk, _⟩ := k7 _ (List.getElem_mem hlt)
  rw [List.drop_eq_getElem_cons hlt, zde] at ho
  have hvs := VT.cs_scA (c.exprs[i]).ty (H.length + 3)
  rw [hvv] at hvs
  simp at hvs
  generalize hE : c.exprs[i] = E at *
  simp [zo5, hlt, hE, hce, hx, hy, hz]
  have hsY : ∀ st, HSc (H ++ [.cells c.cs, usB st, .cells [.int .i64 E.op, .int .i64 E.num, .sl (ints E.vars) .none, .sl (rows E.binds) .none, .sl (ints E.kids) .none, x, y, z]]) := fun st => hs.append (by simp [AB.sc, Cor.cs, usB, AV.scA, AV.scB] at hvs ⊢; exact hvs)
  refine zFH (Inv := fun q tJ H' => ∃ (j : Nat) (st : List Int), j ≤ E.kids.length ∧ q = E.kids.length - j ∧ tJ = .int .i64 j ∧ st.length = c.exprs.length ∧ zde (c.exprs.drop (i + 1)) (i + 1) (zdI i (E.kids.drop j) st) = R ∧ H' = H ++ [.cells c.cs, usB st, .cells [.int .i64 E.op, .int .i64 E.num, .sl (ints E.vars) .none, .sl (rows E.binds) .none, .sl (ints E.kids) .none, x, y, z]]) E.kids.length ?_ ?_
  ·intro _; exact ⟨0, st, by omega, by omega, rfl, hs1, by simpa using ho, rfl⟩
  rintro q tJ H' ⟨j, st1, hj, rfl, rfl, hs2, ho2, rfl⟩ hsc1 hlen1 hsF1 Kb1 hKb1
  by_cases hjl : j < E.kids.length
  ·have hkr := hkd _ (List.getElem_mem hjl)
   obtain ⟨k, hkk⟩ : ∃ k : Nat, E.kids[j] = k := ⟨(E.kids[j]).toNat, by omega⟩
   have hkn : k < c.exprs.length := by omega
   have hks : k < st1.length := by omega
   have hgt : (i : Int) < k := by omega
   have hgt' : i < k := by omega
   have his : i < st1.length := by omega
   have hgd : st1.getD i 0 = st1[i] := by rw [List.getD_eq_getElem?_getD, List.getElem?_eq_getElem his]; rfl
   have hrd := fun k => zBU (st := st1) his k
   rw [List.drop_eq_getElem_cons hjl, zdI, hkk, Int.toNat_natCast] at ho2
   simp [zo6, zo9, zuZ, hjl, hkk, hkn, hlt, hs2, usB, hrd, his, hgt, hgt']
   rw [zaq (by omega) (by omega), zfo hks]
   rw [hgd] at ho2
   refine ⟨by omega, hKb1 _ _ ⟨E.kids.length - (j + 1), by omega, Back.here (by simp) (hsY _) ?_ ⟨_, rfl, j + 1, _, by omega, rfl, by simp, by simpa using hs2, ho2, rfl⟩⟩⟩
   simp [zjX, AV.sc, AV.scV, AV.scA, AV.scB]
  ·obtain rfl : j = E.kids.length := by omega
   rw [List.drop_length, zdI] at ho2
   simp [zo6]
   rw [zaq (by omega) (by omega)]
   refine hKb _ _ ⟨c.exprs.length - (i + 1), by omega, Back.at (J := [_]) (H2 := H ++ [.cells c.cs, usB st1]) (by simp; rfl) (by simp) (hsX _) ?_ ⟨_, rfl, i + 1, st1, by omega, rfl, by simp, hs2, ho2, rfl⟩⟩
   simp [zjW, AV.sc, AV.scV, AV.scA, AV.scB]
 ·obtain rfl : i = c.exprs.length := by omega
  rw [List.drop_length, zde] at ho
  subst ho
  simp [zo5]
  exact zsV hs hs1 hK
theorem zFA {c : Cor} (hk : zaK c) (hp : BodP c) {H : zaa} (hs : HSc H) (K : Kt) (hK : K (.sl (ints (zef c)) .none) H) :
  zpb (.ptr H.length 0) (.ms (H.length + 1) 0 c.exprs.length c.exprs.length) (.sl (c.codes.map Cod.cs) .none) (.int .i64 c.codes.length) (.int .i64 0) (H ++ [.cells c.cs, usB (List.replicate c.exprs.length 0)]) (Out H.length K) := by
 have hk' := hk
 obtain ⟨k1, k2, k3, ⟨k4, k5⟩, k6, k7⟩ := hk
 have hsX : ∀ st, HSc (H ++ [.cells c.cs, usB st]) := fun st => hs.append (by simp [AB.sc, Cor.cs, usB, AV.scA, AV.scB])
 refine zFI (Inv := fun q tI H' => ∃ (i : Nat) (st : List Int), i ≤ c.codes.length ∧ q = c.codes.length - i ∧ tI = .int .i64 i ∧ st.length = c.exprs.length ∧ zde c.exprs 0 (ownC (c.codes.drop i) i st) = zef c ∧ H' = H ++ [.cells c.cs, usB st]) c.codes.length ?_ ?_
 ·intro _; exact ⟨0, _, by omega, by omega, rfl, by simp, rfl, rfl⟩
 rintro q tI H' ⟨i, st, hi, rfl, rfl, hs1, ho, rfl⟩ hsc hlen hsF Kb hKb
 by_cases hlt : i < c.codes.length
 ·obtain ⟨x, y, z, hvv, hx, hy, hz, hce⟩ := zd6 hlt
  obtain ⟨b, hb, hbl⟩ := hp.body i hlt
  rw [List.drop_eq_getElem_cons hlt, ownC, hb, Int.toNat_natCast] at ho
  have hbs : b < st.length := by omega
  simp [zo7, hlt, hce, hx, hy, hz, hb, hbl, usB, hs1]
  rw [zaq (by omega) (by omega), zfo hbs]
  refine ⟨by omega, hKb _ _ ⟨c.codes.length - (i + 1), by omega, Back.at (J := [_]) (H2 := H ++ [.cells c.cs, usB (st.set b i)]) (by simp [usB]; rfl) (by simp) (hsX _) ?_ ⟨_, rfl, i + 1, _, by omega, rfl, by simp, by simpa using hs1, ho, rfl⟩⟩⟩
  simp [zjY, AV.sc, AV.scV, AV.scA, AV.scB]
 ·obtain rfl : i = c.codes.length := by omega
  rw [List.drop_length, ownC] at ho
  have := zFB hk' hp hs _ K hK hs1 ho
  simp [zo7, Cor.cs] at this ⊢
  exact this
theorem zFN {c : Cor} (hk : zaK c) (hp : BodP c) {H : zaa} (hs : HSc H) (R : List Int) (K : Kt) (hK : K (.sl (ints R) .none) H) {st : List Int} (hst : st.length = c.exprs.length) (hR : zcW c.exprs 0 st = R) :
  zpg (.ms (H.length + 1) 0 c.exprs.length c.exprs.length) (.sl (c.exprs.map CEx.cs) .none) (.int .i64 c.exprs.length) (.int .i64 0) (H ++ [.cells c.cs, usB st]) (Out H.length K) := by
 obtain ⟨k1, k2, k3, ⟨k4, k5⟩, k6, k7⟩ := hk
 have hsX : ∀ st, HSc (H ++ [.cells c.cs, usB st]) := fun st => hs.append (by simp [AB.sc, Cor.cs, usB, AV.scA, AV.scB])
 refine zFS (Inv := fun q tI H' => ∃ (i : Nat) (st : List Int), i ≤ c.exprs.length ∧ q = c.exprs.length - i ∧ tI = .int .i64 i ∧ st.length = c.exprs.length ∧ zcW (c.exprs.drop i) i st = R ∧ H' = H ++ [.cells c.cs, usB st]) c.exprs.length ?_ ?_
 ·intro _; exact ⟨0, st, by omega, by omega, rfl, hst, hR, rfl⟩
 rintro q tI H' ⟨i, st, hi, rfl, rfl, hs1, ho, rfl⟩ hsc hlen hsF Kb hKb
 by_cases hlt : i < c.exprs.length
 ·obtain ⟨x, y, z, hvv, hx, hy, hz, hce⟩ := zcE hlt
  have hkd := hp.kids i hlt
  obtain ⟨_, _, kk, _⟩ := k7 _ (List.getElem_mem hlt)
  rw [List.drop_eq_getElem_cons hlt, zcW] at ho
  have hvs := VT.cs_scA (c.exprs[i]).ty (H.length + 3)
  rw [hvv] at hvs
  simp at hvs
  generalize hE : c.exprs[i] = E at *
  simp [zpc, hlt, hE, hce, hx, hy, hz]
  have hsY : ∀ st, HSc (H ++ [.cells c.cs, usB st, .cells [.int .i64 E.op, .int .i64 E.num, .sl (ints E.vars) .none, .sl (rows E.binds) .none, .sl (ints E.kids) .none, x, y, z]]) := fun st => hs.append (by simp [AB.sc, Cor.cs, usB, AV.scA, AV.scB] at hvs ⊢; exact hvs)
  refine zFT (Inv := fun q tJ H' => ∃ (j : Nat) (st : List Int), j ≤ E.kids.length ∧ q = E.kids.length - j ∧ tJ = .int .i64 j ∧ st.length = c.exprs.length ∧ zcW (c.exprs.drop (i + 1)) (i + 1) (zdK i (E.kids.drop j) st) = R ∧ H' = H ++ [.cells c.cs, usB st, .cells [.int .i64 E.op, .int .i64 E.num, .sl (ints E.vars) .none, .sl (rows E.binds) .none, .sl (ints E.kids) .none, x, y, z]]) E.kids.length ?_ ?_
  ·intro _; exact ⟨0, st, by omega, by omega, rfl, hs1, by simpa using ho, rfl⟩
  rintro q tJ H' ⟨j, st1, hj, rfl, rfl, hs2, ho2, rfl⟩ hsc1 hlen1 hsF1 Kb1 hKb1
  by_cases hjl : j < E.kids.length
  ·have hkr := hkd _ (List.getElem_mem hjl)
   obtain ⟨k, hkk⟩ : ∃ k : Nat, E.kids[j] = k := ⟨(E.kids[j]).toNat, by omega⟩
   have hkn : k < c.exprs.length := by omega
   have hks : k < st1.length := by omega
   rw [List.drop_eq_getElem_cons hjl, zdK, hkk, Int.toNat_natCast] at ho2
   simp [zpd, hjl, hkk, hkn, hlt, hs2, usB]
   rw [zaq (by omega) (by omega), zfo hks]
   refine ⟨by omega, hKb1 _ _ ⟨E.kids.length - (j + 1), by omega, Back.here (by simp) (hsY _) ?_ ⟨_, rfl, j + 1, _, by omega, rfl, by simp, by simpa using hs2, ho2, rfl⟩⟩⟩
   simp [zj0, AV.sc, AV.scV, AV.scA, AV.scB]
  ·obtain rfl : j = E.kids.length := by omega
   rw [List.drop_length, zdK] at ho2
   simp [zpd]
   rw [zaq (by omega) (by omega)]
   refine hKb _ _ ⟨c.exprs.length - (i + 1), by omega, Back.at (J := [_]) (H2 := H ++ [.cells c.cs, usB st1]) (by simp; rfl) (by simp) (hsX _) ?_ ⟨_, rfl, i + 1, st1, by omega, rfl, by simp, hs2, ho2, rfl⟩⟩
   simp [zjZ, AV.sc, AV.scV, AV.scA, AV.scB]
 ·obtain rfl : i = c.exprs.length := by omega
  rw [List.drop_length, zcW] at ho
  subst ho
  simp [zpc]
  exact zsV hs hs1 hK
theorem zf1 {H J : zaa} {K : Kt} (hs : HSc H) (hK : K (.sl (ints []) .none) H) : Out H.length K .snil (H ++ J) := Out.one hs (.atom .snil) rfl rfl hK
theorem zFM (c : Cor) (hk : zaK c) (H : zaa) (K : Kt) (hK : K (.sl (ints (ziD c)) .none) H) : ACalls tP zm2 [.agg c.cs] H K := by
 refine ACalls.out (zFL fun hs => ?_)
 have hk' := hk
 obtain ⟨k1, k2, k3, ⟨k4, k5⟩, k6, k7⟩ := hk'
 have hat : c.cs = [.sl (c.data.map Dat.cs) .none, .sl (c.codes.map Cod.cs) .none, .sl (VT.css c.vars) .none, .sl (c.exprs.map CEx.cs) .none] := rfl
 simp [zuX, hat]
 rw [← hat]
 refine zjB c hk _ _ ?_
 cases hv : vOk c with
 | false =>
  rw [ziD, if_neg (by simp [hv])] at hK
  simp
  exact zf1 hs hK
 | true =>
  rw [ziD, if_pos hv] at hK
  have := zFA hk (zmn hv) hs K hK
  simp [Cor.cs] at this ⊢
  simp only [zaY, Int.toNat_natCast, zg4]
  refine ⟨⟨by omega, by omega, by omega, by omega⟩, ?_⟩
  simpa [usB] using this
theorem zFY (c : Cor) (hk : zaK c) (H : zaa) (K : Kt) (hK : K (.sl (ints (ziE c)) .none) H) : ACalls tP zm3 [.agg c.cs] H K := by
 refine ACalls.out (zFX fun hs => ?_)
 have hk' := hk
 obtain ⟨k1, k2, k3, ⟨k4, k5⟩, k6, k7⟩ := hk'
 have hat : c.cs = [.sl (c.data.map Dat.cs) .none, .sl (c.codes.map Cod.cs) .none, .sl (VT.css c.vars) .none, .sl (c.exprs.map CEx.cs) .none] := rfl
 simp [zu3, hat]
 rw [← hat]
 refine zjB c hk _ _ ?_
 cases hv : vOk c with
 | false =>
  rw [ziE, if_neg (by simp [hv])] at hK
  simp
  exact zf1 hs hK
 | true =>
  rw [ziE, if_pos hv] at hK
  have hsX : ∀ st, HSc (H ++ [.cells c.cs, usB st]) := fun st => hs.append (by simp [AB.sc, Cor.cs, usB, AV.scA, AV.scB])
  simp [hat]
  simp only [zaY, Int.toNat_natCast, zg4]
  refine ⟨⟨by omega, by omega, by omega, by omega⟩, ?_⟩
  simp
  rw [← hat, show AB.cells (List.replicate c.exprs.length (AV.int .i64 0)) = usB (List.replicate c.exprs.length 0) by simp [usB]]
  refine zFU (Inv := fun q tI H' => ∃ i : Nat, i ≤ c.exprs.length ∧ q = c.exprs.length - i ∧ tI = .int .i64 i ∧ H' = H ++ [.cells c.cs, usB (List.replicate i (-1) ++ List.replicate (c.exprs.length - i) 0)]) c.exprs.length ?_ ?_
  ·intro _; exact ⟨0, by omega, by omega, rfl, by simp⟩
  rintro q tI H' ⟨i, hi, rfl, rfl, rfl⟩ hsc hlen hsF Kb hKb
  by_cases hlt : i < c.exprs.length
  ·have hil : i < (List.replicate i (-1 : Int) ++ List.replicate (c.exprs.length - i) 0).length := by simp; omega
   have hset : (List.replicate i (-1 : Int) ++ List.replicate (c.exprs.length - i) 0).set i (-1) = List.replicate (i + 1) (-1) ++ List.replicate (c.exprs.length - (i + 1)) 0 := by
    rw [List.set_append_right _ _ (by simp), List.replicate_succ', List.append_assoc]
    congr 1
    rw [show c.exprs.length - i = (c.exprs.length - (i + 1)) + 1 by omega, List.replicate_succ]
    simp
   have hus := zfo hil (-1)
   rw [hset] at hus
   generalize hst : List.replicate i (-1 : Int) ++ List.replicate (c.exprs.length - i) 0 = st at *
   have hsl : st.length = c.exprs.length := by rw [← hst]; simp; omega
   simp [zpe, hlt, usB, hsl]
   rw [zaq (by omega) (by omega), hus]
   refine ⟨by omega, hKb _ _ ⟨c.exprs.length - (i + 1), by omega, Back.here (by simp) (hsX _) ?_ ⟨_, rfl, i + 1, by omega, rfl, by simp, rfl⟩⟩⟩
   simp [zj1, AV.sc, AV.scV, AV.scA, AV.scB]
  ·obtain rfl : i = c.exprs.length := by omega
   have := zFN hk (zmn hv) hs _ K hK (st := List.replicate c.exprs.length (-1)) (by simp) rfl
   simp [zpe, Cor.cs] at this ⊢
   exact this
theorem znB : ∀ (l : List Cod) (i : Nat) (st : List Int), (ownC l i st).length = st.length
 | [], _, _ => rfl
 | f :: l, i, st => by rw [ownC, znB]; simp
theorem znC (i : Nat) : ∀ (l : List Int) (st : List Int), (zdI i l st).length = st.length
 | [], _ => rfl
 | k :: l, st => by rw [zdI, znC]; simp
theorem zsX : ∀ (l : List CEx) (i : Nat) (st : List Int), (zde l i st).length = st.length
 | [], _, _ => rfl
 | e :: l, i, st => by rw [zde, zsX, znC]
theorem zg3 (i : Nat) : ∀ (l : List Int) (st : List Int), (zdK i l st).length = st.length
 | [], _ => rfl
 | k :: l, st => by rw [zdK, zg3]; simp
theorem zs2 : ∀ (l : List CEx) (i : Nat) (st : List Int), (zcW l i st).length = st.length
 | [], _, _ => rfl
 | e :: l, i, st => by rw [zcW, zs2, zg3]
end Go.Proofs.Ytkdmpbhbmmhijaa
namespace Go.Proofs.Ytkdmpbhbmmhijaa
open Go Go.Abs
set_option maxRecDepth 100000
def zgo (_ : Nat) : List Bool := []
noncomputable def zcZ : Code := Try.f9.body.getD .skip
noncomputable def zeq : List ResultVar := Try.f9.results.toList
def zdV : Nat → List Bool
 | 6 => rl false [2,1,2,3,69]
 | 9 => rl false [2,1,2,3,24,3,42]
 | 16 => rl false [5,2,49,3,18]
 | _ => []
noncomputable def zhi : Code := Try.f28.body.getD .skip
noncomputable def zvg : List ResultVar := Try.f28.results.toList
def zj5 (t2 t5 t6 t7 : AV) : List AV := ux 2 (t2 :: ux 2 (t5 :: t6 :: t7 :: ux 69 []))
def zvf : List Bool := zdV 6
noncomputable def zpi : Code := zao [1, 1, 1, 1, 0, 1, 0, 0] zhi
def zva (K : Kt) : AExit → List AV → zaa → Prop := zap tP zdV [1, 1, 1, 1, 0, 1, 0] zhi (zas tP zvg K)
def zpk (t2 t5 t6 t7 : AV) (H : zaa) (K : Kt) : Prop := ALoop tP zpi (zva K) (zj5 t2 t5 t6 t7) H
def zj6 (t2 t5 t6 t7 t32 t33 t34 : AV) : List AV := ux 2 (t2 :: ux 2 (t5 :: t6 :: t7 :: ux 24 (t32 :: t33 :: t34 :: ux 42 [])))
def zF8 : List Bool := zdV 9
noncomputable def zF2 : Code := zao [1, 0, 0, 1, 0, 0] zpi
def zF0 (K : Kt) (Kb6 : Lt) : AExit → List AV → zaa → Prop := zap tP zdV [1, 0, 0, 1, 0] zpi (zbx zvf Kb6 (zva K))
def zve (t2 t5 t6 t7 t32 t33 t34 : AV) (H : zaa) (K : Kt) (Kb6 : Lt) : Prop := ALoop tP zF2 (zF0 K Kb6) (zj6 t2 t5 t6 t7 t32 t33 t34) H
def zvc (t2 t5 t6 t7 : AV) (H : zaa) (K : Kt) (Kb6 : Lt) : Prop :=
 zad .sub false t7 (.int .i64 1) fun t26 =>
 Kb6 (zj5 t2 t5 t6 t26) H
def zvb (t2 t5 t6 t7 : AV) (H : zaa) (K : Kt) (Kb6 : Lt) : Prop :=
 zvc t2 t5 t6 t7 H K Kb6
def zj7 (t2 t5 t6 t7 : AV) (H : zaa) (K : Kt) (Kb6 : Lt) : Prop :=
 zvb t2 t5 t6 t7 H K Kb6
def zj3 (t2 t5 t6 t7 t32 t33 t34 : AV) (H : zaa) (K : Kt) (Kb6 : Lt) (Kb9 : Lt) : Prop :=
 zad .lss false t34 t33 fun t35 =>
 zag t35
 (zaj 1 t32 t34 fun t37 =>
 zae false 1 t37 H fun t38 =>
 zad .eql false t38 t6 fun t41 =>
 zag t41
 (zaf 3 t2 fun t43 =>
 zae false 1 t43 H fun t44 =>
 zaj 8 t44 t7 fun t46 =>
 zaf 3 t46 fun t47 =>
 zae false 1 t47 H fun t48 =>
 zaj 1 t48 t34 fun t50 =>
 zae false 1 t50 H fun t51 =>
 ACalls tP zeH [t5, t51, (.bool true)] H fun t52 H =>
 zj7 t2 t5 t7 t7 H K Kb6)
 (zad .add false t34 (.int .i64 1) fun t54 =>
 Kb9 (zj6 t2 t5 t6 t7 t32 t33 t54) H))
 (zj7 t2 t5 t6 t7 H K Kb6)
def zj4 (t5 t6 t56 t57 t58 : AV) : List AV := ux 5 (t5 :: t6 :: ux 49 (t56 :: t57 :: t58 :: ux 18 []))
def zF7 : List Bool := zdV 16
noncomputable def zF1 : Code := zao [1, 1, 1, 1, 1, 0, 1, 0, 0] zhi
def zFZ (K : Kt) : AExit → List AV → zaa → Prop := zap tP zdV [1, 1, 1, 1, 1, 0, 1, 0] zhi (zas tP zvg K)
def zpj (t5 t6 t56 t57 t58 : AV) (H : zaa) (K : Kt) : Prop := ALoop tP zF1 (zFZ K) (zj4 t5 t6 t56 t57 t58) H
def zvd (t5 t6 t56 t57 t58 : AV) (H : zaa) (K : Kt) (Kb16 : Lt) : Prop :=
 zad .add false t58 (.int .i64 1) fun t74 =>
 Kb16 (zj4 t5 t6 t56 t57 t74) H
def zj8 (t5 t6 t56 t57 t58 : AV) (H : zaa) (K : Kt) (Kb16 : Lt) : Prop :=
 zvd t5 t6 t56 t57 t58 H K Kb16
def zj2 (t5 t6 t56 t57 t58 : AV) (H : zaa) (K : Kt) (Kb16 : Lt) : Prop :=
 zad .lss false t58 t57 fun t59 =>
 zag t59
 (zaj 7 t56 t58 fun t60 =>
 zae true 7 t60 H fun t61 =>
 zaA [(.str []), .snil, .snil, (.int .i64 0), (.int .i64 0), .snil, (.int .i64 0)] H fun t11 H =>
 zar 7 t11 t61 H fun H =>
 zaf 6 t11 fun t62 =>
 zae false 1 t62 H fun t63 =>
 zad .eql false t63 t6 fun t65 =>
 zag t65
 (zaf 1 t11 fun t67 =>
 zae false 1 t67 H fun t68 =>
 ACalls tP zeH [t5, t68, (.bool true)] H fun t69 H =>
 zaf 2 t11 fun t71 =>
 zae false 1 t71 H fun t72 =>
 ACalls tP zeH [t5, t72, (.bool true)] H fun t73 H =>
 zj8 t5 t6 t56 t57 t58 H K Kb16)
 (zj8 t5 t6 t56 t57 t58 H K Kb16))
 (ACalls tP zik [t5] H fun t76 H =>
 K t76 H)
def zph (t2 t5 t6 t7 : AV) (H : zaa) (K : Kt) (Kb6 : Lt) : Prop :=
 zad .geq false t7 (.int .i64 0) fun t24 =>
 zag t24
 (zaf 3 t2 fun t27 =>
 zae false 1 t27 H fun t28 =>
 zaj 8 t28 t7 fun t30 =>
 zaf 4 t30 fun t31 =>
 zae false 1 t31 H fun t32 =>
 zak 1 t32 fun t33 =>
 zve t2 t5 t6 t7 t32 t33 (.int .i64 0) H K Kb6)
 (zaf 1 t2 fun t55 =>
 zae false 1 t55 H fun t56 =>
 zak 1 t56 fun t57 =>
 zpj t5 t6 t56 t57 (.int .i64 0) H K)
def zu9 (t0 t1 : AV) (H : zaa) (K : Kt) : Prop :=
 zaD t0 H fun t2 H =>
 zae true 4 t2 H fun t12 =>
 ACalls tP zim [t12, t1] H fun t14 H =>
 aUn .not t14 fun t15 =>
 zag t15
 (K .snil H)
 (zaf 2 t2 fun t16 =>
 zae false 1 t16 H fun t17 =>
 zak 1 t17 fun t18 =>
 zaY 1 [(.bool false)] t18 t18 H fun t19 H =>
 zad .sub false t1 (.int .i64 1) fun t22 =>
 zpk t2 t19 t1 t22 H K)
theorem zF6 {t2 t5 t6 t7 t32 t33 t34 : AV} {H : zaa} {K : Kt} {Kb6 : Lt} (Inv : Nat → AV → AV → zaa → Prop) (n : Nat) (h0 : HSc H → Inv n t6 t34 H)
  (round : Rd2 (fun t6 => fun t34 => zj6 t2 t5 t6 t7 t32 t33 t34) (fun t6 => fun t34 => fun H Kb9 => zj3 t2 t5 t6 t7 t32 t33 t34 H K Kb6 Kb9) H Inv) : zve t2 t5 t6 t7 t32 t33 t34 H K Kb6 :=
 lp2 (M := zdV) zF8 t6 t34 (by kernel_rfl) Inv n h0 round
theorem zF4 {t5 t6 t56 t57 t58 : AV} {H : zaa} {K : Kt} (Inv : Nat → AV → zaa → Prop) (n : Nat) (h0 : HSc H → Inv n t58 H)
  (round : Rd1 (fun t58 => zj4 t5 t6 t56 t57 t58) (fun t58 => fun H Kb16 => zj2 t5 t6 t56 t57 t58 H K Kb16) H Inv) : zpj t5 t6 t56 t57 t58 H K :=
 lp1 (M := zdV) zF7 t58 (by kernel_rfl) Inv n h0 round
theorem zF5 {t2 t5 t6 t7 : AV} {H : zaa} {K : Kt} (Inv : Nat → AV → AV → zaa → Prop) (n : Nat) (h0 : HSc H → Inv n t6 t7 H)
  (round : Rd2 (fun t6 => fun t7 => zj5 t2 t5 t6 t7) (fun t6 => fun t7 => fun H Kb6 => zph t2 t5 t6 t7 H K Kb6) H Inv) : zpk t2 t5 t6 t7 H K :=
 lp2 (M := zdV) zvf t6 t7 (by kernel_rfl) Inv n h0 round
theorem zF9 {t0 t1 : AV} {H : zaa} {K : Kt} (h : HSc H → zu9 t0 t1 H K) : ACalls tP zii [t0, t1] H K :=
 zav (M := zdV) Try.func28 (c := zhi) (by kernel_rfl) (fun hs => Eq.mpr (by kernel_rfl) (h hs))
def zfu : Nat → List Bool
 | 9 => rl false [2,1,2,2,1,1,80]
 | 13 => rl false [2,1,2,2,1,2,58,2,19]
 | _ => []
noncomputable def zpq : Code := Try.f31.body.getD .skip
noncomputable def zGs : List ResultVar := Try.f31.results.toList
def zki (t2 t5 t6 t8 : AV) : List AV := ux 2 (t2 :: ux 2 (t5 :: t6 :: ux 1 (t8 :: ux 80 [])))
def zvu : List Bool := zfu 9
noncomputable def zpr : Code := zao [1, 1, 1, 1, 1, 1, 1, 0, 1, 0, 0] zpq
def zvq (K : Kt) : AExit → List AV → zaa → Prop := zap tP zfu [1, 1, 1, 1, 1, 1, 1, 0, 1, 0] zpq (zas tP zGs K)
def zvt (t2 t5 t6 t8 : AV) (H : zaa) (K : Kt) : Prop := ALoop tP zpr (zvq K) (zki t2 t5 t6 t8) H
def zkh (t2 t5 t6 t8 t9 t68 t69 : AV) : List AV := ux 2 (t2 :: ux 2 (t5 :: t6 :: ux 1 (t8 :: t9 :: ux 58 (t68 :: t69 :: ux 19 []))))
def zGq : List Bool := zfu 13
noncomputable def zGn : Code := zao [1, 0, 0, 1, 1, 0, 0] zpr
def zGm (K : Kt) (Kb9 : Lt) : AExit → List AV → zaa → Prop := zap tP zfu [1, 0, 0, 1, 1, 0] zpr (zbx zvu Kb9 (zvq K))
def zvs (t2 t5 t6 t8 t9 t68 t69 : AV) (H : zaa) (K : Kt) (Kb9 : Lt) : Prop := ALoop tP zGn (zGm K Kb9) (zkh t2 t5 t6 t8 t9 t68 t69) H
def zvr (t2 t5 t6 t8 t9 t68 t69 : AV) (H : zaa) (K : Kt) (Kb9 : Lt) (Kb13 : Lt) : Prop :=
 zad .add false t69 (.int .i64 1) fun t86 =>
 Kb13 (zkh t2 t5 t6 t8 t9 t68 t86) H
def zkj (t2 t5 t6 t8 t9 t68 t69 : AV) (H : zaa) (K : Kt) (Kb9 : Lt) (Kb13 : Lt) : Prop :=
 zvr t2 t5 t6 t8 t9 t68 t69 H K Kb9 Kb13
def zkg (t2 t5 t6 t8 t9 t68 t69 : AV) (H : zaa) (K : Kt) (Kb9 : Lt) (Kb13 : Lt) : Prop :=
 zad .lss false t69 t68 fun t70 =>
 zag t70
 (zaf 4 t9 fun t72 =>
 zae false 1 t72 H fun t73 =>
 zaj 1 t73 t69 fun t75 =>
 zae false 1 t75 H fun t76 =>
 zad .eql false t76 t8 fun t78 =>
 zag t78
 (zaf 3 t9 fun t80 =>
 zae false 1 t80 H fun t81 =>
 zaj 1 t81 t69 fun t83 =>
 zae false 1 t83 H fun t84 =>
 ACalls tP zdo [t5, t84, (.bool true)] H fun t85 H =>
 zkj t2 t5 t6 t8 t9 t68 t69 H K Kb9 Kb13)
 (zkj t2 t5 t6 t8 t9 t68 t69 H K Kb9 Kb13))
 (zaj 1 t6 t8 fun t56 =>
 zae false 1 t56 H fun t57 =>
 Kb9 (zki t2 t5 t6 t57) H)
def zpp (t2 t5 t6 t8 : AV) (H : zaa) (K : Kt) (Kb9 : Lt) : Prop :=
 zaj 1 t6 t8 fun t51 =>
 zae false 1 t51 H fun t52 =>
 zad .geq false t52 (.int .i64 0) fun t53 =>
 zag t53
 (zac H (fun K' => zaf 3 t2 (K' · H)) fun t58 =>
 zac H (fun K' => zai false 1 t58 H (K' · H)) fun t59 =>
 zac H (fun K' => K' t6 H) fun t60 =>
 zac H (fun K' => K' t8 H) fun t61 =>
 zac H (fun K' => zaj 1 t60 t61 (K' · H)) fun t62 =>
 zac H (fun K' => zai false 1 t62 H (K' · H)) fun t63 =>
 zac H (fun K' => zaj 8 t59 t63 (K' · H)) fun t64 =>
 zac H (fun K' => zai true 8 t64 H (K' · H)) fun t65 =>
 zaA [(.int .i64 0), (.int .i64 0), .snil, .snil, .snil, (.int .i64 0), (.int .i64 0), .snil] H fun t9 H =>
 zar 8 t9 t65 H fun H =>
 zaf 4 t9 fun t66 =>
 zae false 1 t66 H fun t67 =>
 zak 1 t67 fun t68 =>
 zvs t2 t5 t6 t8 t9 t68 (.int .i64 0) H K Kb9)
 (ACalls tP zil [t5] H fun t88 H =>
 K t88 H)
def zvp (t0 t1 : AV) (H : zaa) (K : Kt) : Prop :=
 zaD t0 H fun t2 H =>
 zae true 4 t2 H fun t11 =>
 ACalls tP zfe [t11] H fun t12 H =>
 aUn .not t12 fun t13 =>
 zab t13 false H (fun K' => K' t1 H) fun t15 H =>
 zab t13 false H (fun K' => zad .lss false t15 (.int .i64 0) (K' · H)) fun t16 H =>
 zah t13 (.bool true) t16 fun t17 =>
 zab t17 false H (fun K' => K' t1 H) fun t19 H =>
 zab t17 false H (fun K' => zaf 3 t2 (K' · H)) fun t20 H =>
 zab t17 false H (fun K' => zae false 1 t20 H (K' · H)) fun t21 H =>
 zab t17 false H (fun K' => zak 1 t21 (K' · H)) fun t22 H =>
 zab t17 false H (fun K' => zad .geq false t19 t22 (K' · H)) fun t23 H =>
 zah t17 (.bool true) t23 fun t24 =>
 zag t24
 (K .snil H)
 (zaf 2 t2 fun t25 =>
 zae false 1 t25 H fun t26 =>
 zak 1 t26 fun t27 =>
 zaY 1 [(.bool false)] t27 t27 H fun t28 H =>
 zae true 4 t2 H fun t29 =>
 ACalls tP zm3 [t29] H fun t30 H =>
 zac H (fun K' => zaf 1 t2 (K' · H)) fun t31 =>
 zac H (fun K' => zai false 1 t31 H (K' · H)) fun t32 =>
 zac H (fun K' => zai true 4 t2 H (K' · H)) fun t33 =>
 zau H (fun H K' => ACalls tP zm2 [t33] H K') fun t34 =>
 zac H (fun K' => K' t1 H) fun t35 =>
 zac H (fun K' => zaj 1 t34 t35 (K' · H)) fun t36 =>
 zac H (fun K' => zai false 1 t36 H (K' · H)) fun t37 =>
 zac H (fun K' => zaj 7 t32 t37 (K' · H)) fun t38 =>
 zac H (fun K' => zai true 7 t38 H (K' · H)) fun t39 =>
 zaA [(.str []), .snil, .snil, (.int .i64 0), (.int .i64 0), .snil, (.int .i64 0)] H fun t7 H =>
 zar 7 t7 t39 H fun H =>
 zaf 1 t7 fun t41 =>
 zae false 1 t41 H fun t42 =>
 ACalls tP zdo [t28, t42, (.bool true)] H fun t43 H =>
 zaf 2 t7 fun t45 =>
 zae false 1 t45 H fun t46 =>
 ACalls tP zdo [t28, t46, (.bool true)] H fun t47 H =>
 zvt t2 t28 t30 t1 H K)
theorem zGo {t2 t5 t6 t8 t9 t68 t69 : AV} {H : zaa} {K : Kt} {Kb9 : Lt} (Inv : Nat → AV → zaa → Prop) (n : Nat) (h0 : HSc H → Inv n t69 H)
  (round : Rd1 (fun t69 => zkh t2 t5 t6 t8 t9 t68 t69) (fun t69 => fun H Kb13 => zkg t2 t5 t6 t8 t9 t68 t69 H K Kb9 Kb13) H Inv) : zvs t2 t5 t6 t8 t9 t68 t69 H K Kb9 :=
 lp1 (M := zfu) zGq t69 (by kernel_rfl) Inv n h0 round
theorem zGp {t2 t5 t6 t8 : AV} {H : zaa} {K : Kt} (Inv : Nat → AV → zaa → Prop) (n : Nat) (h0 : HSc H → Inv n t8 H)
  (round : Rd1 (fun t8 => zki t2 t5 t6 t8) (fun t8 => fun H Kb9 => zpp t2 t5 t6 t8 H K Kb9) H Inv) : zvt t2 t5 t6 t8 H K :=
 lp1 (M := zfu) zvu t8 (by kernel_rfl) Inv n h0 round
theorem zGr {t0 t1 : AV} {H : zaa} {K : Kt} (h : HSc H → zvp t0 t1 H K) : ACalls tP zm5 [t0, t1] H K :=
 zav (M := zfu) Try.func31 (c := zpq) (by kernel_rfl) (fun hs => Eq.mpr (by kernel_rfl) (h hs))
def zdW : Nat → List Bool
 | 6 => rl false [1,2,2,2,77]
 | 12 => rl false [1,2,2,1,1,2,75]
 | 17 => rl false [1,2,2,1,1,2,63,3,9]
 | _ => []
noncomputable def zhj : Code := Try.f30.body.getD .skip
noncomputable def zvo : List ResultVar := Try.f30.results.toList
def zkd (t1 t2 t5 t6 : AV) : List AV := ux 1 (t1 :: t2 :: ux 2 (t5 :: t6 :: ux 77 []))
def zGj : List Bool := zdW 6
noncomputable def zGd : Code := zao [1, 1, 1, 1, 0, 1, 0, 0] zhj
def zGb (K : Kt) : AExit → List AV → zaa → Prop := zap tP zdW [1, 1, 1, 1, 0, 1, 0] zhj (zas tP zvo K)
def zpo (t1 t2 t5 t6 : AV) (H : zaa) (K : Kt) : Prop := ALoop tP zGd (zGb K) (zkd t1 t2 t5 t6) H
def zvk (t1 t2 t5 t6 : AV) (H : zaa) (K : Kt) (Kb6 : Lt) : Prop :=
 zad .add false t6 (.int .i64 1) fun t29 =>
 Kb6 (zkd t1 t2 t5 t29) H
def zke (t1 t2 t5 t6 : AV) (H : zaa) (K : Kt) (Kb6 : Lt) : Prop :=
 zvk t1 t2 t5 t6 H K Kb6
def zkb (t1 t2 t5 t7 t8 : AV) : List AV := ux 1 (t1 :: t2 :: ux 2 (t5 :: ux 1 (t7 :: t8 :: ux 75 [])))
def zvn : List Bool := zdW 12
noncomputable def zpm : Code := zao [1, 1, 1, 1, 1, 1, 0, 1, 0, 0] zhj
def zvj (K : Kt) : AExit → List AV → zaa → Prop := zap tP zdW [1, 1, 1, 1, 1, 1, 0, 1, 0] zhj (zas tP zvo K)
def zpn (t1 t2 t5 t7 t8 : AV) (H : zaa) (K : Kt) : Prop := ALoop tP zpm (zvj K) (zkb t1 t2 t5 t7 t8) H
def zkc (t1 t2 t5 t7 t8 t72 t73 t74 : AV) : List AV := ux 1 (t1 :: t2 :: ux 2 (t5 :: ux 1 (t7 :: t8 :: ux 63 (t72 :: t73 :: t74 :: ux 9 []))))
def zGi : List Bool := zdW 17
noncomputable def zGc : Code := zao [1, 0, 0, 1, 0, 1, 1, 0, 0] zpm
def zGa (K : Kt) (Kb12 : Lt) : AExit → List AV → zaa → Prop := zap tP zdW [1, 0, 0, 1, 0, 1, 1, 0] zpm (zbx zvn Kb12 (zvj K))
def zvm (t1 t2 t5 t7 t8 t72 t73 t74 : AV) (H : zaa) (K : Kt) (Kb12 : Lt) : Prop := ALoop tP zGc (zGa K Kb12) (zkc t1 t2 t5 t7 t8 t72 t73 t74) H
def zvl (t1 t2 t5 t7 t8 : AV) (H : zaa) (K : Kt) (Kb12 : Lt) : Prop :=
 zad .sub false t8 (.int .i64 1) fun t54 =>
 Kb12 (zkb t1 t2 t5 t7 t54) H
def zkf (t1 t2 t5 t7 t8 : AV) (H : zaa) (K : Kt) (Kb12 : Lt) : Prop :=
 zvl t1 t2 t5 t7 t8 H K Kb12
def zpl (t1 t2 t5 t7 t8 t72 t73 t74 : AV) (H : zaa) (K : Kt) (Kb12 : Lt) (Kb17 : Lt) : Prop :=
 zad .lss false t74 t73 fun t75 =>
 zag t75
 (zaj 1 t72 t74 fun t76 =>
 zae false 1 t76 H fun t77 =>
 ACalls tP zeH [t7, t77, (.bool false)] H fun t80 H =>
 zad .add false t74 (.int .i64 1) fun t81 =>
 Kb17 (zkc t1 t2 t5 t7 t8 t72 t73 t81) H)
 (zkf t1 t2 t5 t7 t8 H K Kb12)
def zj9 (t1 t2 t5 t7 t8 : AV) (H : zaa) (K : Kt) (Kb12 : Lt) : Prop :=
 zad .geq false t8 t1 fun t52 =>
 zag t52
 (zaj 1 t5 t8 fun t57 =>
 zae false 1 t57 H fun t58 =>
 zag t58
 (zaf 3 t2 fun t60 =>
 zae false 1 t60 H fun t61 =>
 zaj 8 t61 t8 fun t63 =>
 zaf 2 t63 fun t64 =>
 zae false 1 t64 H fun t65 =>
 ACalls tP zeH [t7, t65, (.bool true)] H fun t66 H =>
 zaf 3 t2 fun t67 =>
 zae false 1 t67 H fun t68 =>
 zaj 8 t68 t8 fun t70 =>
 zaf 3 t70 fun t71 =>
 zae false 1 t71 H fun t72 =>
 zak 1 t72 fun t73 =>
 zvm t1 t2 t5 t7 t8 t72 t73 (.int .i64 0) H K Kb12)
 (zkf t1 t2 t5 t7 t8 H K Kb12))
 (ACalls tP zik [t7] H fun t83 H =>
 K t83 H)
def zka (t1 t2 t5 t6 : AV) (H : zaa) (K : Kt) (Kb6 : Lt) : Prop :=
 zaf 3 t2 fun t24 =>
 zae false 1 t24 H fun t25 =>
 zak 1 t25 fun t26 =>
 zad .lss false t6 t26 fun t27 =>
 zag t27
 (zaj 1 t5 t6 fun t32 =>
 zae false 1 t32 H fun t33 =>
 zag t33
 (zaf 3 t2 fun t35 =>
 zae false 1 t35 H fun t36 =>
 zaj 8 t36 t6 fun t38 =>
 zaf 4 t38 fun t39 =>
 zae false 1 t39 H fun t40 =>
 ACalls tP zeH [t5, t40, (.bool true)] H fun t41 H =>
 zke t1 t2 t5 t6 H K Kb6)
 (zke t1 t2 t5 t6 H K Kb6))
 (zaf 2 t2 fun t42 =>
 zae false 1 t42 H fun t43 =>
 zak 1 t43 fun t44 =>
 zaY 1 [(.bool false)] t44 t44 H fun t45 H =>
 zaf 3 t2 fun t46 =>
 zae false 1 t46 H fun t47 =>
 zak 1 t47 fun t48 =>
 zad .sub false t48 (.int .i64 1) fun t49 =>
 zpn t1 t2 t5 t45 t49 H K)
def zvi (t0 t1 : AV) (H : zaa) (K : Kt) : Prop :=
 zaD t0 H fun t2 H =>
 zae true 4 t2 H fun t11 =>
 ACalls tP zim [t11, t1] H fun t13 H =>
 aUn .not t13 fun t14 =>
 zag t14
 (K .snil H)
 (zaf 3 t2 fun t15 =>
 zae false 1 t15 H fun t16 =>
 zak 1 t16 fun t17 =>
 zaY 1 [(.bool false)] t17 t17 H fun t18 H =>
 zaj 1 t18 t1 fun t21 =>
 zar 1 t21 (.bool true) H fun H =>
 zpo t1 t2 t18 t1 H K)
theorem zGg {t1 t2 t5 t7 t8 t72 t73 t74 : AV} {H : zaa} {K : Kt} {Kb12 : Lt} (Inv : Nat → AV → zaa → Prop) (n : Nat) (h0 : HSc H → Inv n t74 H)
  (round : Rd1 (fun t74 => zkc t1 t2 t5 t7 t8 t72 t73 t74) (fun t74 => fun H Kb17 => zpl t1 t2 t5 t7 t8 t72 t73 t74 H K Kb12 Kb17) H Inv) : zvm t1 t2 t5 t7 t8 t72 t73 t74 H K Kb12 :=
 lp1 (M := zdW) zGi t74 (by kernel_rfl) Inv n h0 round
theorem zGf {t1 t2 t5 t7 t8 : AV} {H : zaa} {K : Kt} (Inv : Nat → AV → zaa → Prop) (n : Nat) (h0 : HSc H → Inv n t8 H)
  (round : Rd1 (fun t8 => zkb t1 t2 t5 t7 t8) (fun t8 => fun H Kb12 => zj9 t1 t2 t5 t7 t8 H K Kb12) H Inv) : zpn t1 t2 t5 t7 t8 H K :=
 lp1 (M := zdW) zvn t8 (by kernel_rfl) Inv n h0 round
theorem zGh {t1 t2 t5 t6 : AV} {H : zaa} {K : Kt} (Inv : Nat → AV → zaa → Prop) (n : Nat) (h0 : HSc H → Inv n t6 H)
  (round : Rd1 (fun t6 => zkd t1 t2 t5 t6) (fun t6 => fun H Kb6 => zka t1 t2 t5 t6 H K Kb6) H Inv) : zpo t1 t2 t5 t6 H K :=
 lp1 (M := zdW) zGj t6 (by kernel_rfl) Inv n h0 round
theorem zGk {t0 t1 : AV} {H : zaa} {K : Kt} (h : HSc H → zvi t0 t1 H K) : ACalls tP zm4 [t0, t1] H K :=
 zav (M := zdW) Try.func30 (c := zhj) (by kernel_rfl) (fun hs => Eq.mpr (by kernel_rfl) (h hs))
def zGu (_ : Nat) : List Bool := []
noncomputable def zGv : Code := Try.f32.body.getD .skip
def zvv (t0 t1 : AV) (H : zaa) (K : Kt) : Prop :=
 zaD t0 H fun t2 H =>
 zae true 4 t2 H fun t6 =>
 ACalls tP zfe [t6] H fun t7 H =>
 aUn .not t7 fun t8 =>
 zab t8 false H (fun K' => K' t1 H) fun t10 H =>
 zab t8 false H (fun K' => zad .lss false t10 (.int .i64 0) (K' · H)) fun t11 H =>
 zah t8 (.bool true) t11 fun t12 =>
 zab t12 false H (fun K' => K' t1 H) fun t14 H =>
 zab t12 false H (fun K' => zaf 3 t2 (K' · H)) fun t15 H =>
 zab t12 false H (fun K' => zae false 1 t15 H (K' · H)) fun t16 H =>
 zab t12 false H (fun K' => zak 1 t16 (K' · H)) fun t17 H =>
 zab t12 false H (fun K' => zad .geq false t14 t17 (K' · H)) fun t18 H =>
 zah t12 (.bool true) t18 fun t19 =>
 zag t19
 (K .snil H)
 (zaf 2 t2 fun t20 =>
 zae false 1 t20 H fun t21 =>
 zak 1 t21 fun t22 =>
 zaY 1 [(.bool false)] t22 t22 H fun t23 H =>
 zae true 4 t2 H fun t24 =>
 ACalls tP zin [t24, t1, t23] H fun t27 H =>
 ACalls tP zil [t23] H fun t29 H =>
 K t29 H)
theorem zGw {t0 t1 : AV} {H : zaa} {K : Kt} (h : HSc H → zvv t0 t1 H K) : ACalls tP zm6 [t0, t1] H K :=
 zav (M := zGu) Try.func32 (c := zGv) (by kernel_rfl) (fun hs => Eq.mpr (by kernel_rfl) (h hs))
def zlj : Nat → List Bool
 | 4 => rl false [2,2,2,1,12,2,18]
 | 200006 => rl false [0,1]
 | _ => []
noncomputable def zqp : Code := Try.f62.body.getD .skip
noncomputable def zJT : List ResultVar := Try.f62.results.toList
def zlk (t2 t3 t6 t19 t20 : AV) : List AV := ux 2 (t2 :: t3 :: ux 2 (t6 :: ux 12 (t19 :: t20 :: ux 18 [])))
def zJR : List Bool := zlj 4
noncomputable def zJP : Code := zao [1, 1, 1, 1, 0, 0] zqp
def zJO (K : Kt) : AExit → List AV → zaa → Prop := zap tP zlj [1, 1, 1, 1, 0] zqp (zas tP zJT K)
def zwR (t2 t3 t6 t19 t20 : AV) (H : zaa) (K : Kt) : Prop := ALoop tP zJP (zJO K) (zlk t2 t3 t6 t19 t20) H
def zqo (t2 t3 t6 t19 t20 : AV) (H : zaa) (K : Kt) (Kb4 : Lt) : Prop :=
 zad .lss false t20 t19 fun t21 =>
 zag t21
 (zac H (fun K' => zai true 4 t3 H (K' · H)) fun t23 =>
 zac H (fun K' => zaf 4 t6 (K' · H)) fun t24 =>
 zac H (fun K' => zai false 1 t24 H (K' · H)) fun t25 =>
 zac H (fun K' => K' t20 H) fun t26 =>
 zac H (fun K' => zaj 1 t25 t26 (K' · H)) fun t27 =>
 zac H (fun K' => zai false 1 t27 H (K' · H)) fun t28 =>
 zac H (fun K' => K' t2 H) fun t29 =>
 zbo .w false H (fun K' => ACalls tP zin [t23, t28, t29] H K') fun t30 H =>
 zaf 3 t6 fun t32 =>
 zae false 1 t32 H fun t33 =>
 zaj 1 t33 t20 fun t35 =>
 zae false 1 t35 H fun t36 =>
 ACalls tP zdo [t2, t36, (.bool false)] H fun t37 H =>
 zad .add false t20 (.int .i64 1) fun t38 =>
 Kb4 (zlk t2 t3 t6 t19 t38) H)
 (zaR [] (K · H))
def zwQ (t0 t1 t2 : AV) (H : zaa) (K : Kt) : Prop :=
 zaD t0 H fun t3 H =>
 zaf 3 t3 fun t8 =>
 zae false 1 t8 H fun t9 =>
 zaj 8 t9 t1 fun t11 =>
 zae true 8 t11 H fun t12 =>
 zaA [(.int .i64 0), (.int .i64 0), .snil, .snil, .snil, (.int .i64 0), (.int .i64 0), .snil] H fun t6 H =>
 zar 8 t6 t12 H fun H =>
 zaf 2 t6 fun t14 =>
 zae false 1 t14 H fun t15 =>
 ACalls tP zdo [t2, t15, (.bool true)] H fun t16 H =>
 zaf 4 t6 fun t17 =>
 zae false 1 t17 H fun t18 =>
 zak 1 t18 fun t19 =>
 zwR t2 t3 t6 t19 (.int .i64 0) H K
theorem zJQ {t2 t3 t6 t19 t20 : AV} {H : zaa} {K : Kt} (Inv : Nat → AV → zaa → Prop) (n : Nat) (h0 : HSc H → Inv n t20 H)
  (round : Rd1 (fun t20 => zlk t2 t3 t6 t19 t20) (fun t20 => fun H Kb4 => zqo t2 t3 t6 t19 t20 H K Kb4) H Inv) : zwR t2 t3 t6 t19 t20 H K :=
 lp1 (M := zlj) zJR t20 (by kernel_rfl) Inv n h0 round
theorem zJS {t0 t1 t2 : AV} {H : zaa} {K : Kt} (h : HSc H → zwQ t0 t1 t2 H K) : ACalls tP zin [t0, t1, t2] H K :=
 zav (M := zlj) Try.func62 (c := zqp) (by kernel_rfl) (fun hs => Eq.mpr (by kernel_rfl) (h hs))
def zJL (_ : Nat) : List Bool := []
noncomputable def zJM : Code := Try.f61.body.getD .skip
def zli (t0 t1 : AV) (H : zaa) (K : Kt) : Prop :=
 zaD t0 H fun t2 H =>
 zad .geq false t1 (.int .i64 0) fun t6 =>
 zab t6 true H (fun K' => K' t1 H) fun t8 H =>
 zab t6 true H (fun K' => zaf 3 t2 (K' · H)) fun t9 H =>
 zab t6 true H (fun K' => zae false 1 t9 H (K' · H)) fun t10 H =>
 zab t6 true H (fun K' => zak 1 t10 (K' · H)) fun t11 H =>
 zab t6 true H (fun K' => zad .lss false t8 t11 (K' · H)) fun t12 H =>
 zah t6 t12 (.bool false) fun t13 =>
 zab t13 true H (fun K' => zae true 4 t2 H (K' · H)) fun t15 H =>
 zab t13 true H (fun K' => ACalls tP zia [t15] H K') fun t16 H =>
 zah t13 t16 (.bool false) fun t17 =>
 K t17 H
theorem zJN {t0 t1 : AV} {H : zaa} {K : Kt} (h : HSc H → zli t0 t1 H K) : ACalls tP zim [t0, t1] H K :=
 zav (M := zJL) Try.func61 (c := zJM) (by kernel_rfl) (fun hs => Eq.mpr (by kernel_rfl) (h hs))
end Go.Proofs.Ytkdmpbhbmmhijaa
namespace Go.Proofs.Ytkdmpbhbmmhijaa
open Go Go.Abs
set_option maxRecDepth 8000
open Classical in
noncomputable def chi (n : Nat) (P : Int → Prop) : List Bool := (List.range n).map fun (v : Nat) => decide (P (v : Int))
theorem zfP {n : Nat} {P : Int → Prop} {st : List Bool} (hl : st.length = n) (h : ∀ v : Nat, v < n → (st.getD v false = true ↔ P v)) : st = chi n P := by
 refine List.ext_getElem (by simp [chi, hl]) fun i h1 h2 => ?_
 have h3 := h i (by omega)
 rw [List.getD_eq_getElem?_getD, List.getElem?_eq_getElem h1] at h3
 simp only [chi, List.getElem_map, List.getElem_range, Option.getD_some] at h3 ⊢
 rw [Bool.eq_iff_iff, h3]
 simp
open Classical in
noncomputable def zcX (c : Cor) (P : Nat → Int → Prop) (e : Int) : List Int := if 0 ≤ e ∧ e < (c.exprs.length : Int) ∧ vOk c = true then mem (chi c.vars.length (P e.toNat)) else []
noncomputable def zds (c : Cor) (e : Int) : List Int := zcX c (InS c) e
noncomputable def zd9 (c : Cor) (e : Int) : List Int := zcX c (zeu c) e
theorem zwP (c : Cor) (hk : zaK c) (e : Int) (H : zaa) (K : Kt) (h1 : (0 ≤ e ∧ e < (c.exprs.length : Int) ∧ vOk c = true) → K (.bool true) H) (h2 : ¬ (0 ≤ e ∧ e < (c.exprs.length : Int) ∧ vOk c = true) → K (.bool false) H) : ACalls tP zim [.agg c.cs, .int .i64 e] H K := by
 refine ACalls.out (zJN fun hs => ?_)
 have hat : c.cs = [.sl (c.data.map Dat.cs) .none, .sl (c.codes.map Cod.cs) .none, .sl (VT.css c.vars) .none, .sl (c.exprs.map CEx.cs) .none] := rfl
 have hF : ¬ (0 ≤ e ∧ e < (c.exprs.length : Int) ∧ vOk c = true) → ∀ J, Out H.length K (.bool false) (H ++ J) := fun h J => Out.bool rfl (Nat.le_refl _) hs (h2 h)
 by_cases g1 : 0 ≤ e
 ·by_cases g2 : e < (c.exprs.length : Int)
  ·simp [zli, hat, g1, g2]
   rw [← hat]
   refine zDW c hk _ _ ?_
   cases hv : vOk c with
   | false => exact hF (by simp [hv]) _
   | true => exact Out.bool rfl (Nat.le_refl _) hs (h1 ⟨g1, g2, hv⟩)
  ·simp [zli, hat, g1, g2]
   exact hF (by simp [g2]) _
 ·simp [zli, hat, g1]
  exact hF (by simp [g1]) _
theorem zdt {st : List Bool} {l : List Int} (h : ∀ x ∈ l, 0 ≤ x ∧ x < (st.length : Int)) {v : Nat} : (zay st l true).getD v false = true ↔ st.getD v false = true ∨ (v : Int) ∈ l := zA7 l st h v
theorem zgM {c : Cor} (hk : zaK c) {i : Nat} (h : i < c.exprs.length) : KEx c.exprs[i] := hk.2.2.2.2.2 _ (List.getElem_mem h)
theorem zrR {c : Cor} (hk : zaK c) {i : Nat} (h : i < c.codes.length) : zl9 c.codes[i] := hk.2.2.2.2.1 _ (List.getElem_mem h)
theorem zF3 {c : Cor} (hk : zaK c) (hT : TreeC c) {H : zaa} (hs : HSc H) (e : Nat) (K : Kt) (hK : K (.sl (ints (mem (chi c.vars.length (InS c e)))) .none) H) {st : List Bool} {i : Nat} (hsl : st.length = c.vars.length) {at' : Nat} (hr : zb8 c i at')
  (hI : ∀ v : Int, InS c e v ↔ (∃ n : Nat, v = n ∧ st.getD n false = true) ∨ InS c at' v) :
  zpj (.ms (H.length + 1) 0 c.vars.length c.vars.length) (.int .i64 at') (.sl (c.codes.map Cod.cs) .none) (.int .i64 c.codes.length) (.int .i64 0) (H ++ [.cells c.cs, boB st]) (Out H.length K) := by
 have hsX : ∀ st, HSc (H ++ [.cells c.cs, boB st]) := fun st => hs.append (by simp [AB.sc, Cor.cs, boB, zcR])
 have hcn := hk.2.1
 have hvn := hk.2.2.2.1.1
 refine zF4 (Inv := fun q t58 H' => ∃ (j : Nat) (st' : List Bool), j ≤ c.codes.length ∧ q = c.codes.length - j ∧ t58 = .int .i64 j ∧ st'.length = c.vars.length ∧ (∀ v : Nat, st'.getD v false = true ↔ st.getD v false = true ∨ ∃ i, i < j ∧ zb8 c i at' ∧ Par c i v) ∧
  H' = H ++ [.cells c.cs, boB st']) c.codes.length ?_ ?_
 ·intro _; exact ⟨0, st, by omega, by omega, rfl, hsl, by simp, rfl⟩
 rintro q t58 H' ⟨j, st', hj, rfl, rfl, hsl', hst', rfl⟩ hsc hlen hsF Kb hKb
 by_cases hlt : j < c.codes.length
 ·obtain ⟨x, y, z, hvv, hx, hy, hz, hce⟩ := zd6 hlt
  obtain ⟨_, kp, kc, _⟩ := zrR hk hlt
  have hpar : ∀ v : Int, Par c j v ↔ v ∈ (c.codes[j]).params ∨ v ∈ (c.codes[j]).capt := fun v => ⟨fun ⟨_, h⟩ => List.mem_append.1 h, fun h => ⟨hlt, List.mem_append.2 h⟩⟩
  have hroot : zb8 c j at' ↔ (c.codes[j]).body = (at' : Int) := ⟨fun ⟨_, h⟩ => h, fun h => ⟨hlt, h⟩⟩
  have hrp : ∀ x ∈ (c.codes[j]).params, 0 ≤ x ∧ x < (c.vars.length : Int) := fun x hx => hT.pr ((hpar x).2 (.inl hx))
  have hrc : ∀ x ∈ (c.codes[j]).capt, 0 ≤ x ∧ x < (c.vars.length : Int) := fun x hx => hT.pr ((hpar x).2 (.inr hx))
  generalize hF : c.codes[j] = F at *
  have back : ∀ (st2 : List Bool) (J : zaa), st2.length = c.vars.length → (∀ v : Nat, st2.getD v false = true ↔ st'.getD v false = true ∨ (F.body = (at' : Int) ∧ ((v : Int) ∈ F.params ∨ (v : Int) ∈ F.capt))) →
    zj8 (.ms (H.length + 1) 0 c.vars.length c.vars.length) (.int .i64 at') (.sl (c.codes.map Cod.cs) .none) (.int .i64 c.codes.length) (.int .i64 j) (H ++ [.cells c.cs, boB st2] ++ J) (Out H.length K) Kb := fun st2 J h1 h2 => by
   simp [zj8, zvd]
   rw [zaq (by omega) (by omega)]
   refine hKb _ _ ⟨c.codes.length - (j + 1), by omega, Back.at (J := J) (H2 := H ++ [.cells c.cs, boB st2]) (by simp) (by simp) (hsX _) ?_ ⟨_, rfl, j + 1, st2, by omega, rfl, by simp, h1, fun v => ?_, rfl⟩⟩
   ·simp [zj4, AV.sc, AV.scV, AV.scA, AV.scB]
   ·rw [h2, hst', or_assoc]
    refine or_congr Iff.rfl ⟨?_, ?_⟩
    ·rintro (⟨i, h3, h4⟩ | ⟨h3, h4⟩)
     ·exact ⟨i, by omega, h4⟩
     ·exact ⟨j, by omega, hroot.2 h3, (hpar _).2 h4⟩
    ·rintro ⟨i, h3, h4, h5⟩
     by_cases h6 : i < j
     ·exact .inl ⟨i, h6, h4, h5⟩
     ·obtain rfl : i = j := by omega
      exact .inr ⟨hroot.1 h4, (hpar _).1 h5⟩
  by_cases hb : F.body = (at' : Int)
  ·have hb' : (F.body == (at' : Int)) = true := by simpa using hb
   simp [zj2, hlt, hF, hce, hx, hy, hz, hb, hb']
   refine zf3 (st := st') (n := c.vars.length) (by simp) hsl' (by omega) hrp _ ?_
   simp
   refine zf3 (st := zay st' F.params true) (n := c.vars.length) (by simp) (by simpa using hsl') (by omega) hrc _ ?_
   have := back (zay (zay st' F.params true) F.capt true) [.cells [.str F.name, .sl (ints F.params) .none, .sl (ints F.capt) .none, x, y, z, .int .i64 at']] (by simpa using hsl') (fun v => by
    rw [zdt (by simpa [hsl'] using hrc), zdt (by simpa [hsl'] using hrp)]
    simp [hb, or_assoc])
   simpa using this
  ·have hb' : (F.body == (at' : Int)) = false := by simpa using hb
   simp [zj2, hlt, hF, hce, hx, hy, hz, hb, hb']
   have := back st' [.cells [.str F.name, .sl (ints F.params) .none, .sl (ints F.capt) .none, x, y, z, .int .i64 F.body]] hsl' (fun v => by simp [hb])
   simpa using this
 ·obtain rfl : j = c.codes.length := by omega
  have he : st' = chi c.vars.length (InS c e) := zfP hsl' fun v hv => by
   rw [hst', hI, hT.root_InS hr]
   constructor
   ·rintro (h | ⟨i', _, h4, h5⟩)
    ·exact .inl ⟨v, rfl, h⟩
    ·obtain rfl := hT.bod hr h4
     exact .inr h5
   ·rintro (⟨n, h3, h4⟩ | h)
    ·obtain rfl : v = n := by omega
     exact .inl h4
    ·exact .inr ⟨i, hr.1, hr, h⟩
  subst he
  simp [zj2]
  refine zwM (st := chi c.vars.length (InS c e)) (by simp) hsl' (by omega) _ ?_
  exact Out.one hs .rfl' rfl rfl hK
end Go.Proofs.Ytkdmpbhbmmhijaa
namespace Go.Proofs.Ytkdmpbhbmmhijaa
open Go Go.Abs
set_option maxRecDepth 8000
theorem ziI {bs : List (List Int)} {k : Nat} (h : k < bs.length) : (rows bs)[k]? = some [.sl (ints bs[k]) .none] := by
 unfold rows; rw [List.getElem?_map, List.getElem?_eq_getElem h]; rfl
theorem zea {l : List Int} {k : Nat} (h : k < l.length) : (ints l)[k]? = some [.int .i64 l[k]] := by
 unfold ints; rw [List.getElem?_map, List.getElem?_eq_getElem h]; rfl
theorem zvh (c : Cor) (hk : zaK c) (e : Int) (H : zaa) (K : Kt) (hK : K (.sl (ints (zds c e)) .none) H) : ACalls tP zii [.agg c.cs, .int .i64 e] H K := by
 refine ACalls.out (zF9 fun hs => ?_)
 have hat : c.cs = [.sl (c.data.map Dat.cs) .none, .sl (c.codes.map Cod.cs) .none, .sl (VT.css c.vars) .none, .sl (c.exprs.map CEx.cs) .none] := rfl
 have hcn := hk.2.1
 have hen := hk.2.2.1
 have hvn := hk.2.2.2.1.1
 simp [zu9, hat]
 rw [← hat]
 refine zwP c hk e _ _ (fun h => ?_) fun h => ?_
 rotate_left
 ·simp
  rw [zds, zcX, if_neg h] at hK
  exact zf1 hs hK
 rw [zds, zcX, if_pos h] at hK
 obtain ⟨g1, g2, hv⟩ := h
 have hT := ziS hk hv
 obtain ⟨e, rfl⟩ : ∃ n : Nat, e = n := ⟨e.toNat, by omega⟩
 rw [Int.toNat_natCast] at hK
 have hsX : ∀ st, HSc (H ++ [.cells c.cs, boB st]) := fun st => hs.append (by simp [AB.sc, Cor.cs, boB, zcR])
 simp [hat]
 simp only [zaY, Int.toNat_natCast, zdA]
 refine ⟨⟨by omega, by omega, by omega, by omega⟩, ?_⟩
 rw [zaq (by omega) (by omega), ← hat]
 simp only [List.append_assoc, List.cons_append, List.nil_append, List.length_append, List.length_cons, List.length_nil]
 show zpk (.ptr H.length 0) (.ms (H.length + 1) 0 c.vars.length c.vars.length) (.int .i64 e) (.int .i64 ((e : Int) - 1)) (H ++ [.cells c.cs, boB (List.replicate c.vars.length false)]) (Out H.length K)
 refine zF5 (Inv := fun q t6 t7 H' => ∃ (i at' : Nat) (st : List Bool), i = q ∧ t6 = .int .i64 at' ∧ t7 = .int .i64 ((i : Int) - 1) ∧ i ≤ at' ∧ at' < c.exprs.length ∧ st.length = c.vars.length ∧
  (∀ p k, Kid c p k at' → p < i) ∧ (∀ v : Int, InS c e v ↔ (∃ n : Nat, v = n ∧ st.getD n false = true) ∨ InS c at' v) ∧ H' = H ++ [.cells c.cs, boB st]) e ?_ ?_
 ·intro _
  refine ⟨e, e, List.replicate c.vars.length false, rfl, rfl, rfl, Nat.le_refl _, by omega, by simp, fun p k h => (hT.lt h).1, fun v => ?_, rfl⟩
  constructor
  ·exact fun h => .inr h
  ·rintro (⟨n, _, h⟩ | h)
   ·rw [List.getD_eq_getElem?_getD, List.getElem?_replicate] at h
    split at h <;> simp at h
   ·exact h
 rintro q t6 t7 H' ⟨i, at', st, rfl, rfl, rfl, hia, hal, hsl, hpar, hI, rfl⟩ hsc hlen hsF Kb hKb
 by_cases h0 : i = 0
 ·subst h0
  have hroot : ∃ i, zb8 c i at' := by
   rcases hT.ex hal with h | ⟨p, k, h⟩
   ·exact h
   ·have := hpar p k h; omega
  obtain ⟨ri, hroot⟩ := hroot
  simp [zph, hat]
  rw [← hat]
  exact zF3 hk hT hs e K hK hsl hroot hI
 ·obtain ⟨i, rfl⟩ : ∃ j, i = j + 1 := ⟨i - 1, by omega⟩
  have hi : i < c.exprs.length := by omega
  obtain ⟨x, y, z, hvv, hx, hy, hz, hce⟩ := zcE hi
  obtain ⟨_, kb, kk, _, kbl⟩ := zgM hk hi
  have hbk : (c.exprs[i]).binds.length = (c.exprs[i]).kids.length := by have := hT.kb i; rwa [zcQ hi, zbK hi] at this
  have hkr : ∀ x ∈ (c.exprs[i]).kids, 0 ≤ x ∧ x < (c.exprs.length : Int) := fun x hx => hT.kr i x (by rw [zbK hi]; exact hx)
  have hkid : ∀ k m, Kid c i k m ↔ (c.exprs[i]).kids[k]? = some (m : Int) := fun k m => by unfold Kid; rw [zbK hi]
  have hbd : ∀ k v, Bind c i k v ↔ ∃ l, (c.exprs[i]).binds[k]? = some l ∧ v ∈ l := fun k v => by unfold Bind; rw [zcQ hi]
  have e1 : ((i + 1 : Nat) : Int) - 1 = i := by omega
  generalize hE : c.exprs[i] = E at *
  have hpos : (0 : Int) ≤ i := by omega
  have back : ∀ (at2 : Nat) (st2 : List Bool), i ≤ at2 → at2 < c.exprs.length → st2.length = c.vars.length → (∀ p k, Kid c p k at2 → p < i) → (∀ v : Int, InS c e v ↔ (∃ n : Nat, v = n ∧ st2.getD n false = true) ∨ InS c at2 v) →
    zj7 (.ptr H.length 0) (.ms (H.length + 1) 0 c.vars.length c.vars.length) (.int .i64 at2) (.int .i64 i) (H ++ [.cells c.cs, boB st2]) (Out H.length K) Kb := by
   intro at2 st2 h1 h2 h3 h4 h5
   simp [zj7, zvb, zvc]
   rw [zaq (by omega) (by omega)]
   refine hKb _ _ ⟨i, by omega, Back.here (by simp) (hsX _) ?_ ⟨_, _, rfl, i, at2, st2, rfl, rfl, rfl, h1, h2, h3, h4, h5, rfl⟩⟩
   simp [zj5, AV.sc, AV.scV, AV.scA, AV.scB]
   try omega
  rw [e1]
  simp [zph, hat, hpos, hi, hE, hce]
  rw [← hat]
  refine zF6 (Inv := fun q t6 t34 H' => ∃ k : Nat, k ≤ E.kids.length ∧ q = E.kids.length - k ∧ t6 = .int .i64 at' ∧ t34 = .int .i64 k ∧ (∀ k', k' < k → ¬ Kid c i k' at') ∧ H' = H ++ [.cells c.cs, boB st]) E.kids.length ?_ ?_
  ·intro _; exact ⟨0, by omega, by omega, rfl, rfl, fun _ h => by omega, rfl⟩
  rintro q t6 t34 H' ⟨k, hkl, rfl, rfl, rfl, hno, rfl⟩ hsc2 hlen2 hsF2 Kb9 hKb9
  by_cases hlt : k < E.kids.length
  ·have hra := hkr _ (List.getElem_mem hlt)
   by_cases heq : E.kids[k] = (at' : Int)
   ·have hKid : Kid c i k at' := by rw [hkid, List.getElem?_eq_getElem hlt, heq]
    have hkb : k < E.binds.length := by omega
    have hbl : (E.binds[k]).length ≤ 10 := kbl _ (List.getElem_mem hkb)
    have hbr : ∀ x ∈ E.binds[k], 0 ≤ x ∧ x < (c.vars.length : Int) := fun x hx => hT.br ((hbd k x).2 ⟨_, List.getElem?_eq_getElem hkb, hx⟩)
    simp [zj3, hlt, heq, hat, hi, hE, hce, hkb, ziI, zea]
    refine zf3 (st := st) (n := c.vars.length) (by simp) hsl (by omega) hbr _ ?_
    have := back i (zay st E.binds[k] true) (Nat.le_refl _) hi (by simpa using hsl) (fun p k h => (hT.lt h).1) (fun v => by
     rw [hI v, hT.kid_InS hKid]
     constructor
     ·rintro (⟨n, rfl, h⟩ | h | h)
      ·exact .inl ⟨n, rfl, (zdt (by simpa [hsl] using hbr)).2 (.inl h)⟩
      ·exact .inr h
      ·obtain ⟨l, h1, h2⟩ := (hbd k v).1 h
       have h3 := hT.br h
       rw [List.getElem?_eq_getElem hkb] at h1
       obtain rfl := Option.some.inj h1
       exact .inl ⟨v.toNat, by omega, (zdt (by simpa [hsl] using hbr)).2 (.inr (by rw [show ((v.toNat : Nat) : Int) = v by omega]; exact h2))⟩
     ·rintro (⟨n, rfl, h⟩ | h)
      ·rcases (zdt (by simpa [hsl] using hbr)).1 h with h1 | h1
       ·exact .inl ⟨n, rfl, h1⟩
       ·exact .inr (.inr ((hbd k n).2 ⟨_, List.getElem?_eq_getElem hkb, h1⟩))
      ·exact .inr (.inl h))
    simpa [hat] using this
   ·have heq' : (E.kids[k] == (at' : Int)) = false := by simpa using heq
    simp [zj3, hlt, heq, heq', zea]
    rw [zaq (by omega) (by omega)]
    refine hKb9 _ _ ⟨E.kids.length - (k + 1), by omega, Back.here (by simp) (hsX _) ?_ ⟨_, _, rfl, k + 1, by omega, rfl, rfl, by simp, fun k' h1 h2 => ?_, rfl⟩⟩
    ·simp [zj6, AV.sc, AV.scV, AV.scA, AV.scB]
     try omega
    ·by_cases h3 : k' < k
     ·exact hno k' h3 h2
     ·obtain rfl : k' = k := by omega
      rw [hkid, List.getElem?_eq_getElem hlt] at h2
      exact heq (Option.some.inj h2)
  ·obtain rfl : k = E.kids.length := by omega
   simp [zj3]
   refine back at' st (by omega) hal hsl (fun p k h => ?_) hI
   have h1 := hpar p k h
   by_cases h2 : p = i
   ·subst h2
    have h3 := (hkid k at').1 h
    exact absurd h (hno k (List.getElem?_eq_some_iff.1 h3).1)
   ·omega
theorem ztl (l : List Int) : ∀ (st : List Bool), (∀ x ∈ l, 0 ≤ x) → ∀ v : Nat, (zay st l false).getD v false = true ↔ st.getD v false = true ∧ (v : Int) ∉ l := by
 induction l with
 | nil => intro st _ v; simp [zay]
 | cons a l ih =>
  intro st h v
  rw [ziM, ih _ (fun x hx => h x (by simp [hx])), zg6]
  have ha := h a (by simp)
  by_cases hh : a.toNat = v ∧ v < st.length
  ·rw [if_pos hh]
   have : (v : Int) = a := by omega
   simp [this]
  ·rw [if_neg hh]
   by_cases h2 : (v : Int) = a
   ·have h3 : ¬ v < st.length := by omega
    have h4 : st.getD v false = false := by rw [List.getD_eq_getElem?_getD, List.getElem?_eq_none (by omega)]; rfl
    rw [h4]
    simp
   ·simp [h2]
theorem zsl {st : List Bool} {i : Nat} (h : i < st.length) : st.getD i false = st[i] := by rw [List.getD_eq_getElem?_getD, List.getElem?_eq_getElem h]; rfl
theorem zhS {st : List Bool} {i : Nat} (h : i < st.length) : (zaS st)[i]? = some (.bool st[i]) := by simp [zaS, h]
theorem zGe {c : Cor} (hk : zaK c) (hT : TreeC c) {H : zaa} (hs : HSc H) (e : Nat) (he : e < c.exprs.length) (K : Kt) (hK : K (.sl (ints (mem (chi c.vars.length (zeu c e)))) .none) H) {st : List Bool} (hsl : st.length = c.exprs.length) (hin : ∀ j, st.getD j false = true ↔ Sub c e j) :
  zpn (.int .i64 e) (.ptr H.length 0) (.ms (H.length + 1) 0 c.exprs.length c.exprs.length) (.ms (H.length + 2) 0 c.vars.length c.vars.length) (.int .i64 ((c.exprs.length : Int) - 1)) (H ++ [.cells c.cs, boB st, boB (List.replicate c.vars.length false)]) (Out H.length K) := by
 have hat : c.cs = [.sl (c.data.map Dat.cs) .none, .sl (c.codes.map Cod.cs) .none, .sl (VT.css c.vars) .none, .sl (c.exprs.map CEx.cs) .none] := rfl
 have hcn := hk.2.1
 have hen := hk.2.2.1
 have hvn := hk.2.2.2.1.1
 have hsX : ∀ st2, HSc (H ++ [.cells c.cs, boB st, boB st2]) := fun st2 => hs.append (by simp [AB.sc, Cor.cs, boB, zcR])
 refine zGf (Inv := fun q t8 H' => ∃ (i : Nat) (st2 : List Bool), i = q + e ∧ e ≤ i ∧ i ≤ c.exprs.length ∧ t8 = .int .i64 ((i : Int) - 1) ∧ st2.length = c.vars.length ∧
  (∀ v : Nat, st2.getD v false = true ↔ (∃ j, i ≤ j ∧ Sub c e j ∧ (v : Int) ∈ zb6 c j) ∧ ¬ ∃ j k, i ≤ j ∧ Sub c e j ∧ Bind c j k v) ∧ H' = H ++ [.cells c.cs, boB st, boB st2]) (c.exprs.length - e) ?_ ?_
 ·intro _
  refine ⟨c.exprs.length, List.replicate c.vars.length false, by omega, by omega, Nat.le_refl _, rfl, by simp, fun v => ?_, rfl⟩
  constructor
  ·intro h
   rw [List.getD_eq_getElem?_getD, List.getElem?_replicate] at h
   split at h <;> simp at h
  ·rintro ⟨⟨j, h1, h2, h3⟩, _⟩
   have := zoc h3
   omega
 rintro q t8 H' ⟨i, st2, hq, hei, hin2, rfl, hsl2, hI, rfl⟩ hsc hlen hsF Kb hKb
 by_cases h0 : i = e
 ·have hlt : ¬ (e : Int) ≤ (i : Int) - 1 := by omega
  have hst : st2 = chi c.vars.length (zeu c e) := zfP hsl2 fun v hv => by
   rw [hI]
   unfold zeu Occ Bnd
   constructor
   ·rintro ⟨⟨j, h1, h2, h3⟩, h4⟩
    refine ⟨⟨j, h2, h3⟩, ?_⟩
    rintro ⟨j', k, h5, h6⟩
    exact h4 ⟨j', k, by have := hT.sub_le h5; omega, h5, h6⟩
   ·rintro ⟨⟨j, h2, h3⟩, h4⟩
    refine ⟨⟨j, by have := hT.sub_le h2; omega, h2, h3⟩, ?_⟩
    rintro ⟨j', k, _, h5, h6⟩
    exact h4 ⟨j', k, h5, h6⟩
  simp [zj9, hlt]
  refine zwM (st := st2) (by simp) hsl2 (by omega) _ ?_
  rw [hst]
  exact Out.one hs .rfl' rfl rfl hK
 ·obtain ⟨i, rfl⟩ : ∃ j, i = j + 1 := ⟨i - 1, by omega⟩
  have hi : i < c.exprs.length := by omega
  have e1 : ((i + 1 : Nat) : Int) - 1 = i := by omega
  rw [e1]
  have hge : (e : Int) ≤ i := by omega
  have hge' : e ≤ i := by omega
  obtain ⟨x, y, z, hvv, hx, hy, hz, hce⟩ := zcE hi
  obtain ⟨kv, kb, kk, _, kbl⟩ := zgM hk hi
  have hva : zb6 c i = (c.exprs[i]).vars := zob hi
  have hvr : ∀ x ∈ (c.exprs[i]).vars, 0 ≤ x ∧ x < (c.vars.length : Int) := fun x hx => hT.vr i x (by rw [hva]; exact hx)
  have hbd : ∀ k v, Bind c i k v ↔ ∃ l, (c.exprs[i]).binds[k]? = some l ∧ v ∈ l := fun k v => by unfold Bind; rw [zcQ hi]
  generalize hE : c.exprs[i] = E at *
  have back : ∀ st3 : List Bool, st3.length = c.vars.length → (∀ v : Nat, st3.getD v false = true ↔ (∃ j, i ≤ j ∧ Sub c e j ∧ (v : Int) ∈ zb6 c j) ∧ ¬ ∃ j k, i ≤ j ∧ Sub c e j ∧ Bind c j k v) →
    zkf (.int .i64 e) (.ptr H.length 0) (.ms (H.length + 1) 0 c.exprs.length c.exprs.length) (.ms (H.length + 2) 0 c.vars.length c.vars.length) (.int .i64 i) (H ++ [.cells c.cs, boB st, boB st3]) (Out H.length K) Kb := fun st3 h1 h2 => by
   simp [zkf, zvl]
   rw [zaq (by omega) (by omega)]
   refine hKb _ _ ⟨i - e, by omega, Back.here (by simp) (hsX _) ?_ ⟨_, rfl, i, st3, by omega, by omega, by omega, rfl, h1, h2, rfl⟩⟩
   simp [zkb, AV.sc, AV.scV, AV.scA, AV.scB]
   try omega
  have his : i < st.length := by omega
  have hg := zsl his
  have hsub := hin i
  rw [hg] at hsub
  have split_le : ∀ P : Nat → Prop, (∃ j, i ≤ j ∧ P j) ↔ (∃ j, i + 1 ≤ j ∧ P j) ∨ P i := fun P => by
   constructor
   ·rintro ⟨j, h1, h2⟩
    by_cases h3 : j = i
    ·subst h3; exact .inr h2
    ·exact .inl ⟨j, by omega, h2⟩
   ·rintro (⟨j, h1, h2⟩ | h)
    ·exact ⟨j, by omega, h2⟩
    ·exact ⟨i, Nat.le_refl _, h⟩
  cases hb : st[i] with
  | false =>
   have hns : ¬ Sub c e i := by rw [← hsub, hb]; simp
   simp [zj9, hge, hge', boB, hsl, zaL, zhS his, hi, his, hb]
   refine back st2 hsl2 fun v => ?_
   rw [hI v]
   refine and_congr ?_ (not_congr ?_)
   ·rw [split_le fun j => Sub c e j ∧ (v : Int) ∈ zb6 c j]; simp [hns]
   ·constructor
    ·rintro ⟨j, k, h1, h2⟩; exact ⟨j, k, by omega, h2⟩
    ·rintro ⟨j, k, h1, h2, h3⟩
     refine ⟨j, k, ?_, h2, h3⟩
     by_cases h4 : j = i
     ·subst h4; exact absurd h2 hns
     ·omega
  | true =>
   have hs1 : Sub c e i := hsub.1 hb
   simp [zj9, hge, hge', boB, hsl, zaL, zhS his, his, hb, hat, hi, hE, hce]
   rw [← hat]
   refine zf3 (st := st2) (n := c.vars.length) (by simp [boB]) hsl2 (by omega) hvr _ ?_
   simp [hat, hi, hE, hce]
   rw [← hat]
   refine zGg (Inv := fun q t74 H' => ∃ (k : Nat) (st3 : List Bool), k ≤ E.binds.length ∧ q = E.binds.length - k ∧ t74 = .int .i64 k ∧ st3.length = c.vars.length ∧ (∀ v : Nat, st3.getD v false = true ↔ (st2.getD v false = true ∨ (v : Int) ∈ E.vars) ∧ ¬ ∃ k', k' < k ∧ Bind c i k' v) ∧
    H' = H ++ [.cells c.cs, boB st, boB st3]) E.binds.length ?_ ?_
   ·intro _
    refine ⟨0, zay st2 E.vars true, by omega, by omega, rfl, by simpa using hsl2, fun v => ?_, by simp [boB]⟩
    rw [zdt (by simpa [hsl2] using hvr)]
    simp
   rintro q t74 H' ⟨k, st3, hkl, rfl, rfl, hsl3, hI3, rfl⟩ hsc2 hlen2 hsF2 Kb17 hKb17
   by_cases hlt : k < E.binds.length
   ·have hbl : (E.binds[k]).length ≤ 10 := kbl _ (List.getElem_mem hlt)
    have hbr : ∀ x ∈ E.binds[k], 0 ≤ x ∧ x < (c.vars.length : Int) := fun x hx => hT.br ((hbd k x).2 ⟨_, List.getElem?_eq_getElem hlt, hx⟩)
    simp [zpl, hlt, ziI]
    refine zf3 (st := st3) (n := c.vars.length) (by simp) hsl3 (by omega) hbr _ ?_
    simp
    rw [zaq (by omega) (by omega)]
    refine hKb17 _ _ ⟨E.binds.length - (k + 1), by omega, Back.here (by simp) (hsX _) ?_ ⟨_, rfl, k + 1, zay st3 E.binds[k] false, by omega, rfl, by simp, by simpa using hsl3, fun v => ?_, rfl⟩⟩
    ·simp [zkc, AV.sc, AV.scV, AV.scA, AV.scB]
     try omega
    ·rw [ztl _ _ (fun x hx => (hbr x hx).1), hI3, and_assoc]
     refine and_congr Iff.rfl ?_
     constructor
     ·rintro ⟨h1, h2⟩ ⟨k', h3, h4⟩
      by_cases h5 : k' < k
      ·exact h1 ⟨k', h5, h4⟩
      ·obtain rfl : k' = k := by omega
       obtain ⟨l, h6, h7⟩ := (hbd k' v).1 h4
       rw [List.getElem?_eq_getElem hlt] at h6
       obtain rfl := Option.some.inj h6
       exact h2 h7
     ·intro h
      exact ⟨fun ⟨k', h1, h2⟩ => h ⟨k', by omega, h2⟩, fun h1 => h ⟨k, by omega, (hbd k v).2 ⟨_, List.getElem?_eq_getElem hlt, h1⟩⟩⟩
   ·obtain rfl : k = E.binds.length := by omega
    simp [zpl]
    refine back st3 hsl3 fun v => ?_
    rw [hI3, hI, split_le fun j => Sub c e j ∧ (v : Int) ∈ zb6 c j]
    have hk1 : (∃ k', k' < E.binds.length ∧ Bind c i k' v) ↔ ∃ k', Bind c i k' v := by
     constructor
     ·rintro ⟨k', _, h⟩; exact ⟨k', h⟩
     ·rintro ⟨k', h⟩
      obtain ⟨l, h1, _⟩ := (hbd k' v).1 h
      exact ⟨k', (List.getElem?_eq_some_iff.1 h1).1, h⟩
    rw [hk1, hva]
    constructor
    ·rintro ⟨h1, h2⟩
     refine ⟨?_, ?_⟩
     ·rcases h1 with ⟨h1, _⟩ | h1
      ·exact .inl h1
      ·exact .inr ⟨hs1, h1⟩
     ·rintro ⟨j, k', h3, h4, h5⟩
      by_cases h6 : j = i
      ·subst h6; exact h2 ⟨k', h5⟩
      ·rcases h1 with ⟨_, h1⟩ | h1
       ·exact h1 ⟨j, k', by omega, h4, h5⟩
       ·have := hT.bound_lt (hT.sc (by rw [hva]; exact h1)) h5
        omega
    ·rintro ⟨h1, h2⟩
     refine ⟨?_, fun ⟨k', h3⟩ => h2 ⟨i, k', Nat.le_refl _, hs1, h3⟩⟩
     rcases h1 with h1 | ⟨_, h1⟩
     ·exact .inl ⟨h1, fun ⟨j, k', h3, h4⟩ => h2 ⟨j, k', by omega, h4⟩⟩
     ·exact .inr h1
theorem zGl (c : Cor) (hk : zaK c) (e : Int) (H : zaa) (K : Kt) (hK : K (.sl (ints (zd9 c e)) .none) H) : ACalls tP zm4 [.agg c.cs, .int .i64 e] H K := by
 refine ACalls.out (zGk fun hs => ?_)
 have hat : c.cs = [.sl (c.data.map Dat.cs) .none, .sl (c.codes.map Cod.cs) .none, .sl (VT.css c.vars) .none, .sl (c.exprs.map CEx.cs) .none] := rfl
 have hcn := hk.2.1
 have hen := hk.2.2.1
 have hvn := hk.2.2.2.1.1
 simp [zvi, hat]
 rw [← hat]
 refine zwP c hk e _ _ (fun h => ?_) fun h => ?_
 rotate_left
 ·simp
  rw [zd9, zcX, if_neg h] at hK
  exact zf1 hs hK
 rw [zd9, zcX, if_pos h] at hK
 obtain ⟨g1, g2, hv⟩ := h
 have hT := ziS hk hv
 obtain ⟨e, rfl⟩ : ∃ n : Nat, e = n := ⟨e.toNat, by omega⟩
 rw [Int.toNat_natCast] at hK
 have hel : e < c.exprs.length := by omega
 have hsX : ∀ st, HSc (H ++ [.cells c.cs, boB st]) := fun st => hs.append (by simp [AB.sc, Cor.cs, boB, zcR])
 simp [hat]
 simp only [zaY, Int.toNat_natCast, zdA]
 refine ⟨⟨by omega, by omega, by omega, by omega⟩, ?_⟩
 simp [hel]
 rw [zez (by simpa using hel), ← hat]
 refine ⟨by omega, ?_⟩
 show zpo (.int .i64 e) (.ptr H.length 0) (.ms (H.length + 1) 0 c.exprs.length c.exprs.length) (.int .i64 e) (H ++ [.cells c.cs, boB ((List.replicate c.exprs.length false).set e true)]) (Out H.length K)
 refine zGh (Inv := fun q t6 H' => ∃ (i : Nat) (st : List Bool), e ≤ i ∧ i ≤ c.exprs.length ∧ q = c.exprs.length - i ∧ t6 = .int .i64 i ∧ st.length = c.exprs.length ∧
  (∀ j, st.getD j false = true ↔ j = e ∨ ∃ p k, p < i ∧ Sub c e p ∧ Kid c p k j) ∧ H' = H ++ [.cells c.cs, boB st]) (c.exprs.length - e) ?_ ?_
 ·intro _
  refine ⟨e, _, Nat.le_refl _, by omega, rfl, rfl, by simp, fun j => ?_, rfl⟩
  rw [zg6]
  constructor
  ·intro h
   split at h
   ·rename_i h1; exact .inl h1.1.symm
   ·rw [List.getD_eq_getElem?_getD, List.getElem?_replicate] at h
    split at h <;> simp at h
  ·rintro (rfl | ⟨p, k, h1, h2, h3⟩)
   ·rw [if_pos ⟨rfl, by simpa using hel⟩]
   ·have := hT.sub_le h2
    omega
 rintro q t6 H' ⟨i, st, hei, hil, rfl, rfl, hsl, hI, rfl⟩ hsc hlen hsF Kb hKb
 by_cases hlt : i < c.exprs.length
 ·obtain ⟨x, y, z, hvv, hx, hy, hz, hce⟩ := zcE hlt
  obtain ⟨_, kb, kk, _, kbl⟩ := zgM hk hlt
  have hka : zcg c i = (c.exprs[i]).kids := zbK hlt
  have hkr : ∀ x ∈ (c.exprs[i]).kids, 0 ≤ x ∧ x < (c.exprs.length : Int) := fun x hx => hT.kr i x (by rw [hka]; exact hx)
  generalize hE : c.exprs[i] = E at *
  have hsub : st.getD i false = true ↔ Sub c e i := by
   rw [hI]
   constructor
   ·rintro (rfl | ⟨p, k, _, h2, h3⟩)
    ·exact .refl
    ·exact .step h2 h3
   ·intro h
    cases h with
    | refl => exact .inl rfl
    | step h1 h2 => exact .inr ⟨_, _, (hT.lt h2).1, h1, h2⟩
  have his : i < st.length := by omega
  rw [zsl his] at hsub
  have back : ∀ st2 : List Bool, st2.length = c.exprs.length → (∀ j, st2.getD j false = true ↔ j = e ∨ ∃ p k, p < i + 1 ∧ Sub c e p ∧ Kid c p k j) →
    zke (.int .i64 e) (.ptr H.length 0) (.ms (H.length + 1) 0 c.exprs.length c.exprs.length) (.int .i64 i) (H ++ [.cells c.cs, boB st2]) (Out H.length K) Kb := fun st2 h1 h2 => by
   simp [zke, zvk]
   rw [zaq (by omega) (by omega)]
   refine hKb _ _ ⟨c.exprs.length - (i + 1), by omega, Back.here (by simp) (hsX _) ?_ ⟨_, rfl, i + 1, st2, by omega, by omega, rfl, by simp, h1, h2, rfl⟩⟩
   simp [zkd, AV.sc, AV.scV, AV.scA, AV.scB]
   try omega
  cases hb : st[i] with
  | false =>
   have hns : ¬ Sub c e i := by rw [← hsub, hb]; simp
   simp [zka, hat, hlt, boB, hsl, zaL, zhS his, his, hb]
   rw [← hat]
   refine back st hsl fun j => ?_
   rw [hI]
   refine or_congr Iff.rfl ⟨fun ⟨p, k, h1, h2⟩ => ⟨p, k, by omega, h2⟩, fun ⟨p, k, h1, h2, h3⟩ => ⟨p, k, ?_, h2, h3⟩⟩
   by_cases h4 : p = i
   ·subst h4; exact absurd h2 hns
   ·omega
  | true =>
   have hs1 := hsub.1 hb
   simp [zka, hat, hlt, boB, hsl, zaL, zhS his, his, hb, hE, hce]
   rw [← hat]
   refine zf3 (st := st) (n := c.exprs.length) (by simp [boB]) hsl (by omega) hkr _ ?_
   have := back (zay st E.kids true) (by simpa using hsl) (fun j => by
    rw [zdt (by simpa [hsl] using hkr), hI, or_assoc]
    refine or_congr Iff.rfl ⟨?_, ?_⟩
    ·rintro (⟨p, k, h1, h2⟩ | h)
     ·exact ⟨p, k, by omega, h2⟩
     ·obtain ⟨k, hk1, hk2⟩ := List.mem_iff_getElem.1 h
      exact ⟨i, k, by omega, hs1, by unfold Kid; rw [hka, List.getElem?_eq_getElem hk1, hk2]⟩
    ·rintro ⟨p, k, h1, h2, h3⟩
     by_cases h4 : p = i
     ·subst h4; exact .inr (by rw [← hka]; exact h3.mem)
     ·exact .inl ⟨p, k, by omega, h2, h3⟩)
   simpa [boB, hat] using this
 ·obtain rfl : i = c.exprs.length := by omega
  simp [zka, hat]
  simp only [zaY, Int.toNat_natCast, zdA]
  refine ⟨⟨by omega, by omega, by omega, by omega⟩, ?_⟩
  simp
  rw [zaq (by omega) (by omega), ← hat]
  have := zGe hk hT hs e hel K hK (st := st) hsl (fun j => by
   rw [hI]
   constructor
   ·rintro (rfl | ⟨p, k, _, h2, h3⟩)
    ·exact .refl
    ·exact .step h2 h3
   ·intro h
    cases h with
    | refl => exact .inl rfl
    | step h1 h2 =>
     have := hT.lt h2
     exact .inr ⟨_, _, by omega, h1, h2⟩)
  simpa [boB] using this
end Go.Proofs.Ytkdmpbhbmmhijaa
namespace Go.Abs
open Go Go.RowKit
variable {P : Program} {B : Nat} {w : World} {G : Gh} {H : zaa}
def ze1 (esz : Nat) (zero : List AV) (len : Nat) (parts : List (Nat × AV)) (H : zaa) (K : Kt) : Prop :=
 match zbc zero with
 | some z => (match zdc esz parts (List.replicate len z) with
  | some es => K (.ms H.length 0 len len) (H ++ [.cells es.flatten])
  | none => False)
 | none => False
theorem zzh {v : Value} {a : AV} (h : DRel w G.L v a) : ARel w G v a := by
 cases h with
 | bool b => rfl
 | int k n => rfl
 | str s => rfl
 | slE a cap => exact .slE a cap
 | sl b off cap esz es vs hne hcap hL hsz hc hd => exact .sl b off cap esz es vs hne hcap hL hsz hc hd
theorem zBk {t e : TypeId} {size len : Nat} {z : Value} {parts : Array (Nat × Value)} {aparts : List (Nat × AV)} {K : AV → zaa → Prop} (hH : HRel B w G H) (he : zbl P t = some e) (hn : za9 P e = some size)
  (hz : zbN P e = some z) (h0 : 0 < size) (hlen : len * size ≤ 16777216) (hzl : (zbr z).length = size)
  (hr : All2 (fun (p : Nat × Value) (q : Nat × AV) => p.1 = q.1 ∧ TRel w G p.2 q.2) parts.toList aparts) (h : ze1 size (zbr z) len aparts H K) :
  OpOK P B w G K (((do pure (.value (← Instr.buildSlice t len parts))) : Sem Next).run P w) := by
 unfold ze1 at h
 split at h
 ·rename_i zc hzc
  split at h
  ·rename_i es hes
   have hzr := zeM (w := w) (G := G) z
   have hzs : z.cells.size = size := by have := hzr.length; simp at this; omega
   have hzd := zfh hzr hzc
   have hm := zmT hzd (by omega) len
   rw [hzs] at hm
   have hzcl : zc.length = size := by rw [znH hzc]; exact hzl
   have hall : ∀ c ∈ List.replicate len zc, c.length = size := fun c hc => by rw [List.eq_of_mem_replicate hc, hzcl]
   obtain ⟨cells', h1, h2, h3, h4⟩ := zmG parts.toList aparts _ _ es hall hr hm hes
   simp at h4
   obtain ⟨hx, hH'⟩ := hH.new cells' e es.flatten (h2.mono fun _ _ => zzh)
   have hrun : ((do pure (.value (← Instr.buildSlice t len parts))) : Sem Next).run P w = .ok (.value (.slice (some ⟨w.heap.size, 0, none⟩) len len)) (w.alloc (.cells cells' e)) := by
    have hbig : ¬ (2 ^ 24 < len * size) := by omega
    by_cases hl0 : len * size = 0
    ·have hl : len = 0 := by rcases Nat.mul_eq_zero.1 hl0 with h | h <;> omega
     subst hl
     simp only [Nat.zero_mul, Array.range_zero', Array.map_empty] at h1
     simp [Instr.buildSlice, za4 (zcM he), zb5 hn, h1, newRow, World.alloc_eq, Array.range_zero']
    ·simp [Instr.buildSlice, za4 (zcM he), zb5 hn, zfj hz, hbig, hl0, hzs, h1, newRow, World.alloc_eq]
   rw [hrun]
   refine ⟨.ms H.length 0 len len, _, _, hx, hH', ⟨w.heap.size, ?_, rfl⟩, h⟩
   rw [← hH.len]; simp
  ·exact h.elim
 ·exact h.elim
def zmj (P : Program) (o : Oper) (F : List AV) (H : zaa) (K : Kt) : Prop :=
 match o.op with
 | .buildSlice t len parts => (match (zbl P t).bind (za9 P), (zbl P t).bind (zbN P) with
  | some size, some z => (match decide (0 < size) && decide (len * size ≤ 16777216) && (zbr z).length == size with
   | true => ze1 size (zbr z) len (parts.toList.map fun p => (p.1, ev F p.2)) H K
   | false => False)
  | _, _ => False)
 | _ => aop P o F H K
theorem zz0 {o : Oper} {a : Act} {F : List AV} {K : AV → zaa → Prop} (hH : HRel B w G H) (hF : FRel w G a.tmps F) (h : zmj P o F H K) : OpOK P B w G K ((execOp a.eval o).run P w) := by
 unfold zmj at h
 split at h
 ·rename_i t len parts hop
  obtain ⟨dst, op, type, pos, after, guard⟩ := o
  simp only [] at hop
  subst hop
  simp only [execOp]
  split at h
  ·rename_i size z hs hz
   split at h
   ·rename_i hb
    simp only [Bool.and_eq_true, decide_eq_true_eq, beq_iff_eq] at hb
    cases he : zbl P t with
    | none => simp [he] at hs
    | some e =>
     simp only [he, Option.bind_some] at hs hz
     exact zBk hH he hs hz hb.1.1 hb.1.2 hb.2 (by simpa using znG hF parts.toList) h
   ·exact h.elim
  ·exact h.elim
 ·exact zg1 hH hF h
def ziJ (P : Program) : List Oper → Lt → List AV → zaa → Prop
 | [], K, F, H => K F H
 | o :: os, K, F, H => match o.guard with
  | none => zmj P o F H fun v H' => ziJ P os K (zbL F o.dst v) H'
  | some _ => False
theorem zte {ops : Array Oper} {K : List AV → zaa → Prop} {Q : Exit → Act → World → Prop} {w0 : World} {G0 : Gh}
  (hQ : ∀ a w G F H, Ext B w0 G0 w G → HRel B w G H → FRel w G a.tmps F → a.defers = [] → K F H → Q .normal a w) :
  ∀ (l : List Oper) (F : List AV) (H : zaa) (a : Act) (w : World) (G : Gh), Ext B w0 G0 w G → HRel B w G H → FRel w G a.tmps F → a.defers = [] → ziJ P l K F H → wpList P ops Q l a w
 | [], F, H, a, w, G, hE, hH, hF, hd, h => hQ a w G F H hE hH hF hd h
 | o :: l, F, H, a, w, G, hE, hH, hF, hd, h => by
  refine wpList_step fun K' hK' => ?_
  unfold ziJ at h
  split at h
  ·rename_i hg
   rw [if_pos (by simp [Region.wanted, hg])]
   exact zg2 hF (zz0 hH hF h) fun v av w' G' H' h1 h2 h3 h4 =>
    hK' _ _ (zte hQ l _ _ _ _ G' (hE.trans h1) h2 ((hF.ext h1).put h3) (by cases hdst : o.dst <;> simpa [Act.put, hdst] using hd) h4)
  ·exact h.elim
def zgA (P : Program) : Code → (AExit → List AV → zaa → Prop) → List AV → zaa → Prop
 | .region _ ops false, Q, F, H => ziJ P ops.toList (Q .normal) F H
 | .seq a b, Q, F, H => zgA P a (zei (zgA P b Q) Q) F H
 | .ret, Q, F, H => Q .ret F H
 | _, _, _, _ => False
theorem zys : ∀ (c : Code) (Q : AExit → List AV → zaa → Prop) (F : List AV) (H : zaa), zgA P c Q F H → AWp P c Q F H := by
 intro c
 induction c with
 | region id ops draw =>
  intro Q F H h B w G a hH hF hd
  cases draw with
  | false =>
   refine wp_region_list ?_
   exact zte (K := Q .normal) (fun a w G F H h1 h2 h3 h4 h5 => Post.of (e := .normal) h1 h2 h3 h4 h5) ops.toList F H a w G (Ext.refl _ _ _) hH hF hd h
  | true => exact h.elim
 | seq x y ihx ihy =>
  intro Q F H h B w G a hH hF hd
  refine wp_seq (wp_mono (ihx _ F H h B w G a hH hF hd) fun e a' w' hp => ?_)
  obtain ⟨F', H', G', e', rfl, h1, h2, h3, h4, h5⟩ := hp
  cases e' with
  | normal =>
   refine wp_mono (ihy Q F' H' h5 B w' G' a' h2 h3 h4) fun e a'' w'' hp => ?_
   obtain ⟨F'', H'', G'', e'', rfl, k1, k2, k3, k4, k5⟩ := hp
   exact ⟨F'', H'', G'', e'', rfl, h1.trans k1, k2, k3, k4, k5⟩
  | exit id => exact Post.of (e := .exit id) h1 h2 h3 h4 h5
  | ret => exact Post.of (e := .ret) h1 h2 h3 h4 h5
 | ret => intro Q F H h B w G a hH hF hd; exact wp_ret (Post.of (e := .ret) (Ext.refl _ _ _) hH hF hd h)
 | _ => intro Q F H h; exact h.elim
theorem zyc {f : FuncId} {fn : Func} {c : Code} {args : List AV} {K : AV → zaa → Prop} (hf : P.funcs[f]? = some fn) (hb : fn.body = some c)
  (h : HSc H → zgA P c (zas P fn.results.toList K) (args ++ List.replicate (fn.ntmps - args.length) .unk) H) : ACalls P f args H K := by
 intro B w G vs hH hv
 refine calls_of_wp hf hb ?_
 have hF : FRel w G (vs ++ Array.replicate (fn.ntmps - vs.size) undef) (args ++ List.replicate (fn.ntmps - args.length) .unk) := by
  unfold FRel
  have hl : vs.size = args.length := by simpa using hv.length
  rw [hl]
  simpa using hv.append (All2.replicate (R := TRel w G) (a := undef) (b := .unk) trivial (fn.ntmps - args.length))
 refine wp_mono (zys c _ _ H (h hH.sc) B w G ⟨_, []⟩ hH hF rfl) fun e a' w' hp => ?_
 obtain ⟨F', H', G', e', rfl, h1, h2, h3, h4, h5⟩ := hp
 have fin : (zd2 P fn.results.toList F' H' fun vs => zaR vs (K · H')) → ∃ v, (results fn a'.tmps).run P w' = .ok v w' ∧ ∃ v' r H'' G'', Ending.returned v = .returned v' ∧ Ext B w G w' G'' ∧ HRel B w' G'' H'' ∧ TRel w' G'' v' r ∧ K r H'' := by
  intro h5
  obtain ⟨us, asx, k1, k2, k3⟩ := zg5 h2 h3 fn.results.toList _ h5
  have hres : (results fn a'.tmps).run P w' = .ok (if hh : us.toArray.size = 1 then us.toArray[0] else .tuple us.toArray) w' := by
   rw [znJ, Sem.run_bind, Array.mapM_eq_mapM_toList, Sem.run_map, k1]
   rfl
  refine ⟨_, hres, (if hh : us.toArray.size = 1 then us.toArray[0] else .tuple us.toArray), ?_⟩
  have hl := k2.length
  unfold zaR at k3
  split at k3
  ·rename_i r
   match us, hl, k2, hres with
   | [u], _, k2, _ => exact ⟨r, H', G', rfl, h1, h2, by simpa using k2.1, k3⟩
  ·rename_i hne
   refine ⟨.tup asx, H', G', rfl, h1, h2, ?_, k3.2⟩
   have hsz : ¬ us.toArray.size = 1 := by
    intro hs
    have : asx.length = 1 := by rw [← hl]; simpa using hs
    match asx, this with
    | [x], _ => exact hne x rfl
   rw [dif_neg hsz]
   exact ⟨us.toArray, rfl, zdj (p := AV.isV) (fun _ _ => zh0) k2 k3.1⟩
 cases e' with
 | normal => exact ⟨h4, fin h5⟩
 | ret => exact ⟨h4, fin h5⟩
 | exit id => exact h5.elim

end Go.Abs
