/- Owner and Parent. -/
import Derived.Test.YtkdmpbhbmmhijaaKQb
import Derived.Test.YtkdmpbhbmmhijaaKGW
namespace Go.Proofs.Ytkdmpbhbmmhijaa
open Go Go.Abs
set_option linter.unusedSimpArgs false
set_option linter.unusedVariables false
set_option maxRecDepth 8000
theorem SameInts_spec (x y : List Int) (hl : x.length ≤ 1000000) (H : Heap) (K : Kt) (hK : K (.bool (x == y)) H) : ACalls tP n_zq19 [.sl (ints x) .none, .sl (ints y) .none] H K := by
  refine ACalls.out (zq19_ok fun hs => ?_)
  have hO : ∀ r, (x == y) = r → Out H.length K (.bool r) H := fun r h => by
    have := Out.bool (H2 := H) (J := []) (n := H.length) (H' := H) (b := (x == y)) (by simp) (Nat.le_refl _) hs hK
    rwa [h] at this
  by_cases hxy : x.length = y.length
  · have h1 : ((x.length : Int) != y.length) = false := by simp [hxy]
    simp [zq19, h1]
    refine zq19_loop4 (Inv := fun q t13 H' => ∃ i : Nat, i ≤ x.length ∧ q = x.length - i ∧ t13 = .int .i64 i ∧ (x.drop i == y.drop i) = (x == y) ∧ H' = H) x.length ?_ ?_
    · intro _; exact ⟨0, by omega, by omega, rfl, by simp, rfl⟩
    rintro q t13 H' ⟨i, hi, rfl, rfl, ho, rfl⟩ hsc hlen hsF Kb hKb
    by_cases hlt : i < x.length
    · have hlt' : i < y.length := by omega
      rw [List.drop_eq_getElem_cons hlt, List.drop_eq_getElem_cons hlt', List.cons_beq_cons] at ho
      by_cases he : x[i] = y[i]
      · rw [he, beq_self_eq_true, Bool.true_and] at ho
        simp [zq19_b4, hlt, hlt', he]
        rw [wrap_in (by omega) (by omega)]
        refine hKb _ _ ⟨x.length - (i + 1), by omega, Back.here (Nat.le_refl _) hsc ?_ ⟨_, rfl, i + 1, by omega, rfl, by simp, ho, rfl⟩⟩
        simp [zq19_fr4, AV.sc, AV.scV, AV.scA, AV.scB]
      · rw [nb he, Bool.false_and] at ho
        simp [zq19_b4, hlt, hlt', nbt he]
        exact hO _ ho.symm
    · obtain rfl : i = x.length := by omega
      rw [List.drop_length, hxy, List.drop_length] at ho
      simp [zq19_b4]
      exact hO _ (by rw [← ho]; rfl)
  · have h1 : ((x.length : Int) != y.length) = true := nbt (by omega)
    simp [zq19, h1]
    refine hO _ ?_
    rw [beq_eq_false_iff_ne]
    intro h; exact hxy (by rw [h])
def ownC : List Cod → Nat → List Int → List Int
  | [], _, st => st
  | f :: l, i, st => ownC l (i + 1) (st.set f.body.toNat i)
def ownK (i : Nat) : List Int → List Int → List Int
  | [], st => st
  | k :: l, st => ownK i l (st.set k.toNat (st.getD i 0))
def ownE : List CEx → Nat → List Int → List Int
  | [], _, st => st
  | e :: l, i, st => ownE l (i + 1) (ownK i e.kids st)
def ownF (c : Cor) : List Int := ownE c.exprs 0 (ownC c.codes 0 (List.replicate c.exprs.length 0))
noncomputable def ownV (c : Cor) : List Int := if vOk c = true then ownF c else []
def parK (i : Nat) : List Int → List Int → List Int
  | [], st => st
  | k :: l, st => parK i l (st.set k.toNat i)
def parE : List CEx → Nat → List Int → List Int
  | [], _, st => st
  | e :: l, i, st => parE l (i + 1) (parK i e.kids st)
def parF (c : Cor) : List Int := parE c.exprs 0 (List.replicate c.exprs.length (-1))
noncomputable def parV (c : Cor) : List Int := if vOk c = true then parF c else []
theorem plain_ints (l : List Int) : plain (l.map fun n => AV.int .i64 n) = some (l.map fun n => AV.int .i64 n) := by
  induction l with
  | nil => rfl
  | cons a l ih => rw [List.map_cons, plain, ih]; rfl
theorem ints_flat (l : List Int) : (ints l).flatten = l.map fun n => AV.int .i64 n := by
  induction l with
  | nil => rfl
  | cons a l ih => simp [ints] at ih ⊢; exact ih
theorem out_us {H : Heap} {K : Kt} {st : List Int} {n : Nat} {X : AB} (hs : HSc H) (hn : st.length = n) (hK : K (.sl (ints st) .none) H) : Out H.length K (.ms (H.length + 1) 0 n n) (H ++ [X, usB st]) := by
  subst hn
  refine ⟨_, H, _, rfl, Nat.le_refl _, hs, .one (.frz (H.length + 1) 0 _ _ 1 (st.map fun n => .int .i64 n) (ints st) (by omega) (by simp [usB]) (by simp) ?_ (by simp) (by simp [ints]) (Nat.le_refl _)), hK⟩
  rw [List.drop_zero, List.take_of_length_le (by simp), plain_ints]
  rw [ints_flat]
structure BodP (c : Cor) : Prop where
  body : ∀ i (h : i < c.codes.length), ∃ b : Nat, (c.codes[i]).body = b ∧ b < c.exprs.length
  kids : ∀ i (h : i < c.exprs.length), ∀ k ∈ (c.exprs[i]).kids, (i : Int) < k ∧ k < c.exprs.length
theorem bod_of {c : Cor} (h : vOk c = true) : BodP c := by
  have h := (vOk_iff c).1 h
  exact ⟨fun i hi => by obtain ⟨_, _, _, _, b, h1, h2, _⟩ := h.codes i hi; exact ⟨b, h1, h2⟩, h.tree.kids⟩
theorem us_read {st : List Int} {i : Nat} (h : i < st.length) (k : AV → Prop) : aCells false 1 i (st.map fun n => AV.int .i64 n) k = k (.int .i64 st[i]) := aCells_one 1 (us_at h)
theorem zq54_E {c : Cor} (hk : KCore c) (hp : BodP c) {H : Heap} (hs : HSc H) (R : List Int) (K : Kt) (hK : K (.sl (ints R) .none) H) {st : List Int} (hst : st.length = c.exprs.length) (hR : ownE c.exprs 0 st = R) :
    zq54_l8 (.ms (H.length + 1) 0 c.exprs.length c.exprs.length) (.sl (c.exprs.map CEx.cs) .none) (.int .i64 c.exprs.length) (.int .i64 0) (H ++ [.cells c.cs, usB st]) (Out H.length K) := by
  obtain ⟨k1, k2, k3, ⟨k4, k5⟩, k6, k7⟩ := hk
  have hsX : ∀ st, HSc (H ++ [.cells c.cs, usB st]) := fun st => hs.append (by simp [AB.sc, Cor.cs, usB, AV.scA, AV.scB])
  refine zq54_loop8 (Inv := fun q tI H' => ∃ (i : Nat) (st : List Int), i ≤ c.exprs.length ∧ q = c.exprs.length - i ∧ tI = .int .i64 i ∧ st.length = c.exprs.length ∧ ownE (c.exprs.drop i) i st = R ∧ H' = H ++ [.cells c.cs, usB st]) c.exprs.length ?_ ?_
  · intro _; exact ⟨0, st, by omega, by omega, rfl, hst, hR, rfl⟩
  rintro q tI H' ⟨i, st, hi, rfl, rfl, hs1, ho, rfl⟩ hsc hlen hsF Kb hKb
  by_cases hlt : i < c.exprs.length
  · obtain ⟨x, y, z, hvv, hx, hy, hz, hce⟩ := ex_at hlt
    have hkd := hp.kids i hlt
    obtain ⟨_, _, kk, _⟩ := k7 _ (List.getElem_mem hlt)
    rw [List.drop_eq_getElem_cons hlt, ownE] at ho
    have hvs := VT.cs_scA (c.exprs[i]).ty (H.length + 3)
    rw [hvv] at hvs
    simp at hvs
    generalize hE : c.exprs[i] = E at *
    simp [zq54_b8, hlt, hE, hce, hx, hy, hz]
    have hsY : ∀ st, HSc (H ++ [.cells c.cs, usB st, .cells [.int .i64 E.op, .int .i64 E.num, .sl (ints E.vars) .none, .sl (rows E.binds) .none, .sl (ints E.kids) .none, x, y, z]]) := fun st => hs.append (by simp [AB.sc, Cor.cs, usB, AV.scA, AV.scB] at hvs ⊢; exact hvs)
    refine zq54_loop11 (Inv := fun q tJ H' => ∃ (j : Nat) (st : List Int), j ≤ E.kids.length ∧ q = E.kids.length - j ∧ tJ = .int .i64 j ∧ st.length = c.exprs.length ∧ ownE (c.exprs.drop (i + 1)) (i + 1) (ownK i (E.kids.drop j) st) = R ∧ H' = H ++ [.cells c.cs, usB st, .cells [.int .i64 E.op, .int .i64 E.num, .sl (ints E.vars) .none, .sl (rows E.binds) .none, .sl (ints E.kids) .none, x, y, z]]) E.kids.length ?_ ?_
    · intro _; exact ⟨0, st, by omega, by omega, rfl, hs1, by simpa using ho, rfl⟩
    rintro q tJ H' ⟨j, st1, hj, rfl, rfl, hs2, ho2, rfl⟩ hsc1 hlen1 hsF1 Kb1 hKb1
    by_cases hjl : j < E.kids.length
    · have hkr := hkd _ (List.getElem_mem hjl)
      obtain ⟨k, hkk⟩ : ∃ k : Nat, E.kids[j] = k := ⟨(E.kids[j]).toNat, by omega⟩
      have hkn : k < c.exprs.length := by omega
      have hks : k < st1.length := by omega
      have his : i < st1.length := by omega
      have hgd : st1.getD i 0 = st1[i] := by rw [List.getD_eq_getElem?_getD, List.getElem?_eq_getElem his]; rfl
      have hrd := fun k => us_read (st := st1) his k
      rw [List.drop_eq_getElem_cons hjl, ownK, hkk, Int.toNat_natCast] at ho2
      simp [zq54_b11, hjl, hkk, hkn, hlt, hs2, usB, hrd, his]
      rw [wrap_in (by omega) (by omega), us_set hks]
      rw [hgd] at ho2
      refine ⟨by omega, hKb1 _ _ ⟨E.kids.length - (j + 1), by omega, Back.here (by simp) (hsY _) ?_ ⟨_, rfl, j + 1, _, by omega, rfl, by simp, by simpa using hs2, ho2, rfl⟩⟩⟩
      simp [zq54_fr11, AV.sc, AV.scV, AV.scA, AV.scB]
    · obtain rfl : j = E.kids.length := by omega
      rw [List.drop_length, ownK] at ho2
      simp [zq54_b11]
      rw [wrap_in (by omega) (by omega)]
      refine hKb _ _ ⟨c.exprs.length - (i + 1), by omega, Back.at (J := [_]) (H2 := H ++ [.cells c.cs, usB st1]) (by simp; rfl) (by simp) (hsX _) ?_ ⟨_, rfl, i + 1, st1, by omega, rfl, by simp, hs2, ho2, rfl⟩⟩
      simp [zq54_fr8, AV.sc, AV.scV, AV.scA, AV.scB]
  · obtain rfl : i = c.exprs.length := by omega
    rw [List.drop_length, ownE] at ho
    subst ho
    simp [zq54_b8]
    exact out_us hs hs1 hK
theorem zq54_C {c : Cor} (hk : KCore c) (hp : BodP c) {H : Heap} (hs : HSc H) (K : Kt) (hK : K (.sl (ints (ownF c)) .none) H) :
    zq54_l3 (.ptr H.length 0) (.ms (H.length + 1) 0 c.exprs.length c.exprs.length) (.sl (c.codes.map Cod.cs) .none) (.int .i64 c.codes.length) (.int .i64 0) (H ++ [.cells c.cs, usB (List.replicate c.exprs.length 0)]) (Out H.length K) := by
  have hk' := hk
  obtain ⟨k1, k2, k3, ⟨k4, k5⟩, k6, k7⟩ := hk
  have hsX : ∀ st, HSc (H ++ [.cells c.cs, usB st]) := fun st => hs.append (by simp [AB.sc, Cor.cs, usB, AV.scA, AV.scB])
  refine zq54_loop3 (Inv := fun q tI H' => ∃ (i : Nat) (st : List Int), i ≤ c.codes.length ∧ q = c.codes.length - i ∧ tI = .int .i64 i ∧ st.length = c.exprs.length ∧ ownE c.exprs 0 (ownC (c.codes.drop i) i st) = ownF c ∧ H' = H ++ [.cells c.cs, usB st]) c.codes.length ?_ ?_
  · intro _; exact ⟨0, _, by omega, by omega, rfl, by simp, rfl, rfl⟩
  rintro q tI H' ⟨i, st, hi, rfl, rfl, hs1, ho, rfl⟩ hsc hlen hsF Kb hKb
  by_cases hlt : i < c.codes.length
  · obtain ⟨x, y, z, hvv, hx, hy, hz, hce⟩ := cod_at hlt
    obtain ⟨b, hb, hbl⟩ := hp.body i hlt
    rw [List.drop_eq_getElem_cons hlt, ownC, hb, Int.toNat_natCast] at ho
    have hbs : b < st.length := by omega
    simp [zq54_b3, hlt, hce, hx, hy, hz, hb, hbl, usB, hs1]
    rw [wrap_in (by omega) (by omega), us_set hbs]
    refine ⟨by omega, hKb _ _ ⟨c.codes.length - (i + 1), by omega, Back.at (J := [_]) (H2 := H ++ [.cells c.cs, usB (st.set b i)]) (by simp [usB]; rfl) (by simp) (hsX _) ?_ ⟨_, rfl, i + 1, _, by omega, rfl, by simp, by simpa using hs1, ho, rfl⟩⟩⟩
    simp [zq54_fr3, AV.sc, AV.scV, AV.scA, AV.scB]
  · obtain rfl : i = c.codes.length := by omega
    rw [List.drop_length, ownC] at ho
    have := zq54_E hk' hp hs _ K hK hs1 ho
    simp [zq54_b3, Cor.cs] at this ⊢
    exact this
theorem zq21_E {c : Cor} (hk : KCore c) (hp : BodP c) {H : Heap} (hs : HSc H) (R : List Int) (K : Kt) (hK : K (.sl (ints R) .none) H) {st : List Int} (hst : st.length = c.exprs.length) (hR : ownE c.exprs 0 st = R) :
    zq21_l10 (.ms (H.length + 1) 0 c.exprs.length c.exprs.length) (.sl (c.exprs.map CEx.cs) .none) (.int .i64 c.exprs.length) (.int .i64 0) (H ++ [.cells c.cs, usB st]) (Out H.length K) := by
  obtain ⟨k1, k2, k3, ⟨k4, k5⟩, k6, k7⟩ := hk
  have hsX : ∀ st, HSc (H ++ [.cells c.cs, usB st]) := fun st => hs.append (by simp [AB.sc, Cor.cs, usB, AV.scA, AV.scB])
  refine zq21_loop10 (Inv := fun q tI H' => ∃ (i : Nat) (st : List Int), i ≤ c.exprs.length ∧ q = c.exprs.length - i ∧ tI = .int .i64 i ∧ st.length = c.exprs.length ∧ ownE (c.exprs.drop i) i st = R ∧ H' = H ++ [.cells c.cs, usB st]) c.exprs.length ?_ ?_
  · intro _; exact ⟨0, st, by omega, by omega, rfl, hst, hR, rfl⟩
  rintro q tI H' ⟨i, st, hi, rfl, rfl, hs1, ho, rfl⟩ hsc hlen hsF Kb hKb
  by_cases hlt : i < c.exprs.length
  · obtain ⟨x, y, z, hvv, hx, hy, hz, hce⟩ := ex_at hlt
    have hkd := hp.kids i hlt
    obtain ⟨_, _, kk, _⟩ := k7 _ (List.getElem_mem hlt)
    rw [List.drop_eq_getElem_cons hlt, ownE] at ho
    have hvs := VT.cs_scA (c.exprs[i]).ty (H.length + 3)
    rw [hvv] at hvs
    simp at hvs
    generalize hE : c.exprs[i] = E at *
    simp [zq21_b10, hlt, hE, hce, hx, hy, hz]
    have hsY : ∀ st, HSc (H ++ [.cells c.cs, usB st, .cells [.int .i64 E.op, .int .i64 E.num, .sl (ints E.vars) .none, .sl (rows E.binds) .none, .sl (ints E.kids) .none, x, y, z]]) := fun st => hs.append (by simp [AB.sc, Cor.cs, usB, AV.scA, AV.scB] at hvs ⊢; exact hvs)
    refine zq21_loop13 (Inv := fun q tJ H' => ∃ (j : Nat) (st : List Int), j ≤ E.kids.length ∧ q = E.kids.length - j ∧ tJ = .int .i64 j ∧ st.length = c.exprs.length ∧ ownE (c.exprs.drop (i + 1)) (i + 1) (ownK i (E.kids.drop j) st) = R ∧ H' = H ++ [.cells c.cs, usB st, .cells [.int .i64 E.op, .int .i64 E.num, .sl (ints E.vars) .none, .sl (rows E.binds) .none, .sl (ints E.kids) .none, x, y, z]]) E.kids.length ?_ ?_
    · intro _; exact ⟨0, st, by omega, by omega, rfl, hs1, by simpa using ho, rfl⟩
    rintro q tJ H' ⟨j, st1, hj, rfl, rfl, hs2, ho2, rfl⟩ hsc1 hlen1 hsF1 Kb1 hKb1
    by_cases hjl : j < E.kids.length
    · have hkr := hkd _ (List.getElem_mem hjl)
      obtain ⟨k, hkk⟩ : ∃ k : Nat, E.kids[j] = k := ⟨(E.kids[j]).toNat, by omega⟩
      have hkn : k < c.exprs.length := by omega
      have hks : k < st1.length := by omega
      have hgt : (i : Int) < k := by omega
      have hgt' : i < k := by omega
      have his : i < st1.length := by omega
      have hgd : st1.getD i 0 = st1[i] := by rw [List.getD_eq_getElem?_getD, List.getElem?_eq_getElem his]; rfl
      have hrd := fun k => us_read (st := st1) his k
      rw [List.drop_eq_getElem_cons hjl, ownK, hkk, Int.toNat_natCast] at ho2
      simp [zq21_b13, zq21_j1, zq21_j2, hjl, hkk, hkn, hlt, hs2, usB, hrd, his, hgt, hgt']
      rw [wrap_in (by omega) (by omega), us_set hks]
      rw [hgd] at ho2
      refine ⟨by omega, hKb1 _ _ ⟨E.kids.length - (j + 1), by omega, Back.here (by simp) (hsY _) ?_ ⟨_, rfl, j + 1, _, by omega, rfl, by simp, by simpa using hs2, ho2, rfl⟩⟩⟩
      simp [zq21_fr13, AV.sc, AV.scV, AV.scA, AV.scB]
    · obtain rfl : j = E.kids.length := by omega
      rw [List.drop_length, ownK] at ho2
      simp [zq21_b13]
      rw [wrap_in (by omega) (by omega)]
      refine hKb _ _ ⟨c.exprs.length - (i + 1), by omega, Back.at (J := [_]) (H2 := H ++ [.cells c.cs, usB st1]) (by simp; rfl) (by simp) (hsX _) ?_ ⟨_, rfl, i + 1, st1, by omega, rfl, by simp, hs2, ho2, rfl⟩⟩
      simp [zq21_fr10, AV.sc, AV.scV, AV.scA, AV.scB]
  · obtain rfl : i = c.exprs.length := by omega
    rw [List.drop_length, ownE] at ho
    subst ho
    simp [zq21_b10]
    exact out_us hs hs1 hK
theorem zq21_C {c : Cor} (hk : KCore c) (hp : BodP c) {H : Heap} (hs : HSc H) (K : Kt) (hK : K (.sl (ints (ownF c)) .none) H) :
    zq21_l5 (.ptr H.length 0) (.ms (H.length + 1) 0 c.exprs.length c.exprs.length) (.sl (c.codes.map Cod.cs) .none) (.int .i64 c.codes.length) (.int .i64 0) (H ++ [.cells c.cs, usB (List.replicate c.exprs.length 0)]) (Out H.length K) := by
  have hk' := hk
  obtain ⟨k1, k2, k3, ⟨k4, k5⟩, k6, k7⟩ := hk
  have hsX : ∀ st, HSc (H ++ [.cells c.cs, usB st]) := fun st => hs.append (by simp [AB.sc, Cor.cs, usB, AV.scA, AV.scB])
  refine zq21_loop5 (Inv := fun q tI H' => ∃ (i : Nat) (st : List Int), i ≤ c.codes.length ∧ q = c.codes.length - i ∧ tI = .int .i64 i ∧ st.length = c.exprs.length ∧ ownE c.exprs 0 (ownC (c.codes.drop i) i st) = ownF c ∧ H' = H ++ [.cells c.cs, usB st]) c.codes.length ?_ ?_
  · intro _; exact ⟨0, _, by omega, by omega, rfl, by simp, rfl, rfl⟩
  rintro q tI H' ⟨i, st, hi, rfl, rfl, hs1, ho, rfl⟩ hsc hlen hsF Kb hKb
  by_cases hlt : i < c.codes.length
  · obtain ⟨x, y, z, hvv, hx, hy, hz, hce⟩ := cod_at hlt
    obtain ⟨b, hb, hbl⟩ := hp.body i hlt
    rw [List.drop_eq_getElem_cons hlt, ownC, hb, Int.toNat_natCast] at ho
    have hbs : b < st.length := by omega
    simp [zq21_b5, hlt, hce, hx, hy, hz, hb, hbl, usB, hs1]
    rw [wrap_in (by omega) (by omega), us_set hbs]
    refine ⟨by omega, hKb _ _ ⟨c.codes.length - (i + 1), by omega, Back.at (J := [_]) (H2 := H ++ [.cells c.cs, usB (st.set b i)]) (by simp [usB]; rfl) (by simp) (hsX _) ?_ ⟨_, rfl, i + 1, _, by omega, rfl, by simp, by simpa using hs1, ho, rfl⟩⟩⟩
    simp [zq21_fr5, AV.sc, AV.scV, AV.scA, AV.scB]
  · obtain rfl : i = c.codes.length := by omega
    rw [List.drop_length, ownC] at ho
    have := zq21_E hk' hp hs _ K hK hs1 ho
    simp [zq21_b5, Cor.cs] at this ⊢
    exact this
theorem zq22_E {c : Cor} (hk : KCore c) (hp : BodP c) {H : Heap} (hs : HSc H) (R : List Int) (K : Kt) (hK : K (.sl (ints R) .none) H) {st : List Int} (hst : st.length = c.exprs.length) (hR : parE c.exprs 0 st = R) :
    zq22_l10 (.ms (H.length + 1) 0 c.exprs.length c.exprs.length) (.sl (c.exprs.map CEx.cs) .none) (.int .i64 c.exprs.length) (.int .i64 0) (H ++ [.cells c.cs, usB st]) (Out H.length K) := by
  obtain ⟨k1, k2, k3, ⟨k4, k5⟩, k6, k7⟩ := hk
  have hsX : ∀ st, HSc (H ++ [.cells c.cs, usB st]) := fun st => hs.append (by simp [AB.sc, Cor.cs, usB, AV.scA, AV.scB])
  refine zq22_loop10 (Inv := fun q tI H' => ∃ (i : Nat) (st : List Int), i ≤ c.exprs.length ∧ q = c.exprs.length - i ∧ tI = .int .i64 i ∧ st.length = c.exprs.length ∧ parE (c.exprs.drop i) i st = R ∧ H' = H ++ [.cells c.cs, usB st]) c.exprs.length ?_ ?_
  · intro _; exact ⟨0, st, by omega, by omega, rfl, hst, hR, rfl⟩
  rintro q tI H' ⟨i, st, hi, rfl, rfl, hs1, ho, rfl⟩ hsc hlen hsF Kb hKb
  by_cases hlt : i < c.exprs.length
  · obtain ⟨x, y, z, hvv, hx, hy, hz, hce⟩ := ex_at hlt
    have hkd := hp.kids i hlt
    obtain ⟨_, _, kk, _⟩ := k7 _ (List.getElem_mem hlt)
    rw [List.drop_eq_getElem_cons hlt, parE] at ho
    have hvs := VT.cs_scA (c.exprs[i]).ty (H.length + 3)
    rw [hvv] at hvs
    simp at hvs
    generalize hE : c.exprs[i] = E at *
    simp [zq22_b10, hlt, hE, hce, hx, hy, hz]
    have hsY : ∀ st, HSc (H ++ [.cells c.cs, usB st, .cells [.int .i64 E.op, .int .i64 E.num, .sl (ints E.vars) .none, .sl (rows E.binds) .none, .sl (ints E.kids) .none, x, y, z]]) := fun st => hs.append (by simp [AB.sc, Cor.cs, usB, AV.scA, AV.scB] at hvs ⊢; exact hvs)
    refine zq22_loop13 (Inv := fun q tJ H' => ∃ (j : Nat) (st : List Int), j ≤ E.kids.length ∧ q = E.kids.length - j ∧ tJ = .int .i64 j ∧ st.length = c.exprs.length ∧ parE (c.exprs.drop (i + 1)) (i + 1) (parK i (E.kids.drop j) st) = R ∧ H' = H ++ [.cells c.cs, usB st, .cells [.int .i64 E.op, .int .i64 E.num, .sl (ints E.vars) .none, .sl (rows E.binds) .none, .sl (ints E.kids) .none, x, y, z]]) E.kids.length ?_ ?_
    · intro _; exact ⟨0, st, by omega, by omega, rfl, hs1, by simpa using ho, rfl⟩
    rintro q tJ H' ⟨j, st1, hj, rfl, rfl, hs2, ho2, rfl⟩ hsc1 hlen1 hsF1 Kb1 hKb1
    by_cases hjl : j < E.kids.length
    · have hkr := hkd _ (List.getElem_mem hjl)
      obtain ⟨k, hkk⟩ : ∃ k : Nat, E.kids[j] = k := ⟨(E.kids[j]).toNat, by omega⟩
      have hkn : k < c.exprs.length := by omega
      have hks : k < st1.length := by omega
      rw [List.drop_eq_getElem_cons hjl, parK, hkk, Int.toNat_natCast] at ho2
      simp [zq22_b13, hjl, hkk, hkn, hlt, hs2, usB]
      rw [wrap_in (by omega) (by omega), us_set hks]
      refine ⟨by omega, hKb1 _ _ ⟨E.kids.length - (j + 1), by omega, Back.here (by simp) (hsY _) ?_ ⟨_, rfl, j + 1, _, by omega, rfl, by simp, by simpa using hs2, ho2, rfl⟩⟩⟩
      simp [zq22_fr13, AV.sc, AV.scV, AV.scA, AV.scB]
    · obtain rfl : j = E.kids.length := by omega
      rw [List.drop_length, parK] at ho2
      simp [zq22_b13]
      rw [wrap_in (by omega) (by omega)]
      refine hKb _ _ ⟨c.exprs.length - (i + 1), by omega, Back.at (J := [_]) (H2 := H ++ [.cells c.cs, usB st1]) (by simp; rfl) (by simp) (hsX _) ?_ ⟨_, rfl, i + 1, st1, by omega, rfl, by simp, hs2, ho2, rfl⟩⟩
      simp [zq22_fr10, AV.sc, AV.scV, AV.scA, AV.scB]
  · obtain rfl : i = c.exprs.length := by omega
    rw [List.drop_length, parE] at ho
    subst ho
    simp [zq22_b10]
    exact out_us hs hs1 hK
theorem zq23_E {c : Cor} (hk : KCore c) (hp : BodP c) {H : Heap} (hs : HSc H) (R : List Int) (K : Kt) (hK : K (.sl (ints R) .none) H) {st : List Int} (hst : st.length = c.exprs.length) (hR : parE c.exprs 0 st = R) :
    zq23_l10 (.ms (H.length + 1) 0 c.exprs.length c.exprs.length) (.sl (c.exprs.map CEx.cs) .none) (.int .i64 c.exprs.length) (.int .i64 0) (H ++ [.cells c.cs, usB st]) (Out H.length K) := by
  obtain ⟨k1, k2, k3, ⟨k4, k5⟩, k6, k7⟩ := hk
  have hsX : ∀ st, HSc (H ++ [.cells c.cs, usB st]) := fun st => hs.append (by simp [AB.sc, Cor.cs, usB, AV.scA, AV.scB])
  refine zq23_loop10 (Inv := fun q tI H' => ∃ (i : Nat) (st : List Int), i ≤ c.exprs.length ∧ q = c.exprs.length - i ∧ tI = .int .i64 i ∧ st.length = c.exprs.length ∧ parE (c.exprs.drop i) i st = R ∧ H' = H ++ [.cells c.cs, usB st]) c.exprs.length ?_ ?_
  · intro _; exact ⟨0, st, by omega, by omega, rfl, hst, hR, rfl⟩
  rintro q tI H' ⟨i, st, hi, rfl, rfl, hs1, ho, rfl⟩ hsc hlen hsF Kb hKb
  by_cases hlt : i < c.exprs.length
  · obtain ⟨x, y, z, hvv, hx, hy, hz, hce⟩ := ex_at hlt
    have hkd := hp.kids i hlt
    obtain ⟨_, _, kk, _⟩ := k7 _ (List.getElem_mem hlt)
    rw [List.drop_eq_getElem_cons hlt, parE] at ho
    have hvs := VT.cs_scA (c.exprs[i]).ty (H.length + 3)
    rw [hvv] at hvs
    simp at hvs
    generalize hE : c.exprs[i] = E at *
    simp [zq23_b10, hlt, hE, hce, hx, hy, hz]
    have hsY : ∀ st, HSc (H ++ [.cells c.cs, usB st, .cells [.int .i64 E.op, .int .i64 E.num, .sl (ints E.vars) .none, .sl (rows E.binds) .none, .sl (ints E.kids) .none, x, y, z]]) := fun st => hs.append (by simp [AB.sc, Cor.cs, usB, AV.scA, AV.scB] at hvs ⊢; exact hvs)
    refine zq23_loop13 (Inv := fun q tJ H' => ∃ (j : Nat) (st : List Int), j ≤ E.kids.length ∧ q = E.kids.length - j ∧ tJ = .int .i64 j ∧ st.length = c.exprs.length ∧ parE (c.exprs.drop (i + 1)) (i + 1) (parK i (E.kids.drop j) st) = R ∧ H' = H ++ [.cells c.cs, usB st, .cells [.int .i64 E.op, .int .i64 E.num, .sl (ints E.vars) .none, .sl (rows E.binds) .none, .sl (ints E.kids) .none, x, y, z]]) E.kids.length ?_ ?_
    · intro _; exact ⟨0, st, by omega, by omega, rfl, hs1, by simpa using ho, rfl⟩
    rintro q tJ H' ⟨j, st1, hj, rfl, rfl, hs2, ho2, rfl⟩ hsc1 hlen1 hsF1 Kb1 hKb1
    by_cases hjl : j < E.kids.length
    · have hkr := hkd _ (List.getElem_mem hjl)
      obtain ⟨k, hkk⟩ : ∃ k : Nat, E.kids[j] = k := ⟨(E.kids[j]).toNat, by omega⟩
      have hkn : k < c.exprs.length := by omega
      have hks : k < st1.length := by omega
      rw [List.drop_eq_getElem_cons hjl, parK, hkk, Int.toNat_natCast] at ho2
      simp [zq23_b13, hjl, hkk, hkn, hlt, hs2, usB]
      rw [wrap_in (by omega) (by omega), us_set hks]
      refine ⟨by omega, hKb1 _ _ ⟨E.kids.length - (j + 1), by omega, Back.here (by simp) (hsY _) ?_ ⟨_, rfl, j + 1, _, by omega, rfl, by simp, by simpa using hs2, ho2, rfl⟩⟩⟩
      simp [zq23_fr13, AV.sc, AV.scV, AV.scA, AV.scB]
    · obtain rfl : j = E.kids.length := by omega
      rw [List.drop_length, parK] at ho2
      simp [zq23_b13]
      rw [wrap_in (by omega) (by omega)]
      refine hKb _ _ ⟨c.exprs.length - (i + 1), by omega, Back.at (J := [_]) (H2 := H ++ [.cells c.cs, usB st1]) (by simp; rfl) (by simp) (hsX _) ?_ ⟨_, rfl, i + 1, st1, by omega, rfl, by simp, hs2, ho2, rfl⟩⟩
      simp [zq23_fr10, AV.sc, AV.scV, AV.scA, AV.scB]
  · obtain rfl : i = c.exprs.length := by omega
    rw [List.drop_length, parE] at ho
    subst ho
    simp [zq23_b10]
    exact out_us hs hs1 hK
theorem zq54_spec (c : Cor) (hk : KCore c) (hp : BodP c) (H : Heap) (K : Kt) (hK : K (.sl (ints (ownF c)) .none) H) : ACalls tP n_zq54 [.agg c.cs] H K := by
  refine ACalls.out (zq54_ok fun hs => ?_)
  have hk' := hk
  obtain ⟨k1, k2, k3, ⟨k4, k5⟩, k6, k7⟩ := hk'
  have := zq54_C hk hp hs K hK
  simp [zq54, Cor.cs] at this ⊢
  simp only [aMake, Int.toNat_natCast, rep_us]
  refine ⟨⟨by omega, by omega, by omega, by omega⟩, ?_⟩
  simpa [usB] using this
theorem out_nil {H J : Heap} {K : Kt} (hs : HSc H) (hK : K (.sl (ints []) .none) H) : Out H.length K .snil (H ++ J) := Out.one hs (.atom .snil) rfl rfl hK
theorem zq20_spec (c : Cor) (hk : KCore c) (H : Heap) (K : Kt) (hK : K (.sl (ints (ownV c)) .none) H) : ACalls tP n_zq20 [.agg c.cs] H K := by
  refine ACalls.out (zq20_ok fun hs => ?_)
  have hat : c.cs = [.sl (c.data.map Dat.cs) .none, .sl (c.codes.map Cod.cs) .none, .sl (VT.css c.vars) .none, .sl (c.exprs.map CEx.cs) .none] := rfl
  simp [zq20, hat]
  rw [← hat]
  refine zq11_b c hk _ _ ?_
  cases hv : vOk c with
  | false =>
    rw [ownV, if_neg (by simp [hv])] at hK
    simp
    exact out_nil hs hK
  | true =>
    rw [ownV, if_pos hv] at hK
    simp [hat]
    rw [← hat]
    refine zq54_spec c hk (bod_of hv) _ _ ?_
    exact Out.one hs .rfl' rfl rfl hK
theorem zq21_spec (c : Cor) (hk : KCore c) (H : Heap) (K : Kt) (hK : K (.sl (ints (ownV c)) .none) H) : ACalls tP n_zq21 [.agg c.cs] H K := by
  refine ACalls.out (zq21_ok fun hs => ?_)
  have hk' := hk
  obtain ⟨k1, k2, k3, ⟨k4, k5⟩, k6, k7⟩ := hk'
  have hat : c.cs = [.sl (c.data.map Dat.cs) .none, .sl (c.codes.map Cod.cs) .none, .sl (VT.css c.vars) .none, .sl (c.exprs.map CEx.cs) .none] := rfl
  simp [zq21, hat]
  rw [← hat]
  refine zq12_b c hk _ _ ?_
  cases hv : vOk c with
  | false =>
    rw [ownV, if_neg (by simp [hv])] at hK
    simp
    exact out_nil hs hK
  | true =>
    rw [ownV, if_pos hv] at hK
    have := zq21_C hk (bod_of hv) hs K hK
    simp [Cor.cs] at this ⊢
    simp only [aMake, Int.toNat_natCast, rep_us]
    refine ⟨⟨by omega, by omega, by omega, by omega⟩, ?_⟩
    simpa [usB] using this
theorem zq22_spec (c : Cor) (hk : KCore c) (H : Heap) (K : Kt) (hK : K (.sl (ints (parV c)) .none) H) : ACalls tP n_zq22 [.agg c.cs] H K := by
  refine ACalls.out (zq22_ok fun hs => ?_)
  have hk' := hk
  obtain ⟨k1, k2, k3, ⟨k4, k5⟩, k6, k7⟩ := hk'
  have hat : c.cs = [.sl (c.data.map Dat.cs) .none, .sl (c.codes.map Cod.cs) .none, .sl (VT.css c.vars) .none, .sl (c.exprs.map CEx.cs) .none] := rfl
  simp [zq22, hat]
  rw [← hat]
  refine zq11_b c hk _ _ ?_
  cases hv : vOk c with
  | false =>
    rw [parV, if_neg (by simp [hv])] at hK
    simp
    exact out_nil hs hK
  | true =>
    rw [parV, if_pos hv] at hK
    have hsX : ∀ st, HSc (H ++ [.cells c.cs, usB st]) := fun st => hs.append (by simp [AB.sc, Cor.cs, usB, AV.scA, AV.scB])
    simp [hat]
    simp only [aMake, Int.toNat_natCast, rep_us]
    refine ⟨⟨by omega, by omega, by omega, by omega⟩, ?_⟩
    simp
    rw [← hat, show AB.cells (List.replicate c.exprs.length (AV.int .i64 0)) = usB (List.replicate c.exprs.length 0) by simp [usB]]
    refine zq22_loop5 (Inv := fun q tI H' => ∃ i : Nat, i ≤ c.exprs.length ∧ q = c.exprs.length - i ∧ tI = .int .i64 i ∧ H' = H ++ [.cells c.cs, usB (List.replicate i (-1) ++ List.replicate (c.exprs.length - i) 0)]) c.exprs.length ?_ ?_
    · intro _; exact ⟨0, by omega, by omega, rfl, by simp⟩
    rintro q tI H' ⟨i, hi, rfl, rfl, rfl⟩ hsc hlen hsF Kb hKb
    by_cases hlt : i < c.exprs.length
    · have hil : i < (List.replicate i (-1 : Int) ++ List.replicate (c.exprs.length - i) 0).length := by simp; omega
      have hset : (List.replicate i (-1 : Int) ++ List.replicate (c.exprs.length - i) 0).set i (-1) = List.replicate (i + 1) (-1) ++ List.replicate (c.exprs.length - (i + 1)) 0 := by
        rw [List.set_append_right _ _ (by simp), List.replicate_succ', List.append_assoc]
        congr 1
        rw [show c.exprs.length - i = (c.exprs.length - (i + 1)) + 1 by omega, List.replicate_succ]
        simp
      have hus := us_set hil (-1)
      rw [hset] at hus
      generalize hst : List.replicate i (-1 : Int) ++ List.replicate (c.exprs.length - i) 0 = st at *
      have hsl : st.length = c.exprs.length := by rw [← hst]; simp; omega
      simp [zq22_b5, hlt, usB, hsl]
      rw [wrap_in (by omega) (by omega), hus]
      refine ⟨by omega, hKb _ _ ⟨c.exprs.length - (i + 1), by omega, Back.here (by simp) (hsX _) ?_ ⟨_, rfl, i + 1, by omega, rfl, by simp, rfl⟩⟩⟩
      simp [zq22_fr5, AV.sc, AV.scV, AV.scA, AV.scB]
    · obtain rfl : i = c.exprs.length := by omega
      have := zq22_E hk (bod_of hv) hs _ K hK (st := List.replicate c.exprs.length (-1)) (by simp) rfl
      simp [zq22_b5, Cor.cs] at this ⊢
      exact this
theorem zq23_spec (c : Cor) (hk : KCore c) (H : Heap) (K : Kt) (hK : K (.sl (ints (parV c)) .none) H) : ACalls tP n_zq23 [.agg c.cs] H K := by
  refine ACalls.out (zq23_ok fun hs => ?_)
  have hk' := hk
  obtain ⟨k1, k2, k3, ⟨k4, k5⟩, k6, k7⟩ := hk'
  have hat : c.cs = [.sl (c.data.map Dat.cs) .none, .sl (c.codes.map Cod.cs) .none, .sl (VT.css c.vars) .none, .sl (c.exprs.map CEx.cs) .none] := rfl
  simp [zq23, hat]
  rw [← hat]
  refine zq12_b c hk _ _ ?_
  cases hv : vOk c with
  | false =>
    rw [parV, if_neg (by simp [hv])] at hK
    simp
    exact out_nil hs hK
  | true =>
    rw [parV, if_pos hv] at hK
    have hsX : ∀ st, HSc (H ++ [.cells c.cs, usB st]) := fun st => hs.append (by simp [AB.sc, Cor.cs, usB, AV.scA, AV.scB])
    simp [hat]
    simp only [aMake, Int.toNat_natCast, rep_us]
    refine ⟨⟨by omega, by omega, by omega, by omega⟩, ?_⟩
    simp
    rw [← hat, show AB.cells (List.replicate c.exprs.length (AV.int .i64 0)) = usB (List.replicate c.exprs.length 0) by simp [usB]]
    refine zq23_loop5 (Inv := fun q tI H' => ∃ i : Nat, i ≤ c.exprs.length ∧ q = c.exprs.length - i ∧ tI = .int .i64 i ∧ H' = H ++ [.cells c.cs, usB (List.replicate i (-1) ++ List.replicate (c.exprs.length - i) 0)]) c.exprs.length ?_ ?_
    · intro _; exact ⟨0, by omega, by omega, rfl, by simp⟩
    rintro q tI H' ⟨i, hi, rfl, rfl, rfl⟩ hsc hlen hsF Kb hKb
    by_cases hlt : i < c.exprs.length
    · have hil : i < (List.replicate i (-1 : Int) ++ List.replicate (c.exprs.length - i) 0).length := by simp; omega
      have hset : (List.replicate i (-1 : Int) ++ List.replicate (c.exprs.length - i) 0).set i (-1) = List.replicate (i + 1) (-1) ++ List.replicate (c.exprs.length - (i + 1)) 0 := by
        rw [List.set_append_right _ _ (by simp), List.replicate_succ', List.append_assoc]
        congr 1
        rw [show c.exprs.length - i = (c.exprs.length - (i + 1)) + 1 by omega, List.replicate_succ]
        simp
      have hus := us_set hil (-1)
      rw [hset] at hus
      generalize hst : List.replicate i (-1 : Int) ++ List.replicate (c.exprs.length - i) 0 = st at *
      have hsl : st.length = c.exprs.length := by rw [← hst]; simp; omega
      simp [zq23_b5, hlt, usB, hsl]
      rw [wrap_in (by omega) (by omega), hus]
      refine ⟨by omega, hKb _ _ ⟨c.exprs.length - (i + 1), by omega, Back.here (by simp) (hsX _) ?_ ⟨_, rfl, i + 1, by omega, rfl, by simp, rfl⟩⟩⟩
      simp [zq23_fr5, AV.sc, AV.scV, AV.scA, AV.scB]
    · obtain rfl : i = c.exprs.length := by omega
      have := zq23_E hk (bod_of hv) hs _ K hK (st := List.replicate c.exprs.length (-1)) (by simp) rfl
      simp [zq23_b5, Cor.cs] at this ⊢
      exact this
theorem ownC_len : ∀ (l : List Cod) (i : Nat) (st : List Int), (ownC l i st).length = st.length
  | [], _, _ => rfl
  | f :: l, i, st => by rw [ownC, ownC_len]; simp
theorem ownK_len (i : Nat) : ∀ (l : List Int) (st : List Int), (ownK i l st).length = st.length
  | [], _ => rfl
  | k :: l, st => by rw [ownK, ownK_len]; simp
theorem ownE_len : ∀ (l : List CEx) (i : Nat) (st : List Int), (ownE l i st).length = st.length
  | [], _, _ => rfl
  | e :: l, i, st => by rw [ownE, ownE_len, ownK_len]
theorem parK_len (i : Nat) : ∀ (l : List Int) (st : List Int), (parK i l st).length = st.length
  | [], _ => rfl
  | k :: l, st => by rw [parK, parK_len]; simp
theorem parE_len : ∀ (l : List CEx) (i : Nat) (st : List Int), (parE l i st).length = st.length
  | [], _, _ => rfl
  | e :: l, i, st => by rw [parE, parE_len, parK_len]
theorem own_len : (ownV (c1 1)).length = 1 := by
  rw [ownV, if_pos ((vOk_iff _).2 c1_good)]; rfl
theorem CoreOwners_spec (c : Cor) (h1 : c.data.length ≤ 9223372036854775807) (h2 : c.vars.length ≤ 9223372036854775807) : ACalls tP n_zq3 [.agg c.cs] [] fun r _ => r = .bool true := by
  refine zq3_ok fun hs => ?_
  have hat : c.cs = [.sl (c.data.map Dat.cs) .none, .sl (c.codes.map Cod.cs) .none, .sl (VT.css c.vars) .none, .sl (c.exprs.map CEx.cs) .none] := rfl
  simp [zq3, hat]
  rw [← hat]
  refine zq10_spec c h1 h2 _ _ fun b hb => ?_
  cases b with
  | false => simp
  | true =>
  have hc := hb rfl
  have hl3 : c.exprs.length ≤ 160 := hc.2.2.1
  have ho : (ownV c).length ≤ 1000000 := by
    rw [ownV]; split
    · rw [ownF, ownE_len, ownC_len]; simp; omega
    · simp
  have hp : (parV c).length ≤ 1000000 := by
    rw [parV]; split
    · rw [parF, parE_len]; simp; omega
    · simp
  simp [hat]
  rw [← hat]
  refine aPureX_call (.sl (ints (ownV c)) .none) (fun J => zq20_spec c hc _ _ ⟨rfl, rfl⟩) ?_
  refine aPureX_call (.sl (ints (ownV c)) .none) (fun J => zq21_spec c hc _ _ ⟨rfl, rfl⟩) ?_
  refine aPureX_call (.bool true) (fun J => SameInts_spec _ _ ho _ _ ⟨by simp, rfl⟩) ?_
  simp [hat]
  rw [← hat]
  refine aPureX_call (.sl (ints (parV c)) .none) (fun J => zq22_spec c hc _ _ ⟨rfl, rfl⟩) ?_
  refine aPureX_call (.sl (ints (parV c)) .none) (fun J => zq23_spec c hc _ _ ⟨rfl, rfl⟩) ?_
  refine aPureX_call (.bool true) (fun J => SameInts_spec _ _ hp _ _ ⟨by simp, rfl⟩) ?_
  simp
  refine aPureX_call (.agg (c1 1).cs) (fun J => one_spec _ _ ⟨rfl, rfl⟩) ?_
  refine aPureX_call (.sl (ints (ownV (c1 1))) .none) (fun J => zq20_spec (c1 1) (c1_k 1) _ _ ⟨rfl, rfl⟩) ?_
  simp [own_len]
end Go.Proofs.Ytkdmpbhbmmhijaa

