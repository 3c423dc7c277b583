import Derived.Test.YtkdmpbhbmmhijaaKS4
import Derived.Test.YtkdmpbhbmmhijaaAbsQ1
import Derived.Test.YtkdmpbhbmmhijaaKNum
import Derived.Test.YtkdmpbhbmmhijaaProg
import Derived.KernelRfl
import Derived.Test.YtkdmpbhbmmhijaaVO
import Derived.Deep.Slices
import Derived.DataReads
set_option linter.unusedSimpArgs false
set_option linter.unusedVariables false
namespace Go.Proofs.Ytkdmpbhbmmhijaa
open Go Go.Abs
set_option maxRecDepth 8000
theorem zzp (l : List Int) : ∀ (st : List Bool), (∀ x ∈ l, 0 ≤ x) → ∀ v : Nat, (zaz st l false).getD v false = true ↔ st.getD v false = true ∧ (v : Int) ∉ l := by
 induction l with
 | nil => intro st _ v; simp [zaz]
 | cons a l ih =>
  intro st h v
  rw [zie, ih _ (fun x hx => h x (by simp [hx])), zfL]
  have ha := h a (by simp)
  by_cases hh : a.toNat = v ∧ v < st.length
  ·rw [if_pos hh]
   have : (v : Int) = a := by omega
   simp [this]
  ·rw [if_neg hh]
   by_cases h2 : (v : Int) = a
   ·have h3 : ¬ v < st.length := by omega
    have h4 : st.getD v false = false := by rw [List.getD_eq_getElem?_getD, List.getElem?_eq_none (by omega)]; rfl
    rw [h4]
    simp
   ·simp [h2]
theorem zrg {st : List Bool} {i : Nat} (h : i < st.length) : st.getD i false = st[i] := by rw [List.getD_eq_getElem?_getD, List.getElem?_eq_getElem h]; rfl
theorem zhp {st : List Bool} {i : Nat} (h : i < st.length) : (zaQ st)[i]? = some (.bool st[i]) := by simp [zaQ, h]
theorem zD6 {c : Cor} (hk : zaR c) (hT : TreeC c) {H : zaa} (hs : HSc H) (e : Nat) (he : e < c.exprs.length) (K : Kt) (hK : K (.sl (ints (mem (chi c.vars.length (zcM c e)))) .none) H) {st : List Bool} (hsl : st.length = c.exprs.length) (hin : ∀ j, st.getD j false = true ↔ Sub c e j) :
  zoj (.int .i64 e) (.ptr H.length 0) (.ms (H.length + 1) 0 c.exprs.length c.exprs.length) (.ms (H.length + 2) 0 c.vars.length c.vars.length) (.int .i64 ((c.exprs.length : Int) - 1)) (H ++ [.cells c.cs, boB st, boB (List.replicate c.vars.length false)]) (Out H.length K) := by
 have hat : c.cs = [.sl (c.data.map Dat.cs) .none, .sl (c.codes.map Cod.cs) .none, .sl (VT.css c.vars) .none, .sl (c.exprs.map CEx.cs) .none] := rfl
 have hcn := hk.2.1
 have hen := hk.2.2.1
 have hvn := hk.2.2.2.1.1
 have hsX : ∀ st2, HSc (H ++ [.cells c.cs, boB st, boB st2]) := fun st2 => hs.append (by simp [AB.sc, Cor.cs, boB, zdc])
 refine zD7 (Inv := fun q t8 H' => ∃ (i : Nat) (st2 : List Bool), i = q + e ∧ e ≤ i ∧ i ≤ c.exprs.length ∧ t8 = .int .i64 ((i : Int) - 1) ∧ st2.length = c.vars.length ∧
  (∀ v : Nat, st2.getD v false = true ↔ (∃ j, i ≤ j ∧ Sub c e j ∧ (v : Int) ∈ zbU c j) ∧ ¬ ∃ j k, i ≤ j ∧ Sub c e j ∧ Bind c j k v) ∧ H' = H ++ [.cells c.cs, boB st, boB st2]) (c.exprs.length - e) ?_ ?_
 ·intro _
  refine ⟨c.exprs.length, List.replicate c.vars.length false, by omega, by omega, Nat.le_refl _, rfl, by simp, fun v => ?_, rfl⟩
  constructor
  ·intro h
   rw [List.getD_eq_getElem?_getD, List.getElem?_replicate] at h
   split at h <;> simp at h
  ·rintro ⟨⟨j, h1, h2, h3⟩, _⟩
   have := znm h3
   omega
 rintro q t8 H' ⟨i, st2, hq, hei, hin2, rfl, hsl2, hI, rfl⟩ hsc hlen hsF Kb hKb
 by_cases h0 : i = e
 ·have hlt : ¬ (e : Int) ≤ (i : Int) - 1 := by omega
  have hst : st2 = chi c.vars.length (zcM c e) := zqJ hsl2 fun v hv => by
   rw [hI]
   unfold zcM Occ Bnd
   constructor
   ·rintro ⟨⟨j, h1, h2, h3⟩, h4⟩
    refine ⟨⟨j, h2, h3⟩, ?_⟩
    rintro ⟨j', k, h5, h6⟩
    exact h4 ⟨j', k, by have := hT.sub_le h5; omega, h5, h6⟩
   ·rintro ⟨⟨j, h2, h3⟩, h4⟩
    refine ⟨⟨j, by have := hT.sub_le h2; omega, h2, h3⟩, ?_⟩
    rintro ⟨j', k, _, h5, h6⟩
    exact h4 ⟨j', k, h5, h6⟩
  simp [zjr, hlt]
  refine zHk (st := st2) (by simp) hsl2 (by omega) _ ?_
  rw [hst]
  exact Out.one hs .rfl' rfl rfl hK
 ·obtain ⟨i, rfl⟩ : ∃ j, i = j + 1 := ⟨i - 1, by omega⟩
  have hi : i < c.exprs.length := by omega
  have e1 : ((i + 1 : Nat) : Int) - 1 = i := by omega
  rw [e1]
  have hge : (e : Int) ≤ i := by omega
  have hge' : e ≤ i := by omega
  obtain ⟨x, y, z, hvv, hx, hy, hz, hce⟩ := zdv hi
  obtain ⟨kv, kb, kk, _, kbl⟩ := zl4 hk hi
  have hva : zbU c i = (c.exprs[i]).vars := znl hi
  have hvr : ∀ x ∈ (c.exprs[i]).vars, 0 ≤ x ∧ x < (c.vars.length : Int) := fun x hx => hT.vr i x (by rw [hva]; exact hx)
  have hbd : ∀ k v, Bind c i k v ↔ ∃ l, (c.exprs[i]).binds[k]? = some l ∧ v ∈ l := fun k v => by unfold Bind; rw [zdP hi]
  generalize hE : c.exprs[i] = E at *
  have back : ∀ st3 : List Bool, st3.length = c.vars.length → (∀ v : Nat, st3.getD v false = true ↔ (∃ j, i ≤ j ∧ Sub c e j ∧ (v : Int) ∈ zbU c j) ∧ ¬ ∃ j k, i ≤ j ∧ Sub c e j ∧ Bind c j k v) →
    zjx (.int .i64 e) (.ptr H.length 0) (.ms (H.length + 1) 0 c.exprs.length c.exprs.length) (.ms (H.length + 2) 0 c.vars.length c.vars.length) (.int .i64 i) (H ++ [.cells c.cs, boB st, boB st3]) (Out H.length K) Kb := fun st3 h1 h2 => by
   simp [zjx, ztV]
   rw [zaq (by omega) (by omega)]
   refine hKb _ _ ⟨i - e, by omega, Back.here (by simp) (hsX _) ?_ ⟨_, rfl, i, st3, by omega, by omega, by omega, rfl, h1, h2, rfl⟩⟩
   simp [zjt, AV.sc, AV.scV, AV.scA, AV.scB]
   try omega
  have his : i < st.length := by omega
  have hg := zrg his
  have hsub := hin i
  rw [hg] at hsub
  have split_le : ∀ P : Nat → Prop, (∃ j, i ≤ j ∧ P j) ↔ (∃ j, i + 1 ≤ j ∧ P j) ∨ P i := fun P => by
   constructor
   ·rintro ⟨j, h1, h2⟩
    by_cases h3 : j = i
    ·subst h3; exact .inr h2
    ·exact .inl ⟨j, by omega, h2⟩
   ·rintro (⟨j, h1, h2⟩ | h)
    ·exact ⟨j, by omega, h2⟩
    ·exact ⟨i, Nat.le_refl _, h⟩
  cases hb : st[i] with
  | false =>
   have hns : ¬ Sub c e i := by rw [← hsub, hb]; simp
   simp [zjr, hge, hge', boB, hsl, zaK, zhp his, hi, his, hb]
   refine back st2 hsl2 fun v => ?_
   rw [hI v]
   refine and_congr ?_ (not_congr ?_)
   ·rw [split_le fun j => Sub c e j ∧ (v : Int) ∈ zbU c j]; simp [hns]
   ·constructor
    ·rintro ⟨j, k, h1, h2⟩; exact ⟨j, k, by omega, h2⟩
    ·rintro ⟨j, k, h1, h2, h3⟩
     refine ⟨j, k, ?_, h2, h3⟩
     by_cases h4 : j = i
     ·subst h4; exact absurd h2 hns
     ·omega
  | true =>
   have hs1 : Sub c e i := hsub.1 hb
   simp [zjr, hge, hge', boB, hsl, zaK, zhp his, his, hb, hat, hi, hE, hce]
   rw [← hat]
   refine zmQ (st := st2) (n := c.vars.length) (by simp [boB]) hsl2 (by omega) hvr _ ?_
   simp [hat, hi, hE, hce]
   rw [← hat]
   refine zD8 (Inv := fun q t74 H' => ∃ (k : Nat) (st3 : List Bool), k ≤ E.binds.length ∧ q = E.binds.length - k ∧ t74 = .int .i64 k ∧ st3.length = c.vars.length ∧ (∀ v : Nat, st3.getD v false = true ↔ (st2.getD v false = true ∨ (v : Int) ∈ E.vars) ∧ ¬ ∃ k', k' < k ∧ Bind c i k' v) ∧
    H' = H ++ [.cells c.cs, boB st, boB st3]) E.binds.length ?_ ?_
   ·intro _
    refine ⟨0, zaz st2 E.vars true, by omega, by omega, rfl, by simpa using hsl2, fun v => ?_, by simp [boB]⟩
    rw [zm1 (by simpa [hsl2] using hvr)]
    simp
   rintro q t74 H' ⟨k, st3, hkl, rfl, rfl, hsl3, hI3, rfl⟩ hsc2 hlen2 hsF2 Kb17 hKb17
   by_cases hlt : k < E.binds.length
   ·have hbl : (E.binds[k]).length ≤ 10 := kbl _ (List.getElem_mem hlt)
    have hbr : ∀ x ∈ E.binds[k], 0 ≤ x ∧ x < (c.vars.length : Int) := fun x hx => hT.br ((hbd k x).2 ⟨_, List.getElem?_eq_getElem hlt, hx⟩)
    simp [zoh, hlt, zr5]
    refine zmQ (st := st3) (n := c.vars.length) (by simp) hsl3 (by omega) hbr _ ?_
    simp
    rw [zaq (by omega) (by omega)]
    refine hKb17 _ _ ⟨E.binds.length - (k + 1), by omega, Back.here (by simp) (hsX _) ?_ ⟨_, rfl, k + 1, zaz st3 E.binds[k] false, by omega, rfl, by simp, by simpa using hsl3, fun v => ?_, rfl⟩⟩
    ·simp [zju, AV.sc, AV.scV, AV.scA, AV.scB]
     try omega
    ·rw [zzp _ _ (fun x hx => (hbr x hx).1), hI3, and_assoc]
     refine and_congr Iff.rfl ?_
     constructor
     ·rintro ⟨h1, h2⟩ ⟨k', h3, h4⟩
      by_cases h5 : k' < k
      ·exact h1 ⟨k', h5, h4⟩
      ·obtain rfl : k' = k := by omega
       obtain ⟨l, h6, h7⟩ := (hbd k' v).1 h4
       rw [List.getElem?_eq_getElem hlt] at h6
       obtain rfl := Option.some.inj h6
       exact h2 h7
     ·intro h
      exact ⟨fun ⟨k', h1, h2⟩ => h ⟨k', by omega, h2⟩, fun h1 => h ⟨k, by omega, (hbd k v).2 ⟨_, List.getElem?_eq_getElem hlt, h1⟩⟩⟩
   ·obtain rfl : k = E.binds.length := by omega
    simp [zoh]
    refine back st3 hsl3 fun v => ?_
    rw [hI3, hI, split_le fun j => Sub c e j ∧ (v : Int) ∈ zbU c j]
    have hk1 : (∃ k', k' < E.binds.length ∧ Bind c i k' v) ↔ ∃ k', Bind c i k' v := by
     constructor
     ·rintro ⟨k', _, h⟩; exact ⟨k', h⟩
     ·rintro ⟨k', h⟩
      obtain ⟨l, h1, _⟩ := (hbd k' v).1 h
      exact ⟨k', (List.getElem?_eq_some_iff.1 h1).1, h⟩
    rw [hk1, hva]
    constructor
    ·rintro ⟨h1, h2⟩
     refine ⟨?_, ?_⟩
     ·rcases h1 with ⟨h1, _⟩ | h1
      ·exact .inl h1
      ·exact .inr ⟨hs1, h1⟩
     ·rintro ⟨j, k', h3, h4, h5⟩
      by_cases h6 : j = i
      ·subst h6; exact h2 ⟨k', h5⟩
      ·rcases h1 with ⟨_, h1⟩ | h1
       ·exact h1 ⟨j, k', by omega, h4, h5⟩
       ·have := hT.bound_lt (hT.sc (by rw [hva]; exact h1)) h5
        omega
    ·rintro ⟨h1, h2⟩
     refine ⟨?_, fun ⟨k', h3⟩ => h2 ⟨i, k', Nat.le_refl _, hs1, h3⟩⟩
     rcases h1 with h1 | ⟨_, h1⟩
     ·exact .inl ⟨h1, fun ⟨j, k', h3, h4⟩ => h2 ⟨j, k', by omega, h4⟩⟩
     ·exact .inr h1
theorem ztZ (c : Cor) (hk : zaR c) (e : Int) (H : zaa) (K : Kt) (hK : K (.sl (ints (zbO c e)) .none) H) : ACalls tP zhQ [.agg c.cs, .int .i64 e] H K := by
 refine ACalls.out (zEc fun hs => ?_)
 have hat : c.cs = [.sl (c.data.map Dat.cs) .none, .sl (c.codes.map Cod.cs) .none, .sl (VT.css c.vars) .none, .sl (c.exprs.map CEx.cs) .none] := rfl
 have hcn := hk.2.1
 have hen := hk.2.2.1
 have hvn := hk.2.2.2.1.1
 simp [ztS, hat]
 rw [← hat]
 refine zHo c hk e _ _ (fun h => ?_) fun h => ?_
 rotate_left
 ·simp
  rw [zbO, zeq, if_neg h] at hK
  exact zyv hs hK
 rw [zbO, zeq, if_pos h] at hK
 obtain ⟨g1, g2, hv⟩ := h
 have hT := zil hk hv
 obtain ⟨e, rfl⟩ : ∃ n : Nat, e = n := ⟨e.toNat, by omega⟩
 rw [Int.toNat_natCast] at hK
 have hel : e < c.exprs.length := by omega
 have hsX : ∀ st, HSc (H ++ [.cells c.cs, boB st]) := fun st => hs.append (by simp [AB.sc, Cor.cs, boB, zdc])
 simp [hat]
 simp only [zbc, Int.toNat_natCast, zeb]
 refine ⟨⟨by omega, by omega, by omega, by omega⟩, ?_⟩
 simp [hel]
 rw [zdr (by simpa using hel), ← hat]
 refine ⟨by omega, ?_⟩
 show zok (.int .i64 e) (.ptr H.length 0) (.ms (H.length + 1) 0 c.exprs.length c.exprs.length) (.int .i64 e) (H ++ [.cells c.cs, boB ((List.replicate c.exprs.length false).set e true)]) (Out H.length K)
 refine zD9 (Inv := fun q t6 H' => ∃ (i : Nat) (st : List Bool), e ≤ i ∧ i ≤ c.exprs.length ∧ q = c.exprs.length - i ∧ t6 = .int .i64 i ∧ st.length = c.exprs.length ∧
  (∀ j, st.getD j false = true ↔ j = e ∨ ∃ p k, p < i ∧ Sub c e p ∧ Kid c p k j) ∧ H' = H ++ [.cells c.cs, boB st]) (c.exprs.length - e) ?_ ?_
 ·intro _
  refine ⟨e, _, Nat.le_refl _, by omega, rfl, rfl, by simp, fun j => ?_, rfl⟩
  rw [zfL]
  constructor
  ·intro h
   split at h
   ·rename_i h1; exact .inl h1.1.symm
   ·rw [List.getD_eq_getElem?_getD, List.getElem?_replicate] at h
    split at h <;> simp at h
  ·rintro (rfl | ⟨p, k, h1, h2, h3⟩)
   ·rw [if_pos ⟨rfl, by simpa using hel⟩]
   ·have := hT.sub_le h2
    omega
 rintro q t6 H' ⟨i, st, hei, hil, rfl, rfl, hsl, hI, rfl⟩ hsc hlen hsF Kb hKb
 by_cases hlt : i < c.exprs.length
 ·obtain ⟨x, y, z, hvv, hx, hy, hz, hce⟩ := zdv hlt
  obtain ⟨_, kb, kk, _, kbl⟩ := zl4 hk hlt
  have hka : zcf c i = (c.exprs[i]).kids := zcQ hlt
  have hkr : ∀ x ∈ (c.exprs[i]).kids, 0 ≤ x ∧ x < (c.exprs.length : Int) := fun x hx => hT.kr i x (by rw [hka]; exact hx)
  generalize hE : c.exprs[i] = E at *
  have hsub : st.getD i false = true ↔ Sub c e i := by
   rw [hI]
   constructor
   ·rintro (rfl | ⟨p, k, _, h2, h3⟩)
    ·exact .refl
    ·exact .step h2 h3
   ·intro h
    cases h with
    | refl => exact .inl rfl
    | step h1 h2 => exact .inr ⟨_, _, (hT.lt h2).1, h1, h2⟩
  have his : i < st.length := by omega
  rw [zrg his] at hsub
  have back : ∀ st2 : List Bool, st2.length = c.exprs.length → (∀ j, st2.getD j false = true ↔ j = e ∨ ∃ p k, p < i + 1 ∧ Sub c e p ∧ Kid c p k j) →
    zjw (.int .i64 e) (.ptr H.length 0) (.ms (H.length + 1) 0 c.exprs.length c.exprs.length) (.int .i64 i) (H ++ [.cells c.cs, boB st2]) (Out H.length K) Kb := fun st2 h1 h2 => by
   simp [zjw, ztU]
   rw [zaq (by omega) (by omega)]
   refine hKb _ _ ⟨c.exprs.length - (i + 1), by omega, Back.here (by simp) (hsX _) ?_ ⟨_, rfl, i + 1, st2, by omega, by omega, rfl, by simp, h1, h2, rfl⟩⟩
   simp [zjv, AV.sc, AV.scV, AV.scA, AV.scB]
   try omega
  cases hb : st[i] with
  | false =>
   have hns : ¬ Sub c e i := by rw [← hsub, hb]; simp
   simp [zjs, hat, hlt, boB, hsl, zaK, zhp his, his, hb]
   rw [← hat]
   refine back st hsl fun j => ?_
   rw [hI]
   refine or_congr Iff.rfl ⟨fun ⟨p, k, h1, h2⟩ => ⟨p, k, by omega, h2⟩, fun ⟨p, k, h1, h2, h3⟩ => ⟨p, k, ?_, h2, h3⟩⟩
   by_cases h4 : p = i
   ·subst h4; exact absurd h2 hns
   ·omega
  | true =>
   have hs1 := hsub.1 hb
   simp [zjs, hat, hlt, boB, hsl, zaK, zhp his, his, hb, hE, hce]
   rw [← hat]
   refine zmQ (st := st) (n := c.exprs.length) (by simp [boB]) hsl (by omega) hkr _ ?_
   have := back (zaz st E.kids true) (by simpa using hsl) (fun j => by
    rw [zm1 (by simpa [hsl] using hkr), hI, or_assoc]
    refine or_congr Iff.rfl ⟨?_, ?_⟩
    ·rintro (⟨p, k, h1, h2⟩ | h)
     ·exact ⟨p, k, by omega, h2⟩
     ·obtain ⟨k, hk1, hk2⟩ := List.mem_iff_getElem.1 h
      exact ⟨i, k, by omega, hs1, by unfold Kid; rw [hka, List.getElem?_eq_getElem hk1, hk2]⟩
    ·rintro ⟨p, k, h1, h2, h3⟩
     by_cases h4 : p = i
     ·subst h4; exact .inr (by rw [← hka]; exact h3.mem)
     ·exact .inl ⟨p, k, by omega, h2, h3⟩)
   simpa [boB, hat] using this
 ·obtain rfl : i = c.exprs.length := by omega
  simp [zjs, hat]
  simp only [zbc, Int.toNat_natCast, zeb]
  refine ⟨⟨by omega, by omega, by omega, by omega⟩, ?_⟩
  simp
  rw [zaq (by omega) (by omega), ← hat]
  have := zD6 hk hT hs e hel K hK (st := st) hsl (fun j => by
   rw [hI]
   constructor
   ·rintro (rfl | ⟨p, k, _, h2, h3⟩)
    ·exact .refl
    ·exact .step h2 h3
   ·intro h
    cases h with
    | refl => exact .inl rfl
    | step h1 h2 =>
     have := hT.lt h2
     exact .inr ⟨_, _, by omega, h1, h2⟩)
  simpa [boB] using this
end Go.Proofs.Ytkdmpbhbmmhijaa
namespace Go.Abs
open Go Go.RowKit
variable {P : Program} {B : Nat} {w : World} {G : Gh} {H : zaa}
def zeE (esz : Nat) (zero : List AV) (len : Nat) (parts : List (Nat × AV)) (H : zaa) (K : Kt) : Prop :=
 match zbv zero with
 | some z => (match zc6 esz parts (List.replicate len z) with
  | some es => K (.ms H.length 0 len len) (H ++ [.cells es.flatten])
  | none => False)
 | none => False
theorem zxI {v : Value} {a : AV} (h : DRel w G.L v a) : ARel w G v a := by
 cases h with
 | bool b => rfl
 | int k n => rfl
 | str s => rfl
 | slE a cap => exact .slE a cap
 | sl b off cap esz es vs hne hcap hL hsz hc hd => exact .sl b off cap esz es vs hne hcap hL hsz hc hd
theorem zzE {t e : TypeId} {size len : Nat} {z : Value} {parts : Array (Nat × Value)} {aparts : List (Nat × AV)} {K : AV → zaa → Prop} (hH : HRel B w G H) (he : zbj P t = some e) (hn : za8 P e = some size)
  (hz : zbL P e = some z) (h0 : 0 < size) (hlen : len * size ≤ 16777216) (hzl : (zbm z).length = size)
  (hr : All2 (fun (p : Nat × Value) (q : Nat × AV) => p.1 = q.1 ∧ TRel w G p.2 q.2) parts.toList aparts) (h : zeE size (zbm z) len aparts H K) :
  OpOK P B w G K (((do pure (.value (← Instr.buildSlice t len parts))) : Sem Next).run P w) := by
 unfold zeE at h
 split at h
 ·rename_i zc hzc
  split at h
  ·rename_i es hes
   have hzr := zeo (w := w) (G := G) z
   have hzs : z.cells.size = size := by have := hzr.length; simp at this; omega
   have hzd := zfG hzr hzc
   have hm := zl6 hzd (by omega) len
   rw [hzs] at hm
   have hzcl : zc.length = size := by rw [zmP hzc]; exact hzl
   have hall : ∀ c ∈ List.replicate len zc, c.length = size := fun c hc => by rw [List.eq_of_mem_replicate hc, hzcl]
   obtain ⟨cells', h1, h2, h3, h4⟩ := zlP parts.toList aparts _ _ es hall hr hm hes
   simp at h4
   obtain ⟨hx, hH'⟩ := hH.new cells' e es.flatten (h2.mono fun _ _ => zxI)
   have hrun : ((do pure (.value (← Instr.buildSlice t len parts))) : Sem Next).run P w = .ok (.value (.slice (some ⟨w.heap.size, 0, none⟩) len len)) (w.alloc (.cells cells' e)) := by
    have hbig : ¬ (2 ^ 24 < len * size) := by omega
    by_cases hl0 : len * size = 0
    ·have hl : len = 0 := by rcases Nat.mul_eq_zero.1 hl0 with h | h <;> omega
     subst hl
     simp only [Nat.zero_mul, Array.range_zero', Array.map_empty] at h1
     simp [Instr.buildSlice, za3 (zcJ he), zb5 hn, h1, newRow, World.alloc_eq, Array.range_zero']
    ·simp [Instr.buildSlice, za3 (zcJ he), zb5 hn, zeU hz, hbig, hl0, hzs, h1, newRow, World.alloc_eq]
   rw [hrun]
   refine ⟨.ms H.length 0 len len, _, _, hx, hH', ⟨w.heap.size, ?_, rfl⟩, h⟩
   rw [← hH.len]; simp
  ·exact h.elim
 ·exact h.elim
def zlv (P : Program) (o : Oper) (F : List AV) (H : zaa) (K : Kt) : Prop :=
 match o.op with
 | .buildSlice t len parts => (match (zbj P t).bind (za8 P), (zbj P t).bind (zbL P) with
  | some size, some z => (match decide (0 < size) && decide (len * size ≤ 16777216) && (zbm z).length == size with
   | true => zeE size (zbm z) len (parts.toList.map fun p => (p.1, ev F p.2)) H K
   | false => False)
  | _, _ => False)
 | _ => aop P o F H K
theorem zyr {o : Oper} {a : Act} {F : List AV} {K : AV → zaa → Prop} (hH : HRel B w G H) (hF : FRel w G a.tmps F) (h : zlv P o F H K) : OpOK P B w G K ((execOp a.eval o).run P w) := by
 unfold zlv at h
 split at h
 ·rename_i t len parts hop
  obtain ⟨dst, op, type, pos, after, guard⟩ := o
  simp only [] at hop
  subst hop
  simp only [execOp]
  split at h
  ·rename_i size z hs hz
   split at h
   ·rename_i hb
    simp only [Bool.and_eq_true, decide_eq_true_eq, beq_iff_eq] at hb
    cases he : zbj P t with
    | none => simp [he] at hs
    | some e =>
     simp only [he, Option.bind_some] at hs hz
     exact zzE hH he hs hz hb.1.1 hb.1.2 hb.2 (by simpa using zmO hF parts.toList) h
   ·exact h.elim
  ·exact h.elim
 ·exact zgF hH hF h
def zia (P : Program) : List Oper → Lt → List AV → zaa → Prop
 | [], K, F, H => K F H
 | o :: os, K, F, H => match o.guard with
  | none => zlv P o F H fun v H' => zia P os K (zbI F o.dst v) H'
  | some _ => False
theorem zr8 {ops : Array Oper} {K : List AV → zaa → Prop} {Q : Exit → Act → World → Prop} {w0 : World} {G0 : Gh}
  (hQ : ∀ a w G F H, Ext B w0 G0 w G → HRel B w G H → FRel w G a.tmps F → a.defers = [] → K F H → Q .normal a w) :
  ∀ (l : List Oper) (F : List AV) (H : zaa) (a : Act) (w : World) (G : Gh), Ext B w0 G0 w G → HRel B w G H → FRel w G a.tmps F → a.defers = [] → zia P l K F H → wpList P ops Q l a w
 | [], F, H, a, w, G, hE, hH, hF, hd, h => hQ a w G F H hE hH hF hd h
 | o :: l, F, H, a, w, G, hE, hH, hF, hd, h => by
  refine wpList_step fun K' hK' => ?_
  unfold zia at h
  split at h
  ·rename_i hg
   rw [if_pos (by simp [Region.wanted, hg])]
   exact zgG hF (zyr hH hF h) fun v av w' G' H' h1 h2 h3 h4 =>
    hK' _ _ (zr8 hQ l _ _ _ _ G' (hE.trans h1) h2 ((hF.ext h1).put h3) (by cases hdst : o.dst <;> simpa [Act.put, hdst] using hd) h4)
  ·exact h.elim
def zgd (P : Program) : Code → (AExit → List AV → zaa → Prop) → List AV → zaa → Prop
 | .region _ ops false, Q, F, H => zia P ops.toList (Q .normal) F H
 | .seq a b, Q, F, H => zgd P a (zmY (zgd P b Q) Q) F H
 | .ret, Q, F, H => Q .ret F H
 | _, _, _, _ => False
theorem zwV : ∀ (c : Code) (Q : AExit → List AV → zaa → Prop) (F : List AV) (H : zaa), zgd P c Q F H → AWp P c Q F H := by
 intro c
 induction c with
 | region id ops draw =>
  intro Q F H h B w G a hH hF hd
  cases draw with
  | false =>
   refine wp_region_list ?_
   exact zr8 (K := Q .normal) (fun a w G F H h1 h2 h3 h4 h5 => Post.of (e := .normal) h1 h2 h3 h4 h5) ops.toList F H a w G (Ext.refl _ _ _) hH hF hd h
  | true => exact h.elim
 | seq x y ihx ihy =>
  intro Q F H h B w G a hH hF hd
  refine wp_seq (wp_mono (ihx _ F H h B w G a hH hF hd) fun e a' w' hp => ?_)
  obtain ⟨F', H', G', e', rfl, h1, h2, h3, h4, h5⟩ := hp
  cases e' with
  | normal =>
   refine wp_mono (ihy Q F' H' h5 B w' G' a' h2 h3 h4) fun e a'' w'' hp => ?_
   obtain ⟨F'', H'', G'', e'', rfl, k1, k2, k3, k4, k5⟩ := hp
   exact ⟨F'', H'', G'', e'', rfl, h1.trans k1, k2, k3, k4, k5⟩
  | exit id => exact Post.of (e := .exit id) h1 h2 h3 h4 h5
  | ret => exact Post.of (e := .ret) h1 h2 h3 h4 h5
 | ret => intro Q F H h B w G a hH hF hd; exact wp_ret (Post.of (e := .ret) (Ext.refl _ _ _) hH hF hd h)
 | _ => intro Q F H h; exact h.elim
theorem zwF {f : FuncId} {fn : Func} {c : Code} {args : List AV} {K : AV → zaa → Prop} (hf : P.funcs[f]? = some fn) (hb : fn.body = some c)
  (h : HSc H → zgd P c (zat P fn.results.toList K) (args ++ List.replicate (fn.ntmps - args.length) .unk) H) : ACalls P f args H K := by
 intro B w G vs hH hv
 refine calls_of_wp hf hb ?_
 have hF : FRel w G (vs ++ Array.replicate (fn.ntmps - vs.size) undef) (args ++ List.replicate (fn.ntmps - args.length) .unk) := by
  unfold FRel
  have hl : vs.size = args.length := by simpa using hv.length
  rw [hl]
  simpa using hv.append (All2.replicate (R := TRel w G) (a := undef) (b := .unk) trivial (fn.ntmps - args.length))
 refine wp_mono (zwV c _ _ H (h hH.sc) B w G ⟨_, []⟩ hH hF rfl) fun e a' w' hp => ?_
 obtain ⟨F', H', G', e', rfl, h1, h2, h3, h4, h5⟩ := hp
 have fin : (zd8 P fn.results.toList F' H' fun vs => zaW vs (K · H')) → ∃ v, (results fn a'.tmps).run P w' = .ok v w' ∧ ∃ v' r H'' G'', Ending.returned v = .returned v' ∧ Ext B w G w' G'' ∧ HRel B w' G'' H'' ∧ TRel w' G'' v' r ∧ K r H'' := by
  intro h5
  obtain ⟨us, asx, k1, k2, k3⟩ := zib h2 h3 fn.results.toList _ h5
  have hres : (results fn a'.tmps).run P w' = .ok (if hh : us.toArray.size = 1 then us.toArray[0] else .tuple us.toArray) w' := by
   rw [zr4, Sem.run_bind, Array.mapM_eq_mapM_toList, Sem.run_map, k1]
   rfl
  refine ⟨_, hres, (if hh : us.toArray.size = 1 then us.toArray[0] else .tuple us.toArray), ?_⟩
  have hl := k2.length
  unfold zaW at k3
  split at k3
  ·rename_i r
   match us, hl, k2, hres with
   | [u], _, k2, _ => exact ⟨r, H', G', rfl, h1, h2, by simpa using k2.1, k3⟩
  ·rename_i hne
   refine ⟨.tup asx, H', G', rfl, h1, h2, ?_, k3.2⟩
   have hsz : ¬ us.toArray.size = 1 := by
    intro hs
    have : asx.length = 1 := by rw [← hl]; simpa using hs
    match asx, this with
    | [x], _ => exact hne x rfl
   rw [dif_neg hsz]
   exact ⟨us.toArray, rfl, zds (p := AV.isV) (fun _ _ => zl2) k2 k3.1⟩
 cases e' with
 | normal => exact ⟨h4, fin h5⟩
 | ret => exact ⟨h4, fin h5⟩
 | exit id => exact h5.elim

theorem ACalls.pure0 {f : FuncId} {args args' : List AV} {b : Bool} (h : ACalls P f args' [] fun r _ => r = .bool b) (hread : ∀ B w G, HRel B w G H → ∀ vs : Array Value, All2 (TRel w G) vs.toList args → All2 (TRel w (G0 w)) vs.toList args') {K : Kt} (hK : K (.bool b) H) : ACalls P f args H K := by
 intro B w G vs hH hv
 refine (h w.heap.size w (G0 w) vs (zrm w) (hread B w G hH vs hv)).mono fun e w' he => ?_
 obtain ⟨v, r, H', G', rfl, h1, h2, h3, rfl⟩ := he
 have hv : v = .bool b := h3
 subst hv
 have hx : Ext B w G w' G := by
  refine ⟨h1.dr, h1.below.mono hH.base, fun _ => Nat.le_refl _, fun b off ho => ?_, fun _ gi h => ⟨gi, h, gi.le_refl⟩⟩
  refine h1.below.cell ?_
  by_cases hb : b < w.heap.size
  ·exact hb
  ·have := hH.fresh b (by omega)
   omega
 have hb : ∀ b, b < w.heap.size → w'.heap[b]? = w.heap[b]? := fun b hb => h1.below.block b hb
 exact ⟨.bool b, .bool b, H, G, rfl, hx, hH.keep hx rfl (fun id gi b h3 h4 => ⟨hb b (hH.lt id gi b h3 h4), rfl⟩) (fun b hbb => hH.fresh b (by have := h1.below.size; omega)), rfl, hK⟩
def zlR : AV → Bool
 | .bool _ | .int _ _ | .str _ => true
 | .sl [] .none => true
 | _ => false
theorem zxM {v : Value} {a : AV} (hf : zlR a = true) (h : ARel w G v a) (L : Nat → Nat) : DRel w L v a := by
 cases a <;> simp [zlR] at hf
 case bool b => have h : v = .bool b := h; subst h; exact .bool b
 case int k n => have h : v = .int k n := h; subst h; exact .int k n
 case str s => have h : v = .string ⟨s.toArray⟩ := h; subst h; exact .str s
 case sl es t =>
  cases es with
  | cons _ _ => simp at hf
  | nil =>
   cases t with
   | none =>
    have h : DRel w G.L v (.sl [] .none) := h
    cases h with
    | slE a cap => exact .slE a cap
    | sl b off cap esz _ vs hne => exact absurd rfl hne
   | _ => simp at hf
theorem zrC {id : Nat} {cs : List AV} {v : Value} (hH : HRel B w G H) (hid : H[id]? = some (.cells cs)) (hf : cs.all zlR = true) (h : ARel w G v (.ms id 0 1 1)) : DRel w (zcB w) v (.sl [cs] .none) := by
 obtain ⟨b, h1, rfl⟩ := h
 obtain ⟨_, _, vs, e, h4, h5⟩ := hH.ok id _ _ hid h1
 have hl : vs.size = cs.length := by simpa using h5.length
 have := DRel.of_flat_at (w := w) (L := zcB w) (g := b) (off := 0) (size := cs.length) (cap := 1) (es := [cs]) (zs := vs.toList) (by simp) (by simp) (by simp) (by simp [zcB, h4, hl])
  (All2.of_get (by simp [hl]) fun i x y hx hy => by
   have hy' : cs[i]? = some y := by simpa using hy
   obtain ⟨x', hx', hr⟩ := All2.get h5 hy'
   rw [hx] at hx'
   cases hx'
   exact zxM (List.all_eq_true.1 hf y (List.mem_of_getElem? hy')) hr _)
  (fun j v hj => by
   simp [World.cell?, h4] 
   simpa using hj)
 simpa using this
end Go.Abs
namespace Go.Proofs.Ytkdmpbhbmmhijaa
open Go Go.Abs
set_option maxRecDepth 100000
def zDM (_ : Nat) : List Bool := []
noncomputable def zDN : Code := Try.f15.body.getD .skip
def ztN (H : zaa) (K : Kt) : Prop :=
 ACalls tP zhP [] H fun t2 H =>
 zaA [.snil, .snil, .snil, .snil] H fun t1 H =>
 zar 4 t1 t2 H fun H =>
 zaf 3 t1 fun t3 =>
 zae false 1 t3 H fun t4 =>
 zaj 8 t4 (.int .i64 0) fun t5 =>
 zaf 1 t5 fun t6 =>
 zar 1 t6 (.int .i64 1073741824) H fun H =>
 ACalls tP zhP [] H fun t7 H =>
 ACalls tP zfy [t7] H fun t8 H =>
 zab t8 true H (fun K' => zae true 4 t1 H (K' · H)) fun t10 H =>
 zab t8 true H (fun K' => ACalls tP zfy [t10] H K') fun t11 H =>
 zab t8 true H (fun K' => aUn .not t11 (K' · H)) fun t12 H =>
 zah t8 t12 (.bool false) fun t13 =>
 K t13 H
theorem zDO {H : zaa} {K : Kt} (h : HSc H → ztN H K) : ACalls tP zme [] H K :=
 zau (M := zDM) Try.func15 (c := zDN) (by kernel_rfl) (fun hs => Eq.mpr (by kernel_rfl) (h hs))
end Go.Proofs.Ytkdmpbhbmmhijaa
namespace Go.Proofs.Ytkdmpbhbmmhijaa
open Go Go.Abs
set_option maxRecDepth 100000
def zmJ (H : zaa) (K : Kt) : Prop :=
 zaA [.snil, .snil, .snil, .snil] H fun t0 H =>
 zaI [(.int .i64 0), (.int .i64 0), .snil] [(0, 1), (1, 1), (2, 1)] [(0, (.int .i64 1))] fun t2 =>
 zaA [(.int .i64 0), (.int .i64 0), .snil] H fun t1 H =>
 zar 3 t1 t2 H fun H =>
 zae true 3 t1 H fun t3 =>
 zaI [(.str []), .snil, .snil, (.int .i64 0), (.int .i64 0), .snil, (.int .i64 0)] [(0, 1), (1, 1), (2, 1), (3, 3), (6, 1)] [(0, (.str [102])), (3, t3)] fun t4 =>
 zeE 7 [(.str []), .snil, .snil, (.int .i64 0), (.int .i64 0), .snil, (.int .i64 0)] 1 [(0, t4)] H fun t5 H =>
 zae true 3 t1 H fun t6 =>
 zaI [(.int .i64 0), (.int .i64 0), .snil, .snil, .snil, (.int .i64 0), (.int .i64 0), .snil] [(0, 1), (1, 1), (2, 1), (3, 1), (4, 1), (5, 3)] [(0, (.int .i64 3)), (1, (.int .i64 1)), (5, t6)] fun t7 =>
 zeE 8 [(.int .i64 0), (.int .i64 0), .snil, .snil, .snil, (.int .i64 0), (.int .i64 0), .snil] 1 [(0, t7)] H fun t8 H =>
 zaI [.snil, .snil, .snil, .snil] [(0, 1), (1, 1), (2, 1), (3, 1)] [(1, t5), (3, t8)] fun t9 =>
 zar 4 t0 t9 H fun H =>
 zae true 4 t0 H fun r0 =>
 K r0 H
theorem zyj (H : zaa) (K : Kt) : zgd tP ztO (zat tP zDP K) (List.replicate 10 .unk) H = zmJ H K := by kernel_rfl
theorem zyk {H : zaa} {K : Kt} (h : HSc H → zmJ H K) : ACalls tP zhP [] H K :=
 zwF Try.func20 (c := ztO) (by kernel_rfl) (fun hs => (zyj H K).mpr (h hs))
theorem bm7 (H : zaa) (K : Kt) : zeE 7 [(.str []), .snil, .snil, (.int .i64 0), (.int .i64 0), .snil, (.int .i64 0)] 1 [(0, .agg [.str [102], .snil, .snil, .int .i64 1, .int .i64 0, .snil, .int .i64 0])] H K = K (.ms H.length 0 1 1) (H ++ [.cells zhr]) := propext Iff.rfl
theorem bm8 (H : zaa) (K : Kt) : zeE 8 [(.int .i64 0), (.int .i64 0), .snil, .snil, .snil, (.int .i64 0), (.int .i64 0), .snil] 1 [(0, .agg [.int .i64 3, .int .i64 1, .snil, .snil, .snil, .int .i64 1, .int .i64 0, .snil])] H K = K (.ms H.length 0 1 1) (H ++ [.cells (zeg 1)]) := propext Iff.rfl
theorem zrL {H : zaa} {K : Kt} (hK : ∀ X Y, K (.agg [.snil, .ms (H.length + 2) 0 1 1, .snil, .ms (H.length + 3) 0 1 1]) (H ++ [X, Y, .cells zhr, .cells (zeg 1)])) : ACalls tP zhP [] H K := by
 refine zyk fun hs => ?_
 simp [zmJ, zaI, zbu]
 rw [bm7]
 simp
 rw [bm8]
 simp
 exact hK _ _
theorem zrM {H : zaa} {a b : Nat} {n : Int} (ha : H[a]? = some (.cells zhr)) (hb : H[b]? = some (.cells (zeg n))) (B : Nat) (w : World) (G : Gh) (hH : HRel B w G H) (vs : Array Value)
  (hv : All2 (TRel w G) vs.toList [.agg [.snil, .ms a 0 1 1, .snil, .ms b 0 1 1]]) : All2 (TRel w (G0 w)) vs.toList [.agg (c1 n).cs] := by
 generalize vs.toList = l at *
 match l, hv with
 | [v], hv =>
  obtain ⟨⟨us, rfl, h2⟩, _⟩ := hv
  refine ⟨⟨us, rfl, ?_⟩, trivial⟩
  rw [zxd]
  generalize us.toList = m at *
  match m, h2 with
  | [x, y, z, u], h2 =>
   obtain ⟨hx, hy, hz, hu, _⟩ := h2
   have hx : x = .slice none 0 0 := hx
   have hz : z = .slice none 0 0 := hz
   subst hx hz
   refine ⟨.slE _ _, ?_, .slE _ _, ?_, trivial⟩
   ·exact zrC hH ha rfl hy
   ·exact zrC hH hb rfl hu
theorem zxb : ¬ ProgV (c1 1073741824) := by
 intro h
 have := h.exprs.rule 0 (by simp [c1])
 simp [c1, progRule, za2, zaC, za6] at this
theorem zwU (H : zaa) (K : Kt) (hK : K (.bool true) H) : ACalls tP zme [] H K := by
 refine ACalls.out (zDO fun hs => ?_)
 simp [ztN]
 refine zrL fun X Y => ?_
 have hset : (zeg 1).set 1 (.int .i64 1073741824) = zeg 1073741824 := rfl
 simp [zeg]
 refine zrL fun X' Y' => ?_
 simp
 refine ACalls.pure0 (b := true) (znM (c1 1) (zqE 1) [] _ fun b hb => ?_) (zrM (a := H.length + 5 + 2) (b := H.length + 5 + 3) ?_ ?_) ?_
 ·cases b with
  | true => rfl
  | false => exact absurd (hb.2 zxe) (by simp)
 ·rw [Nat.add_assoc]; simp
 ·rw [Nat.add_assoc]; simp
 simp
 refine ACalls.pure0 (b := false) (znM (c1 1073741824) (zqE _) [] _ fun b hb => ?_) (zrM (a := H.length + 2) (b := H.length + 3) ?_ ?_) ?_
 ·cases b with
  | true => exact absurd (hb.1 rfl) zxb
  | false => rfl
 ·simp
 ·simp [zeg]
 simp
 exact Out.bool rfl (Nat.le_refl _) hs hK
end Go.Proofs.Ytkdmpbhbmmhijaa
namespace Go.Proofs.Ytkdmpbhbmmhijaa
open Go Go.Abs
set_option maxRecDepth 8000
theorem zxT (l : List Int) (hl : l.length ≤ 1000000) (v : Int) (H : zaa) (K : Kt) (hK : K (.bool (decide (v ∈ l))) H) : ACalls tP zmg [.sl (ints l) .none, .int .i64 v] H K := by
 refine zD0 fun hs => ?_
 simp [ztQ]
 refine zDY (Inv := fun q t9 H' => ∃ j : Nat, j ≤ l.length ∧ q = l.length - j ∧ t9 = .int .i64 j ∧ (∀ (i : Nat) (h : i < l.length), i < j → l[i] ≠ v) ∧ H' = H) l.length ?_ ?_
 ·intro _; exact ⟨0, by omega, by omega, rfl, fun i h h2 => by omega, rfl⟩
 rintro q t9 H' ⟨j, hj, rfl, rfl, hno, rfl⟩ hsc hlen hsF Kb hKb
 by_cases hlt : j < l.length
 ·by_cases he : l[j] = v
  ·have he' : (l[j] == v) = true := by simpa using he
   have hm : v ∈ l := by rw [← he]; exact List.getElem_mem hlt
   simp [hm] at hK
   simp [zjp, hlt, zgm, he, he']
   exact hK
  ·have he' : (l[j] == v) = false := by simpa using he
   simp [zjp, hlt, zgm, he, he']
   rw [zaq (by omega) (by omega)]
   refine hKb _ _ ⟨l.length - (j + 1), by omega, Back.here (by simp) hsc ?_ ⟨_, rfl, j + 1, by omega, rfl, by simp, fun i h h2 => ?_, rfl⟩⟩
   ·simp [zjq, AV.sc, AV.scV, AV.scA, AV.scB]
    try omega
   ·by_cases h3 : i < j
    ·exact hno i h h3
    ·obtain rfl : i = j := by omega
     exact he
 ·have hm : v ∉ l := fun h => by
   obtain ⟨i, h1, h2⟩ := List.mem_iff_getElem.1 h
   exact hno i h1 (by omega) h2
  simp [hm] at hK
  obtain rfl : j = l.length := by omega
  simp [zjp]
  exact hK
theorem zyd {st : List Bool} {v : Int} : v ∈ mem st ↔ ∃ n : Nat, v = n ∧ n < st.length ∧ st.getD n false = true := by
 unfold mem
 simp only [List.mem_map, List.mem_filter, List.mem_range]
 constructor
 ·rintro ⟨n, ⟨h1, h2⟩, h3⟩; exact ⟨n, h3.symm, h1, h2⟩
 ·rintro ⟨n, h1, h2, h3⟩; exact ⟨n, ⟨h2, h3⟩, h1.symm⟩
theorem chi_get {n : Nat} {P : Int → Prop} {v : Nat} : (chi n P).getD v false = true ↔ v < n ∧ P v := by
 unfold chi
 rw [List.getD_eq_getElem?_getD, List.getElem?_map]
 by_cases h : v < n
 ·rw [List.getElem?_range h]; simp [h]
 ·rw [List.getElem?_eq_none (by simp; omega)]; simp [h]
@[simp] theorem zNH (n : Nat) (P : Int → Prop) : (chi n P).length = n := by simp [chi]
theorem zzr {c : Cor} {P : Nat → Int → Prop} {e : Nat} (h : e < c.exprs.length) (hv : vOk c = true) (hP : ∀ {v : Int}, P e v → 0 ≤ v ∧ v < (c.vars.length : Int)) {v : Int} : v ∈ zeq c P e ↔ P e v := by
 unfold zeq
 rw [if_pos ⟨by omega, by omega, hv⟩, zyd, Int.toNat_natCast]
 constructor
 ·rintro ⟨n, rfl, h1, h2⟩
  exact (chi_get.1 h2).2
 ·intro h
  have := hP h
  refine ⟨v.toNat, by omega, by simp; omega, chi_get.2 ⟨by omega, ?_⟩⟩
  rw [show ((v.toNat : Nat) : Int) = v by omega]
  exact h
theorem zsf (c : Cor) (P : Nat → Int → Prop) (e : Int) : (zeq c P e).length ≤ c.vars.length := by
 unfold zeq
 split
 ·have := zl7 (chi c.vars.length (P e.toNat)) (chi c.vars.length (P e.toNat)).length
  simpa [mem, zb8] using this
 ·simp
theorem zlT {c : Cor} (hk : zaR c) {e : Nat} (h : e < c.exprs.length) (hv : vOk c = true) {v : Int} : v ∈ zbO c e ↔ zcM c e v :=
 zzr h hv fun hf => (zil hk hv).InS_range ((zil hk hv).free_scope hf)
theorem zwv {c : Cor} (hk : zaR c) (hv : vOk c = true) {e : Nat} {st : List Bool} (hsl : st.length = c.vars.length) (hm : mem st = zbO c e) {H : zaa} (hs : HSc H) (hH : H[0]? = some (.cells c.cs)) {id : Nat} (hid : H[id]? = some (boB st)) (K : Kt) (hK : ∀ X, K (.bool true) X) :
  zg8 (.int .i64 e) (.ptr 0 0) (.ms id 0 c.vars.length c.vars.length) .snil (.int .i64 c.vars.length) (.int .i64 0) H K := by
 have hat : c.cs = [.sl (c.data.map Dat.cs) .none, .sl (c.codes.map Cod.cs) .none, .sl (VT.css c.vars) .none, .sl (c.exprs.map CEx.cs) .none] := rfl
 have hvn := hk.2.2.2.1.1
 have hil := zbQ hid
 have h0l := zbQ hH
 have hgJ : ∀ J, (H ++ J)[id]? = some (.cells (zaQ st)) := fun J => zaM hid
 have hgH : ∀ J, (H ++ J)[0]? = some (.cells c.cs) := fun J => zaM hH
 have hgE : ∀ J (h : 0 < (H ++ J).length), (H ++ J)[0]'h = .cells c.cs := fun J h => (List.getElem?_eq_some_iff.1 (hgH J)).2
 rw [← hsl]
 unfold zg8
 refine ALoop.own 13 zdu 1 rfl ?_
 show zg8 (.int .i64 e) (.ptr 0 0) (.ms id 0 st.length st.length) (.sl [] (.own H.length)) (.int .i64 st.length) (.int .i64 0) (H ++ [.perm zdu 1 0]) K
 refine zHZ (Inv := fun q t3 tI H' => ∃ i : Nat, i ≤ st.length ∧ q = st.length - i ∧ tI = .int .i64 i ∧ t3 = .sl (ints (zb8 st i)) (.own H.length) ∧ H' = H ++ [.perm zdu 1 (zb8 st i).length]) st.length ?_ ?_
 ·intro _; exact ⟨0, by omega, by omega, rfl, by simp [zb8, ints], by simp [zb8]⟩
 rintro q t3 tI H' ⟨i, hi, rfl, rfl, rfl, rfl⟩ hsc hlen hsF Kb hKb
 have hml := zl7 st i
 by_cases hlt : i < st.length
 ·have hsu := zrx st i
  have hgd : st.getD i false = st[i] := by rw [List.getD_eq_getElem?_getD, List.getElem?_eq_getElem hlt]; rfl
  rw [hgd] at hsu
  have back : ∀ l, zb8 st (i + 1) = l → Kb (zg7 (.int .i64 e) (.ptr 0 0) (.ms id 0 st.length st.length) (.sl (ints l) (.own H.length)) (.int .i64 st.length) (.int .i64 ((i : Int) + 1))) (H ++ [.perm zdu 1 l.length]) := fun l h => by
   subst h
   refine hKb _ _ ⟨st.length - (i + 1), by omega, Back.here (by simp) (hs.append rfl) ?_ ⟨_, _, rfl, i + 1, by omega, rfl, by simp, rfl, rfl⟩⟩
   simp [zg7, AV.sc, AV.scV, AV.scA, AV.scB]; omega
  cases hb : st[i] with
  | false =>
   rw [hb, if_neg (by simp), List.append_nil] at hsu
   have := back _ hsu
   simp [zky, zkD, zpn, hlt, hgJ, zaK, hb]
   rw [zaq (by omega) (by omega)]
   exact this
  | true =>
   rw [hb, if_pos rfl] at hsu
   have := back _ hsu
   simp [zky, zkD, zpn, hlt, hgJ, zaK, hb]
   rw [show ∀ k : AV → Prop, zay 1 [.int .i64 0] 1 [(0, .int .i64 (i : Int))] k = k (.sl [[.int .i64 (i : Int)]] .full) from fun k => propext Iff.rfl]
   simp [zaH, zbE, zbb]
   refine ⟨⟨by omega, by omega⟩, ?_⟩
   rw [zaq (by omega) (by omega)]
   simpa [ints] using this
 ·obtain rfl : i = st.length := by omega
  have hme : zb8 st st.length = zbO c e := hm
  have hfl : (zbO c e).length ≤ c.vars.length := zsf c (zcM c) e
  simp [zky, hgH, hgE, hat]
  rw [← hat]
  refine ztZ c hk e _ _ ?_
  rw [hme]
  refine ACalls.wk (zwy (zbO c e) (zbO c e) (by omega) _ _ ?_) ⟨.rfl', .atom (.sl _ _), trivial⟩
  simp
  refine zwU _ _ ?_
  try simp
  exact hK _
theorem zwu (c : Cor) (h1 : c.data.length ≤ 9223372036854775807) (h2 : c.vars.length ≤ 9223372036854775807) (v : Int) : ACalls tP zrE [.agg c.cs, .int .i64 v] [] fun r _ => r = .bool true := by
 refine zH4 fun hs => ?_
 have hat : c.cs = [.sl (c.data.map Dat.cs) .none, .sl (c.codes.map Cod.cs) .none, .sl (VT.css c.vars) .none, .sl (c.exprs.map CEx.cs) .none] := rfl
 simp [zq6, hat]
 rw [← hat]
 refine zBu c h1 h2 _ _ fun b hb => ?_
 cases b with
 | false => simp
 | true =>
 have hk := hb rfl
 have hcn := hk.2.1
 have hen := hk.2.2.1
 have hvn := hk.2.2.2.1.1
 simp [hat]
 rw [← hat]
 refine zC4 c hk _ _ ?_
 cases hv : vOk c with
 | false => simp
 | true =>
 have hT := zil hk hv
 by_cases g1 : v < 0
 ·simp [hat, g1]
 by_cases g2 : (c.exprs.length : Int) ≤ v
 ·simp [hat, g1, g2]
 obtain ⟨e, rfl⟩ : ∃ n : Nat, v = n := ⟨v.toNat, by omega⟩
 have hel : e < c.exprs.length := by omega
 have g2' : ¬ c.exprs.length ≤ e := by omega
 obtain ⟨x, y, z, hvv, hx, hy, hz, hce⟩ := zdv hel
 obtain ⟨kv, kb, kk, _, kbl⟩ := zl4 hk hel
 have hbk : (c.exprs[e]).binds.length = (c.exprs[e]).kids.length := by have := hT.kb e; rwa [zdP hel, zcQ hel] at this
 have hkr : ∀ x ∈ (c.exprs[e]).kids, 0 ≤ x ∧ x < (c.exprs.length : Int) := fun x hx => hT.kr e x (by rw [zcQ hel]; exact hx)
 have hka : zcf c e = (c.exprs[e]).kids := zcQ hel
 have hba : zcc c e = (c.exprs[e]).binds := zdP hel
 have hva : zbU c e = (c.exprs[e]).vars := znl hel
 have hvr : ∀ x ∈ (c.exprs[e]).vars, 0 ≤ x ∧ x < (c.vars.length : Int) := fun x hx => hT.vr e x (by rw [hva]; exact hx)
 generalize hE : c.exprs[e] = E at *
 simp [hat, g1, g2', hel, hE, hce, hx, hy, hz]
 simp only [zbc, Int.toNat_natCast, zeb]
 refine ⟨⟨by omega, by omega, by omega, by omega⟩, ?_⟩
 simp
 rw [← hat, show AB.cells (zaQ (List.replicate c.vars.length false)) = boB (List.replicate c.vars.length false) from rfl]
 obtain ⟨EB, hEB⟩ : ∃ EB, EB = AB.cells [.int .i64 E.op, .int .i64 E.num, .sl (ints E.vars) .none, .sl (rows E.binds) .none, .sl (ints E.kids) .none, x, y, z] := ⟨_, rfl⟩
 rw [← hEB]
 refine zH0 (Inv := fun q t46 H' => ∃ (j : Nat), j ≤ E.vars.length ∧ q = E.vars.length - j ∧ t46 = .int .i64 j ∧ H' = [.cells c.cs, EB, boB (zaz (List.replicate c.vars.length false) (E.vars.take j) true)]) E.vars.length ?_ ?_
 ·intro _; exact ⟨0, by omega, by omega, rfl, by simp [zaz]⟩
 rintro q t46 H' ⟨j, hj, rfl, rfl, rfl⟩ hsc hlen hsF Kb hKb
 by_cases hlj : j < E.vars.length
 ·have hr := hvr _ (List.getElem_mem hlj)
  obtain ⟨u, hu⟩ : ∃ u : Nat, E.vars[j] = u := ⟨(E.vars[j]).toNat, by omega⟩
  have hul : u < c.vars.length := by omega
  have hnx : zaz (List.replicate c.vars.length false) (E.vars.take (j + 1)) true = (zaz (List.replicate c.vars.length false) (E.vars.take j) true).set u true := by rw [zbM hlj, zif, hu]; rfl
  have hsl : (zaz (List.replicate c.vars.length false) (E.vars.take j) true).length = c.vars.length := by simp
  generalize zaz (List.replicate c.vars.length false) (E.vars.take j) true = st at *
  simp [zpl, hlj, zgm, hu, hul, boB, hsl]
  rw [zaq (by omega) (by omega), zdr (by omega)]
  refine ⟨by omega, hKb _ _ ⟨E.vars.length - (j + 1), by omega, Back.here (by simp) ?_ ?_ ⟨_, rfl, j + 1, by omega, rfl, by simp, by rw [hnx]; rfl⟩⟩⟩
  ·intro b hb
   simp at hb
   rcases hb with rfl | rfl | rfl
   ·exact hsc _ (by simp)
   ·exact hsc _ (by simp)
   ·simp [AB.sc, zdc]
  ·simp [zkB, AV.sc, AV.scV, AV.scA, AV.scB]
   try omega
 obtain rfl : j = E.vars.length := by omega
 rw [List.take_length] at *
 have hscB : ∀ st, HSc [.cells c.cs, EB, boB st] := fun st b hb => by
  simp at hb
  rcases hb with rfl | rfl | rfl
  ·exact hsc _ (by simp)
  ·exact hsc _ (by simp)
  ·simp [AB.sc, boB, zdc]
 simp [zpl, hEB]
 rw [← hEB]
 refine zHX (Inv := fun q t57 H' => ∃ (k : Nat) (st : List Bool), k ≤ E.kids.length ∧ q = E.kids.length - k ∧ t57 = .int .i64 k ∧ st.length = c.vars.length ∧ (∀ v : Nat, v < c.vars.length → (st.getD v false = true ↔ (v : Int) ∈ zbU c e ∨ ∃ k' m, k' < k ∧ Kid c e k' m ∧ zcM c m v ∧ ¬ Bind c e k' v)) ∧
  H' = [.cells c.cs, EB, boB st]) E.kids.length ?_ ?_
 ·intro _
  refine ⟨0, _, by omega, by omega, rfl, by simp, fun v hvl => ?_, rfl⟩
  rw [zm1 (by simpa using hvr), hva]
  constructor
  ·rintro (h | h)
   ·rw [List.getD_eq_getElem?_getD, List.getElem?_replicate] at h
    split at h <;> simp at h
   ·exact .inl h
  ·rintro (h | ⟨_, _, h, _⟩)
   ·exact .inr h
   ·omega
 rintro q t57 H' ⟨k, st, hkl, rfl, rfl, hsl, hst, rfl⟩ hsc2 hlen2 hsF2 Kb11 hKb11
 by_cases hlk : k < E.kids.length
 ·have hra := hkr _ (List.getElem_mem hlk)
  obtain ⟨m, hm⟩ : ∃ m : Nat, E.kids[k] = m := ⟨(E.kids[k]).toNat, by omega⟩
  have hKid : Kid c e k m := by unfold Kid; rw [hka, List.getElem?_eq_getElem hlk, hm]
  have hml : m < c.exprs.length := (hT.lt hKid).2
  have hkb : k < E.binds.length := by omega
  have hbl : (E.binds[k]).length ≤ 10 := kbl _ (List.getElem_mem hkb)
  have hbd : ∀ v, Bind c e k v ↔ v ∈ E.binds[k] := fun v => by
   unfold Bind
   rw [hba, List.getElem?_eq_getElem hkb]
   exact ⟨fun ⟨l, h1, h2⟩ => by obtain rfl := Option.some.inj h1; exact h2, fun h => ⟨_, rfl, h⟩⟩
  have hfl : (zbO c m).length ≤ c.vars.length := zsf c (zcM c) m
  simp [zpj, hlk, zgm, hm, hat]
  rw [← hat]
  refine ztZ c hk m _ _ ?_
  simp
  refine zHY (Inv := fun q t66 H' => ∃ (j : Nat) (st2 : List Bool), j ≤ (zbO c m).length ∧ q = (zbO c m).length - j ∧ t66 = .int .i64 j ∧ st2.length = c.vars.length ∧ (∀ v : Nat, v < c.vars.length → (st2.getD v false = true ↔ st.getD v false = true ∨ ∃ j', j' < j ∧ (zbO c m)[j']? = some (v : Int) ∧ (v : Int) ∉ E.binds[k])) ∧
   H' = [.cells c.cs, EB, boB st2]) (zbO c m).length ?_ ?_
  ·intro _; exact ⟨0, st, by omega, by omega, rfl, hsl, fun v hvl => by simp, rfl⟩
  rintro q t66 H' ⟨j, st2, hj2, rfl, rfl, hsl2, hst2, rfl⟩ hsc3 hlen3 hsF3 Kb14 hKb14
  by_cases hlj : j < (zbO c m).length
  ·have hfr := (zlT hk hml hv).1 (List.getElem_mem hlj)
   have hrg := hT.InS_range (hT.free_scope hfr)
   obtain ⟨u, hu⟩ : ∃ u : Nat, (zbO c m)[j] = u := ⟨((zbO c m)[j]).toNat, by omega⟩
   have hul : u < c.vars.length := by omega
   have back : ∀ st3 : List Bool, st3.length = c.vars.length → (∀ v : Nat, v < c.vars.length → (st3.getD v false = true ↔ st2.getD v false = true ∨ (v = u ∧ (v : Int) ∉ E.binds[k]))) →
     zkC (.int .i64 e) (.ptr 0 0) (.ptr 1 0) (.ms 2 0 c.vars.length c.vars.length) (.int .i64 k) (.sl (ints E.kids) .none) (.int .i64 E.kids.length) (.int .i64 k) (.sl (ints (zbO c m)) .none) (.int .i64 (zbO c m).length) (.int .i64 j) [.cells c.cs, EB, boB st3] (fun r _ => r = .bool true) Kb11 Kb14 := fun st3 h1 h2 => by
    simp [zkC, zvs]
    rw [zaq (by omega) (by omega)]
    refine hKb14 _ _ ⟨(zbO c m).length - (j + 1), by omega, Back.here (by simp) (hscB _) ?_ ⟨_, rfl, j + 1, st3, by omega, rfl, by simp, h1, fun v hvl => ?_, rfl⟩⟩
    ·simp [zkA, AV.sc, AV.scV, AV.scA, AV.scB]
     try omega
    ·rw [h2 v hvl, hst2 v hvl, or_assoc]
     refine or_congr Iff.rfl ⟨?_, ?_⟩
     ·rintro (⟨j', h3, h4⟩ | ⟨h3, h4⟩)
      ·exact ⟨j', by omega, h4⟩
      ·exact ⟨j, by omega, by rw [List.getElem?_eq_getElem hlj, hu, h3], h4⟩
     ·rintro ⟨j', h3, h4, h5⟩
      by_cases h6 : j' < j
      ·exact .inl ⟨j', h6, h4, h5⟩
      ·obtain rfl : j' = j := by omega
       rw [List.getElem?_eq_getElem hlj, hu] at h4
       have := Option.some.inj h4
       exact .inr ⟨by omega, h5⟩
   have hu0 : ¬ ((u : Int) < 0) := by omega
   have hu1 : ¬ ((c.vars.length : Int) ≤ u) := by omega
   have hu2 : ¬ (c.vars.length ≤ u) := by omega
   simp [zpk, hlj, zgm, hu, hu0, hu1, hu2, hEB, hkb, zr5]
   rw [← hEB]
   refine zxT E.binds[k] (by omega) _ _ _ ?_
   by_cases hp : (u : Int) ∈ E.binds[k]
   ·simp [hp]
    exact back st2 hsl2 fun v hvl => ⟨fun h => .inl h, fun h => by
     rcases h with h | ⟨rfl, h⟩
     ·exact h
     ·exact absurd hp h⟩
   ·simp [hp, hul, boB, hsl2]
    rw [zdr (by omega)]
    refine ⟨by omega, ?_⟩
    have := back (st2.set u true) (by simpa using hsl2) fun v hvl => by
     rw [zfL]
     by_cases h3 : u = v
     ·subst h3
      simp [hsl2, hul, hp]
     ·rw [if_neg (by simp [h3])]
      exact ⟨fun h => .inl h, fun h => by
       rcases h with h | ⟨h, _⟩
       ·exact h
       ·exact absurd h.symm h3⟩
    simpa [boB] using this
  ·obtain rfl : j = (zbO c m).length := by omega
   simp [zpk]
   rw [zaq (by omega) (by omega)]
   refine hKb11 _ _ ⟨E.kids.length - (k + 1), by omega, Back.here (by simp) (hscB _) ?_ ⟨_, rfl, k + 1, st2, by omega, rfl, by simp, hsl2, fun v hvl => ?_, rfl⟩⟩
   ·simp [zkz, AV.sc, AV.scV, AV.scA, AV.scB]
    try omega
   ·rw [hst2 v hvl, hst v hvl, or_assoc]
    refine or_congr Iff.rfl ⟨?_, ?_⟩
    ·rintro (⟨k', m', h3, h4⟩ | ⟨j', h3, h4, h5⟩)
     ·exact ⟨k', m', by omega, h4⟩
     ·exact ⟨k, m, by omega, hKid, (zlT hk hml hv).1 (List.mem_of_getElem? h4), fun h => h5 ((hbd _).1 h)⟩
    ·rintro ⟨k', m', h3, h4, h5, h6⟩
     by_cases h7 : k' < k
     ·exact .inl ⟨k', m', h7, h4, h5, h6⟩
     ·obtain rfl : k' = k := by omega
      have hmm : m' = m := by
       unfold Kid at h4 hKid
       rw [hKid] at h4
       have := Option.some.inj h4
       omega
      subst hmm
      obtain ⟨j', h8, h9⟩ := List.mem_iff_getElem.1 ((zlT hk hml hv).2 h5)
      exact .inr ⟨j', h8, by rw [List.getElem?_eq_getElem h8, h9], fun h => h6 ((hbd _).2 h)⟩
 obtain rfl : k = E.kids.length := by omega
 have hfin : st = chi c.vars.length (zcM c e) := zqJ hsl fun v hvl => by
  rw [hst v hvl, hT.free_iff]
  refine or_congr Iff.rfl ⟨fun ⟨k', m, _, h⟩ => ⟨k', m, h⟩, fun ⟨k', m, h3, h4⟩ => ⟨k', m, ?_, h3, h4⟩⟩
  unfold Kid at h3
  rw [hka] at h3
  exact (List.getElem?_eq_some_iff.1 h3).1
 have hme : mem st = zbO c e := by
  rw [hfin, zbO, zeq, if_pos ⟨by omega, by omega, hv⟩, Int.toNat_natCast]
 simp [zpj]
 exact zwv hk hv hsl hme hsc2 (by simp) (id := 2) (by simp) _ fun _ => rfl
end Go.Proofs.Ytkdmpbhbmmhijaa
namespace Go.Abs
open Go Go.RowKit

def zbs (P : Program) : Nat → TypeId → List AV → Prop
 | 0, _, _ => False
 | n + 1, t, asx => match P.underlying t with
  | some .bool => ∃ b, asx = [.bool b]
  | some (.int k) => ∃ m, asx = [.int k m] ∧ (Lit.int k m).wf = true
  | some .string => ∃ s, asx = [.str s] ∧ s.length ≤ maxLen
  | some (.slice e) => ∃ es, asx = [.sl es .none] ∧ es.length ≤ maxLen ∧ ∀ c ∈ es, zbs P n e c
  | some (.struct fs) => asx.length = P.cellsOf t ∧ ∀ f ∈ fs.toList, zbs P n f.type ((asx.drop f.offset).take (P.cellsOf f.type))
  | _ => False

def zet (P : Program) : List Field → Nat → Nat → Bool
 | [], at_, n => at_ == n
 | f :: fs, at_, n => f.offset == at_ && zet P fs (at_ + P.cellsOf f.type) n
def zh7 (P : Program) (S : List TypeId) : Bool :=
 S.all fun t => match P.underlying t with
  | some .bool | some (.int _) | some .string => P.cellsOf t == 1
  | some (.slice e) => S.contains e && decide (0 < P.cellsOf e) && P.cellsOf t == 1
  | some (.struct fs) => fs.toList.all (fun f => S.contains f.type) && zet P fs.toList 0 (P.cellsOf t)
  | _ => false

section
variable {Hh : Type} {enc : TypeId × Value → Hh} {P : Program} {w : World} {base : Nat} {spare : Nat → Bool} {held : Bool}

theorem zss {R : Value → AV → Prop} {cs : List Value} : ∀ (fs : List Field) (at_ n : Nat) (T : Field → List AV → Prop), zet P fs at_ n = true → cs.length = n →
  (∀ f ∈ fs, ∃ asx, All2 R ((cs.drop f.offset).take (P.cellsOf f.type)) asx ∧ T f asx) → at_ ≤ n →
  ∃ asx, All2 R (cs.drop at_) asx ∧ ∀ f ∈ fs, T f ((asx.drop (f.offset - at_)).take (P.cellsOf f.type)) ∧ at_ ≤ f.offset
 | [], at_, n, T, ht, hl, hf, hle => by
  simp [zet] at ht
  subst ht
  refine ⟨[], ?_, by simp⟩
  rw [List.drop_eq_nil_of_le (by omega)]
  trivial
 | f :: fs, at_, n, T, ht, hl, hf, hle => by
  simp only [zet, Bool.and_eq_true, beq_iff_eq] at ht
  obtain ⟨h1, h2⟩ := ht
  have hbound : ∀ (fs : List Field) (k n : Nat), zet P fs k n = true → k ≤ n := by
   intro fs
   induction fs with
   | nil => intro k n h; simp [zet] at h; omega
   | cons g gs ih => intro k n h; simp only [zet, Bool.and_eq_true] at h; have := ih _ _ h.2; omega
  have hb := hbound fs _ _ h2
  obtain ⟨as0, ha0, hT0⟩ := hf f (by simp)
  obtain ⟨as1, ha1, hT1⟩ := zss fs (at_ + P.cellsOf f.type) n T h2 hl (fun g hg => hf g (by simp [hg])) hb
  have hl0 : as0.length = P.cellsOf f.type := by
   have := ha0.length
   rw [List.length_take, List.length_drop] at this
   omega
  refine ⟨as0 ++ as1, ?_, ?_⟩
  ·have : cs.drop at_ = (cs.drop f.offset).take (P.cellsOf f.type) ++ cs.drop (at_ + P.cellsOf f.type) := by
    rw [h1, ← List.drop_drop, List.take_append_drop]
   rw [this]
   exact ha0.append ha1
  ·intro g hg
   rcases List.mem_cons.1 hg with rfl | hg
   ·rw [h1, Nat.sub_self, List.drop_zero, ← hl0, List.take_left]
    exact ⟨hT0, Nat.le_refl _⟩
   ·obtain ⟨k1, k2⟩ := hT1 g hg
    refine ⟨?_, by omega⟩
    have : (as0 ++ as1).drop (g.offset - at_) = as1.drop (g.offset - (at_ + P.cellsOf f.type)) := by
     rw [List.drop_append, List.drop_eq_nil_of_le (by omega), List.nil_append]
     congr 1
     omega
    rw [this]
    exact k1

theorem zhq {a : Addr} {n : Nat} {cs : List Value} (h : w.cells? base a n = some cs) : cs.length = n ∧ ∀ j v, cs[j]? = some v → w.cell? (a.add j) = some v := by
 unfold World.cells? at h
 split at h
 ·have h1 := mapM_some_length h
  refine ⟨by simpa using h1, fun j v hj => ?_⟩
  have hjn : j < n := by
   have := (List.getElem?_eq_some_iff.1 hj).1
   simp at h1
   omega
  have := mapM_some_get h j j (by simp [hjn])
  rw [this]
  exact hj
 ·cases h

theorem zyb {b o : Nat} {v : Value} (h : w.cell? ⟨b, o, none⟩ = some v) : o < zcB w b := by
 unfold World.cell? at h
 unfold zcB
 split at h
 ·rename_i c t fr hb
  simp only [hb]
  simp at h
  exact (Array.getElem?_eq_some_iff.1 h).1
 ·cases h

theorem zsz {S : List TypeId} (hS : zh7 P S = true) : ∀ (n : Nat) (t : TypeId) (cs : List Value) (x : DataW Hh × List MemPlace), t ∈ S → DataW.trod enc P w base spare held n t cs = some x →
  ∃ asx, All2 (DRel w (zcB w)) cs asx ∧ zbs P n t asx := by
 intro n
 induction n with
 | zero => intro t cs x _ h; simp [DataW.trod] at h
 | succ n ih =>
  intro t cs x ht h
  have hp := List.all_eq_true.1 hS t ht
  unfold zbs
  cases hu : P.underlying t with
  | none => simp [hu] at hp
  | some d =>
   rw [hu] at hp
   cases d <;> simp only [] at hp <;> try (cases hp; done)
   case bool =>
    obtain ⟨b, rfl, _⟩ := DataW.trod_bool hu h
    exact ⟨[.bool b], ⟨.bool b, trivial⟩, b, rfl⟩
   case int k =>
    obtain ⟨m, rfl, _, hw⟩ := DataW.trod_int hu h
    exact ⟨[.int k m], ⟨.int k m, trivial⟩, m, rfl, hw⟩
   case string =>
    obtain ⟨s, rfl, _, hw⟩ := DataW.trod_string hu h
    have hs : (⟨s.data.toList.toArray⟩ : ByteArray) = s := by simp
    refine ⟨[.str s.data.toList], ⟨?_, trivial⟩, s.data.toList, rfl, by rw [Array.length_toList]; exact hw⟩
    have := DRel.str (w := w) (L := zcB w) s.data.toList
    rwa [hs] at this
   case slice e =>
    simp only [Bool.and_eq_true, decide_eq_true_eq] at hp
    obtain ⟨⟨he, hpos⟩, _⟩ := hp
    have he : e ∈ S := by simpa using he
    rcases DataW.trod_slice hu h with ⟨rfl, _⟩ | ⟨a, len, cap, elems, rest, n', hn, rfl, _, hb, hl, hm, hlen, hel, _⟩
    ·exact ⟨[.sl [] .none], ⟨.slE _ _, trivial⟩, [], rfl, by simp, by simp⟩
    ·obtain rfl : n = n' := by omega
     have hat : ∀ i, i < len → ∃ cs asx, w.cells? base (a.add (i * P.cellsOf e)) (P.cellsOf e) = some cs ∧ All2 (DRel w (zcB w)) cs asx ∧ zbs P n e asx := by
      intro i hi
      have h1 := hel i hi
      rw [List.getElem?_eq_getElem (by omega)] at h1
      cases hc : w.cells? base (a.add (i * P.cellsOf e)) (P.cellsOf e) with
      | none => rw [hc] at h1; cases h1
      | some cs =>
       rw [hc] at h1
       obtain ⟨asx, h2, h3⟩ := ih e cs _ he h1
       exact ⟨cs, asx, rfl, h2, h3⟩
     by_cases h0 : len = 0
     ·subst h0
      exact ⟨[.sl [] .none], ⟨.slE _ _, trivial⟩, [], rfl, by simp, by simp⟩
     ·-- the address is a zbv one
      have hspot : a.spot = none := by
       obtain ⟨cs, asx, h1, h2, _⟩ := hat 0 (by omega)
       obtain ⟨h3, h4⟩ := zhq h1
       have h5 := h4 0 cs[0] (by simp)
       have := World.cell?_spot h5
       simpa [Addr.add] using this
      obtain ⟨b, off, sp⟩ := a
      simp only at hspot
      subst hspot
      obtain ⟨f, hf⟩ : ∃ f : Nat → List Value × List AV, ∀ i, i < len → w.cells? base ((⟨b, off, none⟩ : Addr).add (i * P.cellsOf e)) (P.cellsOf e) = some (f i).1 ∧ All2 (DRel w (zcB w)) (f i).1 (f i).2 ∧ zbs P n e (f i).2 :=
       Deep.choose_lt (p := fun i (y : List Value × List AV) => w.cells? base ((⟨b, off, none⟩ : Addr).add (i * P.cellsOf e)) (P.cellsOf e) = some y.1 ∧ All2 (DRel w (zcB w)) y.1 y.2 ∧ zbs P n e y.2)
        (fun i hi => by obtain ⟨cs, asx, h1, h2, h3⟩ := hat i hi; exact ⟨(cs, asx), h1, h2, h3⟩)
      have hcell : ∀ i, i < len → ∀ j v, (f i).1[j]? = some v → w.cell? ⟨b, off + i * P.cellsOf e + j, none⟩ = some v := by
       intro i hi j v hj
       have := (zhq (hf i hi).1).2 j v hj
       rw [add_lit, add_lit] at this
       exact this
      have hlen2 : ∀ i, i < len → (f i).2.length = P.cellsOf e := fun i hi => by
       rw [← (hf i hi).2.1.length]; exact (zhq (hf i hi).1).1
      refine ⟨[.sl ((List.range len).map fun i => (f i).2) .none], ⟨?_, trivial⟩, _, rfl, by simp; omega, ?_⟩
      ·have := DRel.sl (w := w) (L := zcB w) b off cap (P.cellsOf e) ((List.range len).map fun i => (f i).2) (fun i j => (f i).1.getD j undef) (by simp; exact h0) (by simpa using hl) ?_ ?_ ?_ ?_
       ·simpa using this
       ·-- the last cell is there
        have hi : len - 1 < len := by omega
        have hj : P.cellsOf e - 1 < (f (len - 1)).1.length := by rw [(zhq (hf _ hi).1).1]; omega
        have := zyb (hcell (len - 1) hi (P.cellsOf e - 1) _ (List.getElem?_eq_getElem hj))
        have hmul : (len - 1) * P.cellsOf e + P.cellsOf e = len * P.cellsOf e := by
         rw [← Nat.succ_mul]; congr 1; omega
        simp
        omega
       ·intro i hi
        simp at hi
        simpa using hlen2 i hi
       ·intro i j hi hj
        simp at hi hj
        have hjl : j < (f i).1.length := by rw [(hf i hi).2.1.length]; exact hj
        simp only [List.getD_eq_getElem?_getD, List.getElem?_eq_getElem hjl, Option.getD_some]
        exact hcell i hi j _ (List.getElem?_eq_getElem hjl)
       ·intro i j hi hj
        simp at hi hj
        have hjl : j < (f i).1.length := by rw [(hf i hi).2.1.length]; exact hj
        obtain ⟨c, h1, h2⟩ := (hf i hi).2.1.get' (List.getElem?_eq_getElem hjl)
        simp only [List.getD_eq_getElem?_getD, List.getElem?_eq_getElem hjl, Option.getD_some, List.getElem_map, List.getElem_range]
        have : (f i).2[j] = c := by rw [List.getElem?_eq_getElem hj] at h1; exact Option.some.inj h1
        rw [this]
        exact h2
      ·intro c hc
       obtain ⟨i, hi, rfl⟩ := List.mem_map.1 hc
       exact (hf i (by simpa using hi)).2.2
   case struct fs =>
    simp only [Bool.and_eq_true] at hp
    obtain ⟨hfs, htile⟩ := hp
    obtain ⟨xs, n', hn, _, hcl, hxl, hat⟩ := DataW.trod_struct hu h
    obtain rfl : n = n' := by omega
    obtain ⟨asx, h1, h2⟩ := zss (P := P) (R := DRel w (zcB w)) (cs := cs) fs.toList 0 (P.cellsOf t) (fun f asx => zbs P n f.type asx) htile hcl (fun f hf => by
     obtain ⟨i, hi⟩ := List.mem_iff_getElem?.1 hf
     have hi' : fs[i]? = some f := by simpa using hi
     have h3 := hat i f hi'
     have hlt : i < xs.length := by rw [hxl]; exact (Array.getElem?_eq_some_iff.1 hi').1
     rw [List.getElem?_eq_getElem hlt] at h3
     exact ih f.type _ _ (by simpa using List.all_eq_true.1 hfs f hf) h3) (Nat.zero_le _)
    rw [List.drop_zero] at h1
    refine ⟨asx, h1, by rw [← h1.length]; exact hcl, fun f hf => ?_⟩
    simpa using (h2 f hf).1
end

theorem zyx {Hh : Type} {enc : TypeId × Value → Hh} {P : Program} {w : World} {base : Nat} {spare : Nat → Bool} {held : Bool} {S : List TypeId} (hS : zh7 P S = true) {t : TypeId} (ht : t ∈ S) {cs : Array Value} {d : DataW Hh} {p : List MemPlace}
  (h : DataW.Trod enc P w base spare held t (.agg cs) d p) : ∃ n asx, zbs P n t asx ∧ TRel w (G0 w) (.agg cs) (.agg asx) := by
 obtain ⟨n, hn⟩ := h
 obtain ⟨asx, h1, h2⟩ := zsz hS n t _ _ ht hn
 exact ⟨n, asx, h2, cs, rfl, h1.mono fun _ _ hd => ARel.of_b (DRel.toB (G := G0 w) hd)⟩
theorem zyw {Hh : Type} {enc : TypeId × Value → Hh} {P : Program} {w : World} {base : Nat} {spare : Nat → Bool} {held : Bool} {S : List TypeId} (hS : zh7 P S = true) {t : TypeId} (ht : t ∈ S) {v : Value} {d : DataW Hh} {p : List MemPlace} (hv : v.cells = #[v])
  (h : DataW.Trod enc P w base spare held t v d p) : ∃ n a, zbs P n t [a] ∧ TRel w (G0 w) v a := by
 obtain ⟨n, hn⟩ := h
 obtain ⟨asx, h1, h2⟩ := zsz hS n t _ _ ht hn
 rw [hv] at h1
 match asx, h1, h2 with
 | [a], h1, h2 => exact ⟨n, a, h2, TRel.of_v (VRel.of_a (ARel.of_b (DRel.toB (G := G0 w) h1.1)))⟩
section
variable {P : Program} {n : Nat} {t : TypeId} {l : List AV}
theorem zeu {k : IntKind} (hu : P.underlying t = some (.int k)) (h : zbs P n t l) : ∃ m, l = [.int k m] ∧ (Lit.int k m).wf = true := by
 cases n with
 | zero => exact h.elim
 | succ n => unfold zbs at h; rw [hu] at h; exact h
theorem zne (hu : P.underlying t = some .string) (h : zbs P n t l) : ∃ s, l = [.str s] ∧ s.length ≤ maxLen := by
 cases n with
 | zero => exact h.elim
 | succ n => unfold zbs at h; rw [hu] at h; exact h
theorem zdE {e : TypeId} (hu : P.underlying t = some (.slice e)) (h : zbs P n t l) : ∃ es n', n' < n ∧ l = [.sl es .none] ∧ es.length ≤ maxLen ∧ ∀ c ∈ es, zbs P n' e c := by
 cases n with
 | zero => exact h.elim
 | succ n => unfold zbs at h; rw [hu] at h; obtain ⟨es, h1, h2, h3⟩ := h; exact ⟨es, n, by omega, h1, h2, h3⟩
theorem zfQ {fs : Array Field} (hu : P.underlying t = some (.struct fs)) (h : zbs P n t l) : ∃ n', n' < n ∧ l.length = P.cellsOf t ∧ ∀ f ∈ fs.toList, zbs P n' f.type ((l.drop f.offset).take (P.cellsOf f.type)) := by
 cases n with
 | zero => exact h.elim
 | succ n => unfold zbs at h; rw [hu] at h; exact ⟨n, by omega, h⟩
theorem zdx {α : Type} {cs : α → List AV} : ∀ {es : List (List AV)}, (∀ c ∈ es, ∃ x, c = cs x) → ∃ xs : List α, es = xs.map cs
 | [], _ => ⟨[], rfl⟩
 | e :: es, h => by
  obtain ⟨x, hx⟩ := h e (by simp)
  obtain ⟨xs, hxs⟩ := zdx (es := es) (fun c hc => h c (by simp [hc]))
  exact ⟨x :: xs, by simp [hx, hxs]⟩
end
end Go.Abs
namespace Go.Proofs.Ytkdmpbhbmmhijaa
open Go Go.Abs
set_option maxRecDepth 100000
theorem zqP : zh7 Try.prog [27, 22, 23, 24, 25, 67, 65, 69, 41, 43, 46, 35, 39, 2, 3, 9] = true := by kernel_rfl
theorem ce3 : Try.prog.cellsOf 3 = 1 := by kernel_rfl
theorem ce2 : Try.prog.cellsOf 2 = 1 := by kernel_rfl
theorem ce9 : Try.prog.cellsOf 9 = 1 := by kernel_rfl
theorem zxn : Try.prog.cellsOf 22 = 1 := by kernel_rfl
theorem zxo : Try.prog.cellsOf 23 = 1 := by kernel_rfl
theorem zlB : Try.prog.cellsOf 24 = 1 := by kernel_rfl
theorem zxp : Try.prog.cellsOf 25 = 1 := by kernel_rfl
theorem zqH : Try.prog.cellsOf 35 = 1 := by kernel_rfl
theorem zxr : Try.prog.cellsOf 39 = 1 := by kernel_rfl
theorem zxu : Try.prog.cellsOf 65 = 1 := by kernel_rfl
theorem zlC : Try.prog.cellsOf 41 = 3 := by kernel_rfl
theorem zxs : Try.prog.cellsOf 43 = 8 := by kernel_rfl
theorem zxt : Try.prog.cellsOf 46 = 7 := by kernel_rfl
theorem zxv : Try.prog.cellsOf 67 = 3 := by kernel_rfl
theorem zxw : Try.prog.cellsOf 69 = 2 := by kernel_rfl
theorem zxq : Try.prog.cellsOf 27 = 4 := by kernel_rfl
theorem zit : ∀ (n : Nat) (l : List AV), zbs Try.prog n 41 l → ∃ v : VT, l = v.cs := by
 intro n
 induction n using Nat.strongRecOn with
 | _ n ih =>
  intro l h
  obtain ⟨n', hn, hl, hf⟩ := zfQ Try.underlying41 h
  rw [zlC] at hl
  match l, hl with
  | [a, b, c], _ =>
   simp [ce3, zlB] at hf
   obtain ⟨h1, h2, h3⟩ := hf
   obtain ⟨k, hk, _⟩ := zeu Try.underlying3 h1
   obtain ⟨m, hm, _⟩ := zeu Try.underlying3 h2
   obtain ⟨es, n2, hn2, hes, _, hel⟩ := zdE Try.underlying24 h3
   obtain ⟨ks, hks⟩ := zdx (cs := VT.cs) (fun c hc => ih n2 (by omega) c (hel c hc))
   simp at hk hm hes
   exact ⟨.mk k m ks, by simp [VT.cs, VT.css_map, hk, hm, hes, hks]⟩
theorem zgn (n : Nat) (a : AV) (h : zbs Try.prog n 35 [a]) : ∃ l : List Int, a = .sl (ints l) .none := by
 obtain ⟨es, n2, hn2, hes, _, hel⟩ := zdE Try.underlying35 h
 obtain ⟨ks, hks⟩ := zdx (cs := fun n : Int => [AV.int .i64 n]) (fun c hc => by
  obtain ⟨m, hm, _⟩ := zeu Try.underlying3 (hel c hc)
  exact ⟨m, hm⟩)
 simp at hes
 exact ⟨ks, by rw [hes, hks]; rfl⟩
theorem zy5 (n : Nat) (a : AV) (h : zbs Try.prog n 39 [a]) : ∃ l : List (List Int), a = .sl (rows l) .none := by
 obtain ⟨es, n2, hn2, hes, _, hel⟩ := zdE Try.underlying39 h
 obtain ⟨ks, hks⟩ := zdx (cs := fun r : List Int => [AV.sl (ints r) .none]) (fun c hc => by
  obtain ⟨es2, _, _, h2, _⟩ := zdE Try.underlying35 (hel c hc)
  subst h2
  obtain ⟨l, hl⟩ := zgn n2 _ (hel _ hc)
  exact ⟨l, by rw [hl]⟩)
 simp at hes
 exact ⟨ks, by rw [hes, hks]; rfl⟩
theorem zxD (n : Nat) (l : List AV) (h : zbs Try.prog n 69 l) : ∃ c : Con, l = c.cs := by
 obtain ⟨n', hn, hl, hf⟩ := zfQ Try.underlying69 h
 rw [zxw] at hl
 match l, hl with
 | [a, b], _ =>
  simp [ce9, zlB] at hf
  obtain ⟨h1, h2⟩ := hf
  obtain ⟨s, hs, _⟩ := zne Try.underlying9 h1
  obtain ⟨es, n2, hn2, hes, _, hel⟩ := zdE Try.underlying24 h2
  obtain ⟨ks, hks⟩ := zdx (cs := VT.cs) (fun c hc => zit n2 c (hel c hc))
  simp at hs hes
  exact ⟨⟨s, ks⟩, by simp [Con.cs, VT.css_map, hs, hes, hks]⟩
theorem zxG (n : Nat) (l : List AV) (h : zbs Try.prog n 67 l) : ∃ d : Dat, l = d.cs := by
 obtain ⟨n', hn, hl, hf⟩ := zfQ Try.underlying67 h
 rw [zxv] at hl
 match l, hl with
 | [a, b, c], _ =>
  simp [ce9, ce3, zxu] at hf
  obtain ⟨h1, h2, h3⟩ := hf
  obtain ⟨s, hs, _⟩ := zne Try.underlying9 h1
  obtain ⟨m, hm, _⟩ := zeu Try.underlying3 h2
  obtain ⟨es, n2, hn2, hes, _, hel⟩ := zdE Try.underlying65 h3
  obtain ⟨ks, hks⟩ := zdx (cs := Con.cs) (fun c hc => zxD n2 c (hel c hc))
  simp at hs hm hes
  exact ⟨⟨s, m, ks⟩, by simp [Dat.cs, hs, hm, hes, hks]⟩
theorem zxB (n : Nat) (l : List AV) (h : zbs Try.prog n 46 l) : ∃ d : Cod, l = d.cs := by
 obtain ⟨n', hn, hl, hf⟩ := zfQ Try.underlying46 h
 rw [zxt] at hl
 match l, hl with
 | [a, b, c, d, e, f, g], _ =>
  simp [ce9, ce3, zqH, zlC] at hf
  obtain ⟨h1, h2, h3, h4, h5⟩ := hf
  obtain ⟨s, hs, _⟩ := zne Try.underlying9 h1
  obtain ⟨p, hp⟩ := zgn _ _ h2
  obtain ⟨q, hq⟩ := zgn _ _ h3
  obtain ⟨t, ht⟩ := zit _ _ h4
  obtain ⟨m, hm, _⟩ := zeu Try.underlying3 h5
  simp at hs hm
  exact ⟨⟨s, p, q, t, m⟩, by simp [Cod.cs, hs, hp, hq, hm, ← ht]⟩
theorem zxx (n : Nat) (l : List AV) (h : zbs Try.prog n 43 l) : ∃ d : CEx, l = d.cs := by
 obtain ⟨n', hn, hl, hf⟩ := zfQ Try.underlying43 h
 rw [zxs] at hl
 match l, hl with
 | [a, b, c, d, e, f, g, i], _ =>
  simp [ce2, ce3, zqH, zxr, zlC] at hf
  obtain ⟨h1, h2, h3, h4, h5, h6⟩ := hf
  obtain ⟨o, ho, _⟩ := zeu Try.underlying3 h1
  obtain ⟨m, hm, _⟩ := zeu Try.underlying2 h2
  obtain ⟨p, hp⟩ := zgn _ _ h3
  obtain ⟨q, hq⟩ := zy5 _ _ h4
  obtain ⟨r, hr⟩ := zgn _ _ h5
  obtain ⟨t, ht⟩ := zit _ _ h6
  simp at ho hm
  exact ⟨⟨o, m, p, q, r, t⟩, by simp [CEx.cs, ho, hm, hp, hq, hr, ← ht]⟩
theorem zxF (n : Nat) (l : List AV) (h : zbs Try.prog n 27 l) : ∃ c : Cor, l = c.cs ∧ c.data.length ≤ 9223372036854775807 ∧ c.vars.length ≤ 9223372036854775807 := by
 obtain ⟨n', hn, hl, hf⟩ := zfQ Try.underlying27 h
 rw [zxq] at hl
 match l, hl with
 | [a, b, c, d], _ =>
  simp [zxn, zxo, zlB, zxp] at hf
  obtain ⟨h1, h2, h3, h4⟩ := hf
  obtain ⟨es1, n1, _, hes1, hm1, hel1⟩ := zdE Try.underlying22 h1
  obtain ⟨es2, n2, _, hes2, _, hel2⟩ := zdE Try.underlying23 h2
  obtain ⟨es3, n3, _, hes3, hm3, hel3⟩ := zdE Try.underlying24 h3
  obtain ⟨es4, n4, _, hes4, _, hel4⟩ := zdE Try.underlying25 h4
  obtain ⟨k1, hk1⟩ := zdx (cs := Dat.cs) (fun c hc => zxG n1 c (hel1 c hc))
  obtain ⟨k2, hk2⟩ := zdx (cs := Cod.cs) (fun c hc => zxB n2 c (hel2 c hc))
  obtain ⟨k3, hk3⟩ := zdx (cs := VT.cs) (fun c hc => zit n3 c (hel3 c hc))
  obtain ⟨k4, hk4⟩ := zdx (cs := CEx.cs) (fun c hc => zxx n4 c (hel4 c hc))
  simp at hes1 hes2 hes3 hes4
  refine ⟨⟨k1, k2, k3, k4⟩, by simp [Cor.cs, VT.css_map, hes1, hes2, hes3, hes4, hk1, hk2, hk3, hk4], ?_, ?_⟩
  ·rw [hk1] at hm1; simpa [maxLen] using hm1
  ·rw [hk3] at hm3; simpa [maxLen] using hm3
end Go.Proofs.Ytkdmpbhbmmhijaa
