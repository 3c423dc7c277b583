import Derived.Test.YtddlhljflggenaaGreatDoorAbsT
set_option linter.unusedSimpArgs false
set_option linter.unusedVariables false
namespace Go.Proofs.YtddlhljflggenaaGreatDoor
open Go Go.Abs
set_option maxRecDepth 8000
def gD (o : Option Nat) (a : Int) : Int := match o with
 | some k => if a + k ≤ 6 then a + k else -1
 | none => -1
mutual
theorem zmQ {data : List Dat} (h8 : ∀ D ∈ data, D.cons.length ≤ 8) : ∀ (v : IT) (t : VT), rdV data v t = gD (dV (zan data) v t) 0
 | .mk n ks, t => by
  rw [rdV, dV]
  by_cases h6 : t.kind = 6
  ·simp only [if_pos h6]
   by_cases hn : n = 0
   ·simp only [if_pos hn]
    by_cases hl : t.kids.length = ks.length
    ·rw [if_pos hl, zmP h8 ks t.kids 0 (by omega) (by omega) hl.symm]
    ·rw [if_neg hl]
     cases hd : dA (zan data) ks t.kids with
     | none => rfl
     | some k => exact absurd (zdM hd).symm hl
   ·simp only [if_neg hn, gD]
  ·simp only [if_neg h6]
   by_cases h7 : t.kind = 7
   ·simp only [if_pos h7]
    by_cases hc : 0 ≤ n ∧ ks = []
    ·rw [if_pos hc]
     obtain ⟨h0, rfl⟩ := hc
     simp only [gD, List.length_nil]
     by_cases hn6 : n ≤ 6
     ·rw [if_pos ⟨h0, hn6, trivial⟩, if_pos (show (0 : Int) + (n.toNat : Int) ≤ 6 by omega)]; omega
     ·rw [if_neg (fun h => hn6 h.2.1), if_neg (show ¬ (0 : Int) + (n.toNat : Int) ≤ 6 by omega)]
    ·rw [if_neg hc, if_neg (fun h => hc ⟨h.1, List.length_eq_zero_iff.1 h.2.2⟩)]; rfl
   ·simp only [if_neg h7]
    by_cases h5 : t.kind = 5
    ·simp only [if_pos h5]
     by_cases hn : n = 0
     ·simp only [if_pos hn]
      by_cases hl : ks.length ≤ 6
      ·rw [if_pos ⟨hn, hl⟩, ztk h8 ks t 0 (by omega) (by omega)]
      ·rw [if_neg (fun h => hl h.2)]
       cases hd : dE (zan data) ks t with
       | none => rfl
       | some k =>
        have := zfW hd
        simp only [gD]
        rw [if_neg (by omega)]
     ·rw [if_neg (fun h => hn h.1), if_neg hn]; rfl
    ·simp only [if_neg h5]
     by_cases hc : n = 0 ∧ ks = []
     ·rw [if_pos hc, if_pos ⟨hc.1, by simp [hc.2]⟩]; rfl
     ·rw [if_neg hc, if_neg (fun h => hc ⟨h.1, List.length_eq_zero_iff.1 h.2⟩)]; rfl
theorem zmP {data : List Dat} (h8 : ∀ D ∈ data, D.cons.length ≤ 8) : ∀ (vs : List IT) (ts : List VT) (a : Int), 0 ≤ a → a ≤ 6 → vs.length = ts.length → rdA data vs ts a = gD (dA (zan data) vs ts) a
 | [], ts, a, h0, h6, hl => by
  obtain rfl : ts = [] := List.length_eq_zero_iff.1 hl.symm
  simp [rdA, dA, gD, h6]
 | v :: vs, [], a, _, _, hl => by simp at hl
 | v :: vs, t :: ts, a, h0, h6, hl => by
  have hv := zmQ h8 v t
  simp only [rdA, dA]
  cases hd : dV (zan data) v t with
  | none =>
   rw [hd] at hv
   have hv : rdV data v t = -1 := hv
   rw [if_pos (.inl (by omega))]; rfl
  | some k1 =>
   rw [hd] at hv
   simp only [gD, Int.zero_add] at hv
   by_cases hk : (k1 : Int) ≤ 6
   ·rw [if_pos hk] at hv
    rw [hv]
    by_cases hak : a + (k1 : Int) > 6
    ·rw [if_pos (.inr hak)]
     cases hd2 : dA (zan data) vs ts with
     | none => rfl
     | some k2 =>
      simp only [gD]
      rw [if_neg (by omega)]
    ·rw [if_neg (by omega), zmP h8 vs ts _ (by omega) (by omega) (by simpa using hl)]
     cases hd2 : dA (zan data) vs ts with
     | none => rfl
     | some k2 =>
      simp only [gD]
      rw [show a + (k1 : Int) + (k2 : Int) = a + ((k1 + k2 : Nat) : Int) by omega]
   ·rw [if_neg hk] at hv
    rw [if_pos (.inl (by omega))]
    cases hd2 : dA (zan data) vs ts with
    | none => rfl
    | some k2 =>
     simp only [gD]
     rw [if_neg (by omega)]
theorem ztk {data : List Dat} (h8 : ∀ D ∈ data, D.cons.length ≤ 8) : ∀ (es : List IT) (t : VT) (a : Int), 0 ≤ a → a ≤ 6 → rdE data es t a = gD (dE (zan data) es t) a
 | [], t, a, h0, h6 => by simp [rdE, dE, gD, h6]
 | .mk c ks :: es, t, a, h0, h6 => by
  simp only [rdE, dE]
  by_cases hc : c < 0 ∨ 8 ≤ c
  ·rw [if_pos hc]
   cases hp : zan data t c with
   | none => rfl
   | some ps => have := zs2 h8 hp; omega
  ·rw [if_neg hc]
   cases hp : zan data t c with
   | none => rfl
   | some ps =>
    simp only
    by_cases hl : ps.length = ks.length
    ·have ha := zmP h8 ks ps 0 (by omega) (by omega) hl.symm
     rw [if_pos hl]
     cases hd : dA (zan data) ks ps with
     | none =>
      rw [hd] at ha
      have ha : rdA data ks ps 0 = -1 := ha
      rw [if_pos (.inl (by omega))]; rfl
     | some k1 =>
      rw [hd] at ha
      simp only [gD, Int.zero_add] at ha
      by_cases hk : (k1 : Int) ≤ 6
      ·rw [if_pos hk] at ha
       rw [ha]
       by_cases hak : a + 1 + (k1 : Int) > 6
       ·rw [if_pos (.inr hak)]
        cases hd2 : dE (zan data) es t with
        | none => rfl
        | some k2 =>
         simp only [gD]
         rw [if_neg (by omega)]
       ·rw [if_neg (by omega), ztk h8 es t _ (by omega) (by omega)]
        cases hd2 : dE (zan data) es t with
        | none => rfl
        | some k2 =>
         simp only [gD]
         rw [show a + (1 + (k1 : Int)) + (k2 : Int) = a + ((1 + k1 + k2 : Nat) : Int) by omega]
      ·rw [if_neg hk] at ha
       rw [if_pos (.inl (by omega))]
       cases hd2 : dE (zan data) es t with
       | none => rfl
       | some k2 =>
        simp only [gD]
        rw [if_neg (by omega)]
    ·rw [if_neg hl]
     cases hd : dA (zan data) ks ps with
     | none => rfl
     | some k => exact absurd (zdM hd).symm hl
end
theorem zzo {data : List Dat} {t : VT} (hf : zbm data t = true) {v : IT} {k : Nat} (hk : k ≤ 6) (h : dV (zan data) v t = some k) : zb2 data t v = k := by
 rw [zb2, if_pos hf, zmQ (zlI hf), h]
 simp only [gD]
 rw [if_pos (by omega)]; omega
theorem zzn {data : List Dat} {t : VT} (hf : zbm data t = true) (v : IT) (d : Nat) (hd : d ≤ 6) : (0 ≤ zb2 data t v ∧ zb2 data t v ≤ d) ↔ ∃ k, k ≤ d ∧ dV (zan data) v t = some k := by
 rw [zb2, if_pos hf, zmQ (zlI hf)]
 cases h : dV (zan data) v t with
 | none => simp [gD]
 | some k =>
  simp only [gD]
  constructor
  ·intro h2
   refine ⟨k, ?_, rfl⟩
   split at h2
   ·omega
   ·omega
  ·rintro ⟨k', h1, h2⟩
   injection h2 with h2
   subst h2
   rw [if_pos (by omega)]
   omega
theorem IT.same_iff' (v w : IT) : (IT.same v w = true) ↔ v = w := Go.Abs.same_iff
def zb0 (i : IT) (l : List IT) : Nat := (l.filter fun j => IT.same i j).length
theorem zhz {i : IT} : ∀ {l : List IT}, i ∉ l → zb0 i l = 0
 | [], _ => rfl
 | x :: l, h => by
  have h1 : ¬ IT.same i x = true := fun e => h (by rw [(IT.same_iff' i x).1 e]; simp)
  have := zhz (i := i) (l := l) fun hm => h (by simp [hm])
  simp only [zb0, List.filter_cons, h1] at this ⊢
  simpa using this
theorem zrI {i : IT} : ∀ {l : List IT}, l.Nodup → i ∈ l → zb0 i l = 1
 | [], _, h => by simp at h
 | x :: l, hn, h => by
  have hn' := List.nodup_cons.1 hn
  by_cases hx : i = x
  ·subst hx
   have h0 := zhz hn'.1
   have hs : IT.same i i = true := (IT.same_iff' i i).2 rfl
   simp only [zb0, List.filter_cons, hs, if_true, List.length_cons] at h0 ⊢
   omega
  ·have hm : i ∈ l := by
    rcases List.mem_cons.1 h with e | h
    ·exact absurd e hx
    ·exact h
   have := zrI hn'.2 hm
   have h1 : ¬ IT.same i x = true := fun e => hx ((IT.same_iff' i x).1 e)
   simp only [zb0, List.filter_cons, h1] at this ⊢
   simpa using this
theorem zyg (data : List Dat) (hlen : data.length ≤ 9223372036854775807) (t : VT) (i : IT) (d : Int) (H : zaa) (K : Kt) (hK : K (.bool true) H) :
  ACalls tP zmg [.sl (data.map Dat.cs) .none, .agg t.cs, .agg i.cs, .int .i64 d] H K := by
 refine ACalls.out (zGH fun hs => ?_)
 have hO : ∀ J, Out H.length K (.bool true) (H ++ J) := fun J => Out.bool rfl (Nat.le_refl _) hs hK
 obtain ⟨x, y, z, hvx, hx, hy, hz⟩ := zaX t
 obtain ⟨u, v, hvu, hu, hv⟩ := zbE i
 simp [zq2, hvx, hx, hy, hz, hvu, hu, hv]
 rw [← hvx, ← hvu]
 refine zmZ data hlen t _ _ fun b hb => ?_
 cases b with
 | false => simp [zai]; exact hO _
 | true =>
  obtain ⟨hk, ht⟩ := hb rfl
  simp [zai, hvx, hx, hy, hz, hvu, hu, hv, Nat.add_assoc]
  rw [← hvu]
  refine zLZ i _ _ fun b2 hb2 => ?_
  cases b2 with
  | false => simp [zai]; exact hO _
  | true =>
   have hi := hb2 rfl
   simp [zai, hvx, hx, hy, hz, Nat.add_assoc]
   rw [← hvx]
   refine zkz data hk t (by omega) d _ _ ?_
   have hsh := zk8 data t d
   generalize zb9 data t d = R at *
   cases hsh with
   | err e he =>
    have heb : (e != 0) = true := by simpa using he
    simp [heb]
    refine zdI _ _ ?_
    exact hO _
   | ok ls hf h0 h6 hup =>
    obtain ⟨hlst, hl5⟩ := zhN h6 hup
    have hnd := zss hk (by omega) h6 hup
    have hmem := zhM hlst
    have hasc := zsp hlst
    have hnodup := zl1 hlst
    have hll : (zaB ls).length ≤ 500 := by rw [zf6]; exact hl5
    generalize zaB ls = l at *
    simp [css_len]
    have hdg : ∀ x ∈ l, ∃ k : Nat, k ≤ d.toNat ∧ dV (zan data) x t = some k ∧ zb2 data t x = k := fun x hx => by
     obtain ⟨k, h1, h2⟩ := (hmem x).1 hx
     exact ⟨k, h1, h2, zzo hf (by omega) h2⟩
    refine zGF (Inv := fun q t11 t39 H' => ∃ k : Nat, k ≤ l.length ∧ q = l.length - k ∧ t39 = .int .i64 k ∧ t11 = .int .i64 (zb0 i (l.take k) : Nat) ∧ H' = H ++ [.cells t.cs, .cells i.cs]) l.length ?_ ?_
    ·intro _; exact ⟨0, by omega, by omega, rfl, by simp [zb0], rfl⟩
    ·rintro q t11 t39 H' ⟨k, hkl, rfl, rfl, rfl, rfl⟩ hsc hlen2 hsF Kb hKb
     have hcb : zb0 i (l.take k) ≤ 500 := by
      refine Nat.le_trans (List.length_filter_le _ _) ?_
      simp; omega
     by_cases hlt : k < l.length
     ·have hmk := List.getElem_mem hlt
      obtain ⟨n1, hn1, hn2, hn3⟩ := hdg _ hmk
      obtain ⟨p, q, hpq, hp, hq⟩ := zbE l[k]
      have hcs : zb0 i (l.take (k + 1)) = zb0 i (l.take k) + (if IT.same i l[k] = true then 1 else 0) := by
       rw [List.take_succ_eq_append_getElem hlt, zb0, List.filter_append, List.length_append]
       congr 1
       by_cases hsm : IT.same i l[k] = true <;> simp [List.filter_cons, hsm]
      have hback : ∀ J, Kb (zgW (.sl (data.map Dat.cs) .none) (.int .i64 d) (.ptr H.length 0) (.ptr (H.length + 1) 0) (.sl (IT.css l) .none) (.int .i64 (zb0 i (l.take (k + 1)) : Nat)) (.sl (IT.css l) .none) (.int .i64 l.length) (.int .i64 ((k : Int) + 1))) (H ++ (AB.cells t.cs :: AB.cells i.cs :: J)) := fun J => by
       refine hKb _ _ ⟨l.length - (k + 1), by omega, Back.at (J := J) (H2 := H ++ [.cells t.cs, .cells i.cs]) (by simp) (by simp) hsc ?_ ⟨_, _, rfl, k + 1, by omega, rfl, by simp, rfl, rfl⟩⟩
       simp [zgW, AV.sc, AV.scV, AV.scA, AV.scB]
      have hj1 : zjK (.sl (data.map Dat.cs) .none) (.int .i64 d) (.ptr H.length 0) (.ptr (H.length + 1) 0) (.sl (IT.css l) .none) (.int .i64 (zb0 i (l.take k) : Nat)) (.ptr (H.length + 2) 0) (.sl (IT.css l) .none) (.int .i64 l.length) (.int .i64 k) (H ++ [.cells t.cs, .cells i.cs, .cells (l[k]).cs]) (Out H.length K) Kb := by
       simp [zjK, hvu, hu, hv, hpq, hp, hq]
       rw [← hvu, ← hpq]
       refine zmV _ _ _ (Nat.le_refl _) (by omega) _ _ ?_
       cases hsm : IT.same i l[k] with
       | true =>
        rw [hsm] at hcs
        simp [zjL, zoD]
        rw [zam (by omega) (by omega), zam (by omega) (by omega)]
        have := hback [AB.cells (l[k]).cs]
        rw [hcs] at this
        simpa using this
       | false =>
        rw [hsm] at hcs
        simp [zjL, zoD]
        rw [zam (by omega) (by omega)]
        have := hback [AB.cells (l[k]).cs]
        rw [hcs] at this
        simpa using this
      simp only [zoB]
      simp [hlt, hpq, hp, hq, hvx, hx, hy, hz, Nat.add_assoc]
      rw [← hvx, ← hpq]
      refine zgK data hk t (by omega) l[k] (hnd _ hmk) _ _ ?_
      rw [hn3]
      have hnn : ¬ ((n1 : Int) < 0) := by omega
      have hnd2 : ¬ ((n1 : Int) > d) := by omega
      simp [hnn, hnd2, zai]
      by_cases hk0 : k = 0
      ·subst hk0
       simp
       simpa using hj1
      ·obtain ⟨k0, hk0'⟩ : ∃ k0, k = k0 + 1 := ⟨k - 1, by omega⟩
       have hkp : 0 < k := by omega
       have hk0l : k0 < l.length := by omega
       have hw : IntKind.i64.wrap ((k : Int) - 1) = (k0 : Int) := by rw [zam (by omega) (by omega)]; omega
       have hgt : (IT.css l)[k0]?.getD [] = (l[k0]).cs := by simp [IT.css_map, hk0l]
       have hkl2 : (k0 : Int) < l.length := by omega
       have hmk0 := List.getElem_mem hk0l
       obtain ⟨n0, hn01, hn02, hn03⟩ := hdg _ hmk0
       have hord := List.pairwise_iff_getElem.1 hasc k0 k hk0l hlt (by omega)
       obtain ⟨a, b, ha, hb3, hab⟩ := hord
       rw [hn02] at ha
       rw [hn2] at hb3
       injection ha with ha
       injection hb3 with hb3
       subst ha hb3
       have htk : List.take 2 (l[k0]).cs = (l[k0]).cs := List.take_of_length_le (by simp)
       simp [hkp, hw, hgt, hkl2, htk]
       refine ⟨.int .i64 n0, fun J => zgK data hk t (by omega) l[k0] (hnd _ hmk0) _ _ ⟨by rw [hn03], rfl⟩, ?_⟩
       have hg0 : ¬ ((n0 : Int) > n1) := by omega
       simp [hg0]
       by_cases he : n0 = n1
       ·have hbe : ((n0 : Int) == (n1 : Int)) = true := by simp [he]
        have hce : IT.cmp l[k0] l[k] < 0 := by
         rcases hab with h | h
         ·omega
         ·exact h.2
        have hcg : ¬ (IT.cmp l[k0] l[k] ≥ 0) := by omega
        have htk2 : List.take 2 (l[k]).cs = (l[k]).cs := List.take_of_length_le (by simp)
        simp [he, hw, hgt, hkl2, htk, htk2]
        refine ⟨.int .i64 (IT.cmp l[k0] l[k]), fun J => zsg _ _ _ (Nat.le_refl _) (by have := hnd _ hmk0; omega) _ _ ⟨rfl, rfl⟩, ?_⟩
        simp [hcg]
        simpa using hj1
       ·have hbe : ((n0 : Int) == (n1 : Int)) = false := by simp; omega
        have hni : ¬ ((n0 : Int) = (n1 : Int)) := by omega
        simp only [hbe, hni, if_false]
        simp
        simpa using hj1
     ·obtain rfl : k = l.length := by omega
      rw [List.take_length] at *
      simp only [zoB]
      simp [hvx, hx, hy, hz, hvu, hu, hv]
      rw [← hvx, ← hvu]
      refine zgK data hk t (by omega) i (by omega) _ _ ?_
      have hdi := zzn hf i d.toNat (by omega)
      have hfin : ∀ c : Nat, zb0 i l = c → ∀ J, zjM (.int .i64 (zb0 i l : Nat)) (.int .i64 c) (H ++ J) (Out H.length K) := fun c hc J => by
       simp [zjM, hc]
       refine zdI _ _ ?_
       exact hO _
      by_cases hpos : 0 ≤ zb2 data t i
      ·by_cases hle : zb2 data t i ≤ d
       ·have hin := (hmem i).2 (hdi.1 ⟨hpos, by omega⟩)
        simp [hpos, hle, zai]
        exact hfin 1 (zrI hnodup hin) _
       ·have hin : i ∉ l := fun h => by
         have := hdi.2 ((hmem i).1 h); omega
        simp [hpos, hle, zai]
        exact hfin 0 (zhz hin) _
      ·have hin : i ∉ l := fun h => by
        have := hdi.2 ((hmem i).1 h); omega
       simp [hpos, zai]
       exact hfin 0 (zhz hin) _
end Go.Proofs.YtddlhljflggenaaGreatDoor
