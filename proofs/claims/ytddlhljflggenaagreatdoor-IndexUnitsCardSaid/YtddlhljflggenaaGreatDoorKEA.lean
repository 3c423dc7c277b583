import Derived.Test.YtddlhljflggenaaGreatDoorKE8
set_option linter.unusedSimpArgs false
set_option linter.unusedVariables false
namespace Go.Proofs.YtddlhljflggenaaGreatDoor
open Go Go.Abs
set_option maxRecDepth 8000
mutual
theorem zuu : ∀ t : VT, zdA t = zV t
 | .mk k n ks => by
  rw [zdA, zV]
  split
  ·rw [zuv ks]
  ·rfl
theorem zuv : ∀ ts : List VT, zbU ts = zL ts
 | [] => rfl
 | t :: ts => by rw [zbU, zL, zuu t, zuv ts]
end
mutual
def zbS : VT → Bool
 | .mk k _ ks => if k = 7 ∨ k = 5 then true else if k = 6 then ze5 ks else false
def ze5 : List VT → Bool
 | [] => false
 | t :: ts => zbS t || ze5 ts
end
theorem ztd : ∀ ts : List VT, ze5 ts = ts.any zbS
 | [] => rfl
 | t :: ts => by simp [ze5, ztd ts]
theorem zy0 (t : VT) (H : zaa) (K : Kt) : aCallV tP (.fn zc5 []) [.agg t.cs] H K = ACalls tP zc5 [.agg t.cs] H K := by
 have : zdm tP zc5 = true := by kernel_rfl
 simp [aCallV, this]
theorem zrg {α : Type} {p : α → Bool} {l : List α} {i : Nat} (h : i < l.length) : (l.drop i).any p = (p l[i] || (l.drop (i + 1)).any p) := by
 rw [List.drop_eq_getElem_cons h, List.any_cons]
theorem zzf (ks : List VT) (hl : ks.length ≤ 1000000) (hel : ∀ x ∈ ks, ∀ (H : zaa) (K : Kt), K (.bool (zbS x)) H → ACalls tP zc5 [.agg x.cs] H K) (H : zaa) (K : Kt) (hK : K (.bool (ks.any zbS)) H) :
  ACalls tP zdq [.sl (VT.css ks) .none, .fn zc5 []] H K := by
 refine ACalls.out (zwM fun hs => ?_)
 simp only [zpD]
 have key : ∀ K' : Kt, (∀ r : Int, (0 ≤ r ↔ ks.any zbS = true) → K' (.int .i64 r) H) → ACalls tP zih [.sl (VT.css ks) .none, .fn zc5 []] H K' := by
  intro K' hK'
  refine ACalls.out (zx4 fun hs => ?_)
  simp [zqx, VT.css_len]
  refine zx3 (Inv := fun q t8 H' => ∃ i : Nat, i ≤ ks.length ∧ q = ks.length - i ∧ t8 = .int .i64 i ∧ H' = H ∧ (ks.drop i).any zbS = ks.any zbS) ks.length ?_ ?_
  ·intro _; exact ⟨0, by omega, by omega, rfl, rfl, by simp⟩
  ·rintro q t8 H' ⟨i, hi, rfl, rfl, rfl, ho⟩ hsc hlen hsF Kb hKb
   by_cases hlt : i < ks.length
   ·rw [zrg hlt] at ho
    obtain ⟨x, y, z, hvx, hx, hy, hz⟩ := zaX ks[i]
    simp only [zhj]
    simp [hlt, hvx, hx, hy, hz]
    rw [← hvx, zy0]
    refine hel _ (List.getElem_mem hlt) _ _ ?_
    cases hp : zbS ks[i] with
    | true =>
     rw [hp] at ho
     simp
     exact Out.int (J := []) (by simp) (Nat.le_refl _) hs (hK' _ ⟨fun _ => by rw [← ho]; rfl, fun _ => by omega⟩)
    | false =>
     rw [hp, Bool.false_or] at ho
     simp
     rw [zam (by omega) (by omega)]
     refine hKb _ _ ⟨ks.length - (i + 1), by omega, Back.here (Nat.le_refl _) hs ?_ ⟨_, rfl, i + 1, by omega, rfl, by simp, rfl, ho⟩⟩
     simp [zhk, AV.sc, AV.scV, AV.scA, AV.scB]
   ·obtain rfl : i = ks.length := by omega
    rw [List.drop_length] at ho
    simp only [zhj]
    simp
    exact Out.int (J := []) (by simp) (Nat.le_refl _) hs (hK' _ ⟨fun h => by omega, fun h => by rw [← ho] at h; simp at h⟩)
 refine key _ fun r hr => ?_
 simp
 have hb : decide (r ≥ 0) = ks.any zbS := by
  cases ha : ks.any zbS with
  | true => rw [ha] at hr; simp; exact hr.2 rfl
  | false => rw [ha] at hr; simp at hr ⊢; omega
 rw [hb]
 exact Out.bool (J := []) (by simp) (Nat.le_refl _) hs hK
theorem zG2 : ∀ (m : Nat) (t : VT), t.nodes ≤ m → t.nodes ≤ 1000000 → ∀ (H : zaa) (K : Kt), K (.bool (zbS t)) H → ACalls tP zc5 [.agg t.cs] H K := by
 intro m
 induction m with
 | zero => intro t h; have := t.nodes_pos; omega
 | succ m ih =>
  intro t hm hb H K hK
  obtain ⟨k, n, ks⟩ := t
  have hnn : (VT.mk k n ks).nodes = VT.nodesL ks + 1 := by simp [VT.nodes]
  have hll := VT.len_le ks
  refine ACalls.out (zG1 fun hs => ?_)
  simp [zvT, VT.cs]
  rw [zbS] at hK
  by_cases h7 : k = 7
  ·subst h7
   simp [zfu] at hK ⊢
   exact Out.bool rfl (Nat.le_refl _) hs hK
  ·have hb7 : (k == 7) = false := by simpa using h7
   simp only [hb7, zcq]
   by_cases h5 : k = 5
   ·subst h5
    simp [zfu] at hK ⊢
    exact Out.bool rfl (Nat.le_refl _) hs hK
   ·have hb5 : (k == 5) = false := by simpa using h5
    rw [if_neg (by omega)] at hK
    by_cases h6 : k = 6
    ·subst h6
     rw [if_pos rfl, ztd] at hK
     simp [zfu]
     refine zzf ks (by omega) (fun x hx => ?_) _ _ ?_
     ·obtain ⟨i, hi, rfl⟩ := List.mem_iff_getElem.1 hx
      have := VT.kid_lt (k := 6) (n := n) hi
      exact ih _ (by omega) (by omega)
     ·exact Out.bool rfl (Nat.le_refl _) hs hK
    ·have hb6 : (k == 6) = false := by simpa using h6
     rw [if_neg h6] at hK
     simp [zfu, hb5, hb6]
     exact Out.bool rfl (Nat.le_refl _) hs hK
theorem zu5 (data : List Dat) (hk : zaP data) (t : VT) (ht : t.nodes ≤ 1000) (H : zaa) (K : Kt) (hK : K (.bool (zbm data t && zbS t)) H) : ACalls tP zhW [.sl (data.map Dat.cs) .none, .agg t.cs] H K := by
 refine ACalls.out (zE5 fun hs => ?_)
 obtain ⟨x, y, z, hvx, hx, hy, hz⟩ := zaX t
 simp [zuV, hvx, hx, hy, hz]
 rw [← hvx]
 refine zjr data hk t (by omega) _ _ ?_
 cases hf : zbm data t with
 | false =>
  rw [hf] at hK
  simp [zai]
  exact Out.bool rfl (Nat.le_refl _) hs hK
 | true =>
  rw [hf] at hK
  simp [zai, hvx, hx, hy, hz]
  rw [← hvx]
  refine zG2 _ t (Nat.le_refl _) (by omega) _ _ ?_
  exact Out.bool rfl (Nat.le_refl _) hs hK
theorem zuU (data : List Dat) (hk : zaP data) (t : VT) (ht : t.nodes ≤ 1000) (H : zaa) (K : Kt) (hK : K (if zbm data t then .tup [.agg (zV t).cs, .bool true] else .tup [.agg (IT.mk 0 []).cs, .bool false]) H) : ACalls tP zl6 [.sl (data.map Dat.cs) .none, .agg t.cs] H K := by
 refine ACalls.out (zEy fun hs => ?_)
 obtain ⟨x, y, z, hvx, hx, hy, hz⟩ := zaX t
 simp [zuQ, hvx, hx, hy, hz, Nat.add_assoc]
 rw [← hvx]
 refine zjr data hk t (by omega) _ _ ?_
 cases hf : zbm data t with
 | false =>
  rw [hf] at hK
  simp [zau, zaH, AV.known, Nat.add_assoc]
  exact ⟨⟨rfl, rfl⟩, Out.tup hs hK ⟨⟨.agg ⟨.refl _, .snil, trivial⟩, rfl, rfl⟩, zaC rfl rfl, trivial⟩⟩
 | true =>
  rw [hf, if_pos rfl] at hK
  obtain ⟨u, v, hvu, hu, hv⟩ := zbE (zV t)
  simp [hvx, hx, hy, hz, Nat.add_assoc]
  rw [← hvx]
  refine zGY _ t (Nat.le_refl _) (by omega) _ _ ?_
  rw [zuu]
  simp [hvu, hu, hv, Nat.add_assoc]
  rw [← hvu]
  exact ⟨⟨rfl, rfl⟩, Out.tup hs hK ⟨zaC rfl (zco _ _), zaC rfl rfl, trivial⟩⟩
theorem zrY (P : VT → Int → Option (List VT)) (nc : VT → Nat) : ∀ ts : List VT, zc3 P nc ts = ts.any (zbs P nc)
 | [] => rfl
 | t :: ts => by simp [zc3, zrY P nc ts]
theorem zFf (data : List Dat) (hk : zaP data) (hD : zbd data = true) : ∀ (m : Nat) (t : VT), t.nodes ≤ m → zaT data 0 t = true → ∀ (H : zaa) (K : Kt), K (.bool (zbs (zan data) (ncF data) t)) H → ACalls tP zhZ [.sl (data.map Dat.cs) .none, .agg t.cs] H K := by
 intro m
 induction m with
 | zero => intro t h; have := t.nodes_pos; omega
 | succ m ih =>
  intro t hm hv H K hK
  have hG := zlO hD
  have ht := hG.nodes _ hv
  have hnum := hG.num t hv
  have hkids := fun k n ks (e : t = .mk k n ks) => hG.kids k n ks (by rw [← e]; exact hv)
  refine ACalls.out (zFe fun hs => ?_)
  have hO : ∀ J b, b = zbs (zan data) (ncF data) t → Out H.length K (.bool b) (H ++ J) := fun J b hb => by
   subst hb; exact Out.bool rfl (Nat.le_refl _) hs hK
  obtain ⟨k, n, ks⟩ := t
  have hnn : (VT.mk k n ks).nodes = VT.nodesL ks + 1 := by simp [VT.nodes]
  have hll := VT.len_le ks
  simp [zu6, VT.cs]
  by_cases h7 : k = 7
  ·subst h7
   simp
   exact hO _ _ (by rw [zbs, if_pos rfl])
  ·have hb7 : (k == 7) = false := by simpa using h7
   simp only [hb7, zcq]
   by_cases h6 : k = 6
   ·subst h6
    have hfv : zbs (zan data) (ncF data) (.mk 6 n ks) = ks.any (zbs (zan data) (ncF data)) := by rw [zbs, if_neg (by omega), if_pos rfl, zrY]
    rw [hfv] at hO
    simp [VT.css_len]
    refine zFb (Inv := fun q t19 H' => ∃ i : Nat, i ≤ ks.length ∧ q = ks.length - i ∧ t19 = .int .i64 i ∧ (∃ J, H' = H ++ J) ∧ (ks.drop i).any (zbs (zan data) (ncF data)) = ks.any (zbs (zan data) (ncF data))) ks.length ?_ ?_
    ·intro _; exact ⟨0, by omega, by omega, rfl, ⟨_, rfl⟩, by simp⟩
    ·rintro q t19 H' ⟨i, hi, rfl, rfl, ⟨J, rfl⟩, ho⟩ hsc hlen hsF Kb hKb
     by_cases hlt : i < ks.length
     ·rw [zrg hlt] at ho
      obtain ⟨x, y, z, hvx, hx, hy, hz⟩ := zaX ks[i]
      have hkl := VT.kid_lt (k := 6) (n := n) hlt
      simp only [zn2]
      simp [hlt, hvx, hx, hy, hz]
      rw [← hvx]
      refine ih ks[i] (by omega) (hkids 6 n ks rfl _ (List.getElem_mem hlt)) _ _ ?_
      cases hp : zbs (zan data) (ncF data) ks[i] with
      | true =>
       rw [hp] at ho
       simp
       exact hO _ _ (by rw [← ho]; rfl)
      | false =>
       rw [hp, Bool.false_or] at ho
       simp
       rw [zam (by omega) (by omega)]
       refine hKb _ _ ⟨ks.length - (i + 1), by omega, Back.at (J := [.cells (ks[i]).cs]) (H2 := H ++ J) (by simp) (by simpa using hlen) hsc ?_ ⟨_, rfl, i + 1, by omega, rfl, by simp, ⟨_, rfl⟩, ho⟩⟩
       simp [zjn, AV.sc, AV.scV, AV.scA, AV.scB]
     ·obtain rfl : i = ks.length := by omega
      rw [List.drop_length] at ho
      simp only [zn2]
      simp [zfp, zjo]
      exact hO _ _ (by rw [← ho]; rfl)
   ·have hb6 : (k == 6) = false := by simpa using h6
    simp only [hb6, zcq]
    by_cases h5 : k = 5
    ·subst h5
     obtain ⟨hn0, hn1⟩ := hnum rfl
     have hn1' : n.toNat < data.length := hn1
     have hn0' : 0 ≤ n := hn0
     have hnl : n < (data.length : Int) := by omega
     have hnc : ncF data (.mk 5 n ks) = data[n.toNat].cons.length := by simp [ncF, VT.num, hn1']
     have hncb : data[n.toNat].cons.length ≤ 20 := by
      have := (hk.2 _ (List.getElem_mem hn1')).2.1; omega
     have hfv : zbs (zan data) (ncF data) (.mk 5 n ks) = (List.range data[n.toNat].cons.length).any fun c => (zan data (.mk 5 n ks) c).isSome := by rw [zbs, if_neg (by omega), if_neg (by omega), if_pos rfl, hnc]
     rw [hfv] at hO
     simp [hn0', hnl, hn1', Dat.cs]
     refine zFa (Inv := fun q t36 H' => ∃ c : Nat, c ≤ data[n.toNat].cons.length ∧ q = data[n.toNat].cons.length - c ∧ t36 = .int .i64 c ∧ H' = H ++ [.cells (VT.mk 5 n ks).cs] ∧ ∀ c', c' < c → (zan data (.mk 5 n ks) (c' : Nat)).isSome = false) data[n.toNat].cons.length ?_ ?_
     ·intro _; exact ⟨0, by omega, by omega, rfl, rfl, fun c' h => by omega⟩
     ·rintro q t36 H' ⟨c, hc, rfl, rfl, rfl, ho⟩ hsc hlen hsF Kb hKb
      by_cases hlt : c < data[n.toNat].cons.length
      ·simp only [zn1]
       simp [hlt, VT.cs]
       refine zvV data hk (.mk 5 n ks) ht c _ _ ?_
       cases hp : zan data (.mk 5 n ks) c with
       | some ps =>
        simp [zbL]
        refine hO _ _ ?_
        symm
        rw [List.any_eq_true]
        exact ⟨c, List.mem_range.2 hlt, by rw [hp]; rfl⟩
       | none =>
        simp [zbL]
        rw [zam (by omega) (by omega)]
        refine hKb _ _ ⟨data[n.toNat].cons.length - (c + 1), by omega, Back.at (J := []) (H2 := H ++ [.cells (VT.mk 5 n ks).cs]) (by simp [VT.cs]) (by simp) hsc ?_ ⟨_, rfl, c + 1, by omega, rfl, by simp, rfl, fun c' h => ?_⟩⟩
        ·simp [zjm, AV.sc, AV.scV, AV.scA, AV.scB]
        ·by_cases hcc : c' = c
         ·subst hcc; rw [hp]; rfl
         ·exact ho c' (by omega)
      ·obtain rfl : c = data[n.toNat].cons.length := by omega
       simp only [zn1]
       simp [zfp, zjo]
       refine hO _ _ ?_
       symm
       rw [List.any_eq_false]
       intro c' hc'
       rw [ho c' (List.mem_range.1 hc')]
       simp
    ·have hb5 : (k == 5) = false := by simpa using h5
     simp [hb5, zfp, zjo]
     exact hO _ _ (by rw [zbs, if_neg h7, if_neg h6, if_neg h5])
mutual
theorem zr1 {P : VT → Int → Option (List VT)} {nc : VT → Nat} : ∀ t : VT, zbs P nc t = true → zbS t = true
 | .mk k n ks, h => by
  rw [zbS]
  rw [zbs] at h
  by_cases h7 : k = 7
  ·rw [if_pos (.inl h7)]
  by_cases h5 : k = 5
  ·rw [if_pos (.inr h5)]
  rw [if_neg (by omega)]
  rw [if_neg h7] at h
  by_cases h6 : k = 6
  ·rw [if_pos h6] at h ⊢
   exact zr2 ks h
  ·rw [if_neg h6, if_neg h5] at h; cases h
theorem zr2 {P : VT → Int → Option (List VT)} {nc : VT → Nat} : ∀ ts : List VT, zc3 P nc ts = true → ze5 ts = true
 | [], h => by simp [zc3] at h
 | t :: ts, h => by
  simp only [zc3, Bool.or_eq_true] at h
  simp only [ze5, Bool.or_eq_true]
  rcases h with h | h
  ·exact .inl (zr1 t h)
  ·exact .inr (zr2 ts h)
end
theorem zAc {data : List Dat} {t : VT} (hf : zbm data t = true) : zb9 data t 0 = .tup [.sl (IT.css [zV t]) .none, .int .i64 0] := by
 have hok := zdz (P := zan data) (nc := ncF data) (fun t c ps h => zc7 h) 0 t (by omega)
 unfold zb9
 rw [if_pos hf, if_neg (by omega)]
 show zf7 (upF (zan data) (ncF data) 0 t) = _
 cases hu : upF (zan data) (ncF data) 0 t with
 | none => rw [hu] at hok; exact absurd hok (zAq t)
 | some ls =>
  rw [hu] at hok
  rw [zf7, zz6 hok.1]
theorem zyi (data : List Dat) (hlen : data.length ≤ 9223372036854775807) (t : VT) (H : zaa) (K : Kt) (hK : K (.bool true) H) :
  ACalls tP zml [.sl (data.map Dat.cs) .none, .agg t.cs] H K := by
 refine ACalls.out (zHN fun hs => ?_)
 have hO : ∀ J, Out H.length K (.bool true) (H ++ J) := fun J => Out.bool rfl (Nat.le_refl _) hs hK
 obtain ⟨x, y, z, hvx, hx, hy, hz⟩ := zaX t
 simp [zq3, hvx, hx, hy, hz]
 rw [← hvx]
 refine zmZ data hlen t _ _ fun b hb => ?_
 cases b with
 | false => simp; exact hO _
 | true =>
  obtain ⟨hk, ht⟩ := hb rfl
  simp [hvx, hx, hy, hz]
  rw [← hvx]
  refine zkz data hk t (by omega) 0 _ _ ?_
  cases hf : zbm data t with
  | false =>
   have hr : zb9 data t 0 = .tup [.snil, .int .i64 1] := by unfold zb9; rw [hf]; rfl
   rw [hr]
   simp [hvx, hx, hy, hz]
   rw [← hvx]
   refine zuU data hk t (by omega) _ _ ?_
   rw [hf]
   simp [IT.cs, hvx, hx, hy, hz, Nat.add_assoc]
   rw [← hvx]
   refine zu5 data hk t (by omega) _ _ ?_
   rw [hf]
   simp [zai]
   refine zdI _ _ ?_
   exact hO _
  | true =>
   rw [zAc hf]
   simp [hvx, hx, hy, hz]
   rw [← hvx]
   refine zuU data hk t (by omega) _ _ ?_
   rw [hf, if_pos rfl]
   obtain ⟨u, v, hvu, hu, hv⟩ := zbE (zV t)
   have hzn := zfX (zip hk) (zV t) t 0 (zfg t)
   simp [hvu, hu, hv, Nat.add_assoc, IT.css]
   rw [← hvu]
   refine zbH (.bool true) (fun J => zmV _ _ _ (Nat.le_refl _) (by omega) _ _ ⟨by rw [(Go.Abs.same_iff).2 rfl], rfl⟩) ?_
   simp [zai, hvx, hx, hy, hz, Nat.add_assoc]
   rw [← hvx]
   refine zkz data hk t (by omega) 1 _ _ ?_
   have hsh := zk8 data t 1
   generalize zb9 data t 1 = R at *
   cases hsh with
   | err e he =>
    have heb : (e != 0) = true := by simpa using he
    simp [heb, zai]
    refine zdI _ _ ?_
    exact hO _
   | ok ls _ h0 h6 hup =>
    obtain ⟨hlst, hl5⟩ := zhN h6 hup
    have h1 := zz7 (P := zan data) (nc := ncF data) (fun t c ps h => zc7 h) hlst
    have hfp := zr1 (P := zan data) (nc := ncF data) t
    have hf2 := hf
    simp only [zbm, Bool.and_eq_true] at hf2
    rw [zf6] at h1
    simp [zai, css_len, hvx, hx, hy, hz, Nat.add_assoc]
    rw [← hvx]
    refine zu5 data hk t (by omega) _ _ ?_
    rw [hf]
    cases hpv : zbS t with
    | false =>
     have hfv : zbs (zan data) (ncF data) t ≠ true := fun h => by rw [hfp h] at hpv; cases hpv
     have hno : ¬ ((1 : Int) < (zaq ls : Int)) := by
      intro h
      exact hfv (h1.1 (by omega))
     simp [hno]
     refine zdI _ _ ?_
     exact hO _
    | true =>
     simp [hvx, hx, hy, hz]
     rw [← hvx]
     refine zFf data hk hf2.1 _ t (Nat.le_refl _) hf2.2 _ _ ?_
     have hbe : decide ((1 : Int) < (zaq ls : Int)) = zbs (zan data) (ncF data) t := by
      cases hfv : zbs (zan data) (ncF data) t with
      | true => simp; have := h1.2 hfv; omega
      | false =>
       rw [hfv] at h1
       simp at h1 ⊢
       omega
     simp only [hbe]
     simp
     refine zdI _ _ ?_
     exact hO _
end Go.Proofs.YtddlhljflggenaaGreatDoor
