/- ValuePreorders: the reference's function, and the law. -/
import Derived.Test.YtfpmdpldabopjaaKPa
import Derived.Test.YtfpmdpldabopjaaKGQ
import Derived.Test.YtfpmdpldabopjaaKIa
namespace Go.Proofs.Ytfpmdpldabopjaa
open Go Go.Abs Go.RowKit
set_option linter.unusedSimpArgs false
set_option linter.unusedVariables false
set_option maxRecDepth 8000
def preO (data : List Dat) (v t : VT) : List VT := if t.kind = 5 then (if hasT data v t = true then preV (recs data t.num.toNat) v else []) else []
theorem preO_mk (data : List Dat) (v : VT) (k n : Int) (al : List VT) : preO data v (.mk k n al) = if k = 5 then (if hasT data v (.mk k n al) = true then preV (recs data n.toNat) v else []) else [] := rfl
/-- A nil slice as the last argument: it may be appended to. -/
theorem ACalls.ownA {P : Program} {f : FuncId} {us : List AV} {H : Heap} {K : AV → Heap → Prop} (e size : Nat) (h : ACalls P f (us ++ [.sl [] (.own H.length)]) (H ++ [.perm e size 0]) K) : ACalls P f (us ++ [.snil]) H K := by
  intro B w G vs hH hv
  obtain ⟨hE, hH'⟩ := hH.newOwn e size
  have hv2 : All2 (TRel w ⟨G.L, G.μ ++ [.own (.slice none 0 0) size 0]⟩) vs.toList (us ++ [.sl [] (.own H.length)]) := by
    refine All2.of_get (by simpa using hv.length) fun i x y hx hy => ?_
    by_cases hi : i < us.length
    · rw [List.getElem?_append_left hi] at hy
      obtain ⟨x', h1, h2⟩ := hv.get (i := i) (b := y) (by rw [List.getElem?_append_left hi]; exact hy)
      rw [hx] at h1
      cases h1
      exact hE.trel h2
    · have hlt := (List.getElem?_eq_some_iff.1 hy).1
      simp at hlt
      obtain rfl : i = us.length := by omega
      simp at hy
      subst hy
      obtain ⟨x', h1, h2⟩ := hv.get (i := us.length) (b := .snil) (by simp)
      rw [hx] at h1
      cases h1
      have h2 : x = .slice none 0 0 := h2
      subst h2
      refine ⟨.slE _ _, .slice none 0 0, size, 0, ?_, Nat.le_refl _, fun _ => ⟨rfl, by simp⟩⟩
      rw [← hH.len]
      simp
  refine (h B w _ vs hH' hv2).mono fun e' w' hp => ?_
  obtain ⟨v, r, H', G'', h1, h2, h3⟩ := hp
  exact ⟨v, r, H', G'', h1, hE.trans h2, h3⟩
theorem css_app (a b : List VT) : VT.css (a ++ b) = VT.css a ++ VT.css b := by rw [VT.css_map, VT.css_map, VT.css_map, List.map_append]
theorem css_three (l : List VT) : ∀ c ∈ VT.css l, c.length = 3 := by
  intro c hc
  rw [VT.css_map] at hc
  obtain ⟨v, _, rfl⟩ := List.mem_map.1 hc
  simp
theorem preV_nodes (rs : List (List Bool)) (b : Nat) : ∀ v : VT, v.nodes ≤ b → ∀ x ∈ preV rs v, x.nodes ≤ b := by
  intro v
  induction hm : v.nodes using Nat.strongRecOn generalizing v with
  | _ m ih =>
    intro hb x hx
    obtain ⟨k, n, ks⟩ := v
    have key : ∀ (l : List VT) (bs : List Bool), (∀ y ∈ l, y.nodes < m) → ∀ x ∈ preK rs l bs, x.nodes ≤ b := by
      intro l
      induction l with
      | nil => intro bs _ x hx; simp [preK] at hx
      | cons y l ihl =>
        intro bs hy x hx
        match bs with
        | [] => simp [preK] at hx
        | c :: bs =>
          simp only [preK, List.mem_append] at hx
          rcases hx with hx | hx
          · split at hx
            · have h1 := hy y (by simp)
              exact ih _ h1 y rfl (by omega) x hx
            · simp at hx
          · exact ihl bs (fun z hz => hy z (by simp [hz])) x hx
    simp only [preV, List.mem_cons] at hx
    rcases hx with rfl | hx
    · omega
    · exact key ks _ (fun y hy => by have := kids_lt (k := k) (n := n) y hy; omega) x hx
theorem value_Preorder_all (data : List Dat) (hk : KData data) (v t : VT) (hv : v.nodes ≤ 5000) (ht : t.nodes ≤ 1000000) (H : Heap) (K : Kt) (hK : K (.sl (VT.css (preO data v t)) .none) H) :
    ACalls Try.prog n_value_Preorder [.sl (data.map Dat.cs) .none, .agg v.cs, .agg t.cs] H K := by
  obtain ⟨k, n, al⟩ := t
  rw [preO_mk] at hK
  have hTc : (VT.mk k n al).cs = [.int .i64 k, .int .i64 n, .sl (VT.css al) .none] := rfl
  obtain ⟨x, y, z, hvx, hx, hy, hz⟩ := vt3' v
  by_cases h5 : k = 5
  · subst h5
    rw [if_pos rfl] at hK
    cases hh : hasT data v (.mk 5 n al) with
    | true =>
      rw [hh, if_pos rfl] at hK
      exact value_Preorder_spec data hk v n al hv ht hh H K hK
    | false =>
      rw [hh] at hK
      refine ACalls.out (value_Preorder_ok fun hs => ?_)
      simp [value_Preorder, hTc, hvx, Nat.add_assoc]
      rw [← hTc, ← hvx]
      refine value_HasType_spec data hk v (.mk 5 n al) hv ht _ _ ?_
      rw [hh]
      simp
      exact Out.at (b := .sl [] .none) rfl (Nat.le_refl _) hs (.atom .snil) rfl rfl (by simpa [VT.css] using hK)
  · rw [if_neg h5] at hK
    have : (k != 5) = true := by simp [bne, h5]
    refine ACalls.out (value_Preorder_ok fun hs => ?_)
    simp [value_Preorder, hTc, hvx, this, Nat.add_assoc]
    exact Out.at (b := .sl [] .none) rfl (Nat.le_refl _) hs (.atom .snil) rfl rfl (by simpa [VT.css] using hK)
theorem ref10_preorder_spec {data : List Dat} (hk : KData data) {n : Nat} {al : List VT} {rs : List (List Bool)} (hrs : rs = recs data n) : ∀ (m : Nat) (v : VT), v.nodes ≤ m → v.nodes ≤ 10000 → hasV data v (.mk 5 n al) = true → ∀ (H : Heap) (io : Nat) (l : List VT), H[io]? = some (.perm e_api_Value 3 l.length) → l.length + (preV rs v).length ≤ 1000000 →
    ∀ K : Kt, K (.sl (VT.css (l ++ preV rs v)) (.own io)) (H.set io (.perm e_api_Value 3 (l ++ preV rs v).length)) → ACalls Try.prog n_ref10_preorder [.sl (data.map Dat.cs) .none, .agg v.cs, .int .i64 n, .sl (VT.css l) (.own io)] H K := by
  intro m
  induction m with
  | zero => intro v h; have := v.nodes_pos; omega
  | succ m ih =>
    intro v hm hb hh H io l hP hlb K hK
    obtain ⟨vk, c, ks⟩ := v
    obtain ⟨rfl, n0, c0, c8, hn, hc, hkl, _, hrc, hrl, hkid⟩ := has_cons hh
    simp only [Int.toNat_natCast] at hn hc hkl hrc hrl hkid
    rw [← hrs] at hrc hrl
    have hll := VT.len_le ks
    have hnn : (VT.mk 5 c ks).nodes = VT.nodesL ks + 1 := by simp [VT.nodes]
    have hlt0 := lt_get hP
    obtain ⟨f1, f2, f3⟩ := kd_fields hk
    have hdm := List.getElem_mem hn
    have hcm := List.getElem_mem hc
    obtain ⟨g1, g2⟩ := f2 _ hdm _ hcm
    have hpre : preV rs (.mk 5 c ks) = .mk 5 c ks :: preK rs ks (rs.getD c.toNat []) := by rw [preV]
    generalize hbs : rs.getD c.toNat [] = bs at *
    have hbl : bs.length = ks.length := by rw [hrc, recsC, List.length_map]; exact hkl.symm
    have hrec : ∀ (i : Nat) (hi : i < ks.length) (hi2 : i < bs.length), bs[i] = true → hasV data ks[i] (.mk 5 n al) = true := fun i hi hi2 hb => by
      refine hkid i hi (by omega) ?_
      have : bs[i] = isSelf n (data[n]).vars (((data[n]).cons[c.toNat]).args[i]'(by omega)) := by simp [hrc, recsC]
      rw [← this]; exact hb
    rw [hpre] at hK hlb
    simp only [List.length_cons] at hlb
    have hpk := preK_len rs ks bs
    refine ACalls.out (ref10_preorder_ok fun hs => ?_)
    obtain ⟨c, rfl⟩ : ∃ x : Nat, c = x := ⟨c.toNat, by omega⟩
    simp only [Int.toNat_natCast] at hc hkl hrc hcm g1 g2
    have hVc : (VT.mk 5 (c : Int) ks).cs = [.int .i64 5, .int .i64 c, .sl (VT.css ks) .none] := rfl
    have hg : (H ++ [AB.cells (VT.mk 5 (c : Int) ks).cs])[io]? = some (.perm e_api_Value 3 l.length) := app_get hP
    simp [ref10_preorder]
    rw [buildS_vt]
    have hset0 : ∀ X : AB, (H ++ [AB.cells (VT.mk 5 (c : Int) ks).cs]).set io X = H.set io X ++ [AB.cells (VT.mk 5 (c : Int) ks).cs] := fun X => app_set X hP
    simp only [aAppend, aSrc, aAppTo, hg, hset0]
    refine ⟨by simp, by simp, ⟨by simp; omega, by simp; omega⟩, ?_⟩
    simp [hVc, List.getElem?_append]
    refine ref5_Recursive_spec data n c hn hc f1 (f3 _ hdm) (by omega) (fun x hx => by have := g2 x hx; omega) _ _ ?_
    rw [← hrc]
    simp [bcells]
    have hst : VT.css l ++ [(VT.mk 5 (c : Int) ks).cs] = VT.css (l ++ [.mk 5 c ks]) := by rw [css_snoc]
    rw [← hVc, hst]
    have hscp : ∀ q, HSc (H.set io (.perm e_api_Value 3 q)) := fun q => hs.set rfl
    refine ref10_preorder_loop4 (Inv := fun q t3 t22 H' => ∃ (i : Nat) (acc : List VT), i ≤ ks.length ∧ q = ks.length - i ∧ t22 = .int .i64 i ∧ t3 = .sl (VT.css acc) (.own io) ∧ acc ++ preK rs (ks.drop i) (bs.drop i) = l ++ .mk 5 c ks :: preK rs ks bs ∧
      H' = H.set io (.perm e_api_Value 3 acc.length) ++ [.cells (VT.mk 5 c ks).cs]) ks.length ?_ ?_
    · intro _; exact ⟨0, l ++ [.mk 5 c ks], by omega, by omega, rfl, rfl, by simp, by simp⟩
    · rintro q t3 t22 H' ⟨i, acc, hi, rfl, rfl, rfl, ho, rfl⟩ hsc' hlen hsF Kb hKb
      have hlo := congrArg List.length ho
      simp only [List.length_append, List.length_cons] at hlo
      by_cases hlt : i < ks.length
      · have hlt2 : i < bs.length := by omega
        obtain ⟨x, y, z, hvx, hx, hy, hz⟩ := vt3' ks[i]
        have hkn := VT.kid_lt (k := 5) (n := (c : Int)) hlt
        rw [preK_drop hlt hlt2] at ho hlo
        have hpa : (H.set io (.perm e_api_Value 3 acc.length) ++ [AB.cells (VT.mk 5 (c : Int) ks).cs])[io]? = some (.perm e_api_Value 3 acc.length) := app_get (set_get _ hP)
        have hback : ∀ acc' J, acc' ++ preK rs (ks.drop (i + 1)) (bs.drop (i + 1)) = l ++ .mk 5 c ks :: preK rs ks bs →
            Kb (ref10_preorder_fr4 (.sl (data.map Dat.cs) .none) (.int .i64 n) (.sl (VT.css acc') (.own io)) (.ptr H.length 0) (.sl (bs.map fun b => [.bool b]) .none) (.int .i64 bs.length) (.int .i64 (IntKind.i64.wrap (i + 1)))) (H.set io (.perm e_api_Value 3 acc'.length) ++ ([.cells (VT.mk 5 c ks).cs] ++ J)) := by
          intro acc' J ha
          rw [wrap_in (by omega) (by omega)]
          refine hKb _ _ ⟨ks.length - (i + 1), by omega, Back.at (J := J) (H2 := H.set io (.perm e_api_Value 3 acc'.length) ++ [.cells (VT.mk 5 c ks).cs]) (by simp) (by simp) ((hscp _).append (by simp [AB.sc])) ?_ ⟨_, _, rfl, i + 1, acc', by omega, rfl, by simp, rfl, ha, rfl⟩⟩
          simp [ref10_preorder_fr4, AV.sc, AV.scV, AV.scA, AV.scB]
          try omega
        simp [ref10_preorder_b4, hlt, hlt2, hbl]
        cases hbi : bs[i] with
        | true =>
          rw [hbi, if_pos rfl] at ho hlo
          simp only [List.length_append] at hlo
          simp [hVc, hlt, hvx, List.getElem?_append]
          rw [← hVc, ← hvx]
          refine ih ks[i] (by omega) (by omega) (hrec i hlt hlt2 hbi) _ io acc hpa (by omega) _ ?_
          rw [app_set _ (set_get _ hP), List.set_set]
          simp [ref10_preorder_j1, ref10_preorder_j2]
          have := hback (acc ++ preV rs ks[i]) [] (by simpa using ho)
          simpa [hbl] using this
        | false =>
          rw [hbi] at ho
          simp at ho
          simp [ref10_preorder_j1, ref10_preorder_j2]
          have := hback acc [] ho
          simpa [hbl] using this
      · obtain rfl : i = ks.length := by omega
        rw [List.drop_length] at ho
        simp only [preK, List.append_nil] at ho
        subst ho
        simp [ref10_preorder_b4, hbl]
        exact Out.at rfl (by simp) (hscp _) .rfl' rfl (by simp [AV.scV, AV.scA, AV.scB]; omega) (by simpa using hK)
theorem ref10_Preorder_spec (data : List Dat) (hk : KData data) (v t : VT) (hv : v.nodes ≤ 5000) (ht : t.nodes ≤ 1000000) (H : Heap) (K : Kt) (hK : K (.sl (VT.css (preO data v t)) .none) H) :
    ACalls Try.prog n_ref10_Preorder [.sl (data.map Dat.cs) .none, .agg v.cs, .agg t.cs] H K := by
  obtain ⟨k, n, al⟩ := t
  rw [preO_mk] at hK
  have hTc : (VT.mk k n al).cs = [.int .i64 k, .int .i64 n, .sl (VT.css al) .none] := rfl
  obtain ⟨x, y, z, hvx, hx, hy, hz⟩ := vt3' v
  refine ACalls.out (ref10_Preorder_ok fun hs => ?_)
  by_cases h5 : k = 5
  · subst h5
    rw [if_pos rfl] at hK
    simp [ref10_Preorder, hTc, hvx, Nat.add_assoc]
    rw [← hTc, ← hvx]
    refine ref10_HasType_spec data hk v (.mk 5 n al) hv ht _ _ ?_
    cases hh : hasT data v (.mk 5 n al) with
    | true =>
      rw [hh, if_pos rfl] at hK
      obtain ⟨hd, hty, hhv⟩ := hasT_parts hh
      have hn0 : 0 ≤ n := by
        obtain ⟨vk, c, ks⟩ := v
        exact (has_cons hhv).2.1
      obtain ⟨n, rfl⟩ : ∃ x : Nat, n = x := ⟨n.toNat, by omega⟩
      simp only [Int.toNat_natCast] at hK
      have hpl := preV_len (recs data n) v
      simp [hTc, hvx, Nat.add_assoc]
      rw [← hTc, ← hvx]
      refine ACalls.ownA (us := [_, _, _]) e_api_Value 3 ?_
      show ACalls Try.prog n_ref10_preorder [.sl (data.map Dat.cs) .none, .agg v.cs, .int .i64 n, .sl (VT.css []) (.own (H ++ [AB.cells v.cs, .cells (VT.mk 5 n al).cs]).length)] _ _
      refine ref10_preorder_spec hk (al := al) rfl _ v (Nat.le_refl _) (by omega) hhv _ _ [] (by simp) (by simp; omega) _ ?_
      simp
      exact Out.at (b := .sl (VT.css (preV (recs data n) v)) .none) (H2 := H) (J := [.cells v.cs, .cells (VT.mk 5 n al).cs, .perm e_api_Value 3 (preV (recs data n) v).length]) (by simp [List.set_append_right]) (Nat.le_refl _) hs (.atom (.sl _ _)) rfl rfl hK
    | false =>
      rw [hh] at hK
      simp
      exact Out.at (b := .sl [] .none) rfl (Nat.le_refl _) hs (.atom .snil) rfl rfl (by simpa [VT.css] using hK)
  · rw [if_neg h5] at hK
    have : (k != 5) = true := by simp [bne, h5]
    simp [ref10_Preorder, hTc, hvx, this, Nat.add_assoc]
    exact Out.at (b := .sl [] .none) rfl (Nat.le_refl _) hs (.atom .snil) rfl rfl (by simpa [VT.css] using hK)
def oneD : List Dat := [⟨[68], 0, [⟨[67], []⟩]⟩]
theorem kdata_one : KData oneD := by
  refine ⟨by simp [oneD], fun D hD => ?_⟩
  simp [oneD] at hD
  subst hD
  refine ⟨by simp, by simp, fun C hC => ?_⟩
  simp at hC
  subst hC
  exact ⟨by simp, by simp, fun t ht => by simp at ht⟩
theorem preO_one : preO oneD (.mk 5 0 []) (.mk 5 0 []) = [.mk 5 0 []] := by
  have h : hasT oneD (.mk 5 0 []) (.mk 5 0 []) = true := by decide +kernel
  rw [preO_mk, if_pos rfl, h, if_pos rfl]
  rfl
theorem ValuePreorders_spec (data : List Dat) (hlen : data.length ≤ 9223372036854775807) (v t : VT) (H : Heap) (K : Kt) (hK : K (.bool true) H) :
    ACalls Try.prog n_law10_ValuePreorders [.sl (data.map Dat.cs) .none, .agg v.cs, .agg t.cs] H K := by
  refine ACalls.out (law10_ValuePreorders_ok fun hs => ?_)
  have hO : ∀ J, Out H.length K (.bool true) (H ++ J) := fun J => Out.bool rfl (Nat.le_refl _) hs hK
  obtain ⟨x, y, z, hvx, hx, hy, hz⟩ := vt3' v
  obtain ⟨x2, y2, z2, hvx2, hx2, hy2, hz2⟩ := vt3' t
  simp [law10_ValuePreorders, hvx, hvx2, Nat.add_assoc]
  refine keep_Data_spec data _ _ hlen fun b1 hb1 => ?_
  cases b1 with
  | false =>
    simp
    exact hO _
  | true =>
  simp [Nat.add_assoc]
  rw [← hvx]
  refine keep_Value_spec v _ _ fun b2 hb2 => ?_
  cases b2 with
  | false =>
    simp
    exact hO _
  | true =>
  simp [Nat.add_assoc]
  rw [← hvx2]
  refine keep_Type_spec t _ _ fun b3 hb3 => ?_
  cases b3 with
  | false =>
    simp
    exact hO _
  | true =>
  have hk := hb1 rfl
  have hv := hb2 rfl
  have ht := hb3 rfl
  have hnodes : (∀ x ∈ preO data v t, x.nodes ≤ 400) ∧ (preO data v t).length ≤ 400 := by
    unfold preO
    split
    · split
      · have := preV_len (recs data t.num.toNat) v
        exact ⟨preV_nodes _ 400 v (by omega), by omega⟩
      · simp
    · simp
  simp [aBuild, fillA, aBuildS, fillS, plain, AV.pd, Nat.add_assoc]
  refine aPureX_call (.sl (VT.css (preO data v t)) .none) (fun J => value_Preorder_all data hk v t (by omega) (by omega) _ _ ⟨rfl, rfl⟩) ?_
  try simp
  refine aPureX_call (.sl (VT.css (preO data v t)) .none) (fun J => ref10_Preorder_spec data hk v t (by omega) (by omega) _ _ ⟨rfl, rfl⟩) ?_
  try simp
  refine aPureX_call (.bool true) (fun J => keep_SameValues_spec _ (fun x hx => by have := hnodes.1 x hx; omega) (by omega) _ _ ⟨rfl, rfl⟩) ?_
  simp [aBuild, fillA]
  refine aPureX_call (.sl (VT.css [.mk 5 0 []]) .none) (fun J => ?_) ?_
  · refine ACalls.wk (args' := [.sl (oneD.map Dat.cs) .none, .agg (VT.mk 5 0 []).cs, .agg (VT.mk 5 0 []).cs]) (value_Preorder_all oneD kdata_one (.mk 5 0 []) (.mk 5 0 []) (by decide) (by decide) _ _ (by rw [preO_one]; exact ⟨rfl, rfl⟩)) ⟨.atom (.sl _ _), .agg ⟨.refl _, .refl _, .snil, trivial⟩, .agg ⟨.refl _, .refl _, .snil, trivial⟩, trivial⟩
  · simp
    exact hO _
end Go.Proofs.Ytfpmdpldabopjaa
