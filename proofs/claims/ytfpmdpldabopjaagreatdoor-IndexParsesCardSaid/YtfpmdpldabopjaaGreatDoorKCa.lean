/- The reference's ValidData. -/
import Derived.Test.YtfpmdpldabopjaaGreatDoorKYb
namespace Go.Proofs.YtfpmdpldabopjaaGreatDoor
open Go Go.Abs
set_option linter.unusedSimpArgs false
set_option linter.unusedVariables false
set_option maxRecDepth 8000
def refArg (data : List Dat) (d : Nat) (vars : Int) (t : VT) : Bool := isSelf d vars t || tyValid (data.take d) vars t
structure RCon (data : List Dat) (d : Nat) (vars : Int) (c : Con) : Prop where
  up : upName c.name = true
  len : c.args.length ≤ 6
  args : ∀ x ∈ c.args, refArg data d vars x = true
structure RDat (data : List Dat) (d : Nat) (D : Dat) : Prop where
  v0 : 0 ≤ D.vars
  v6 : D.vars ≤ 6
  c1 : 1 ≤ D.cons.length
  c8 : D.cons.length ≤ 8
  up : upName D.name = true
  cons : ∀ c ∈ D.cons, RCon data d D.vars c
structure RData (data : List Dat) : Prop where
  len : data.length ≤ 12
  dats : ∀ d (h : d < data.length), RDat data d data[d]
  names : (dnames data).Nodup
  cons : (cnames data).Nodup
theorem take_snoc {α : Type} {l : List α} {i : Nat} (h : i < l.length) : l.take (i + 1) = l.take i ++ [l[i]] := by rw [List.take_append_getElem h]
theorem cn_len : ∀ l : List Dat, (∀ D ∈ l, D.cons.length ≤ 10) → (cnames l).length ≤ l.length * 10
  | [], _ => by simp [cnames]
  | D :: l, h => by
    have h1 := cn_len l (fun D hD => h D (by simp [hD]))
    have h2 := h D (by simp)
    rw [cnames] at h1 ⊢
    rw [List.flatMap_cons, List.length_append, List.length_map, List.length_cons]; omega
theorem dnames_snoc {data : List Dat} {d : Nat} (h : d < data.length) : dnames (data.take (d + 1)) = dnames (data.take d) ++ [(data[d]).name] := by
  rw [dnames, take_snoc h, List.map_append]; rfl
theorem cnames_snoc {data : List Dat} {d : Nat} (h : d < data.length) : cnames (data.take (d + 1)) = cnames (data.take d) ++ (data[d]).cons.map Con.name := by
  rw [cnames, take_snoc h, List.flatMap_append]; simp [cnames]
theorem strs_snoc (l : List (List UInt8)) (s : List UInt8) : strs (l ++ [s]) = strs l ++ [[.str s]] := by simp [strs]
theorem buildS_str {s : List UInt8} {k : AV → Prop} : aBuildS 1 [.str []] 1 [(0, .str s)] k = k (.sl [[.str s]] .full) := propext Iff.rfl
theorem repeats_tok (l : List (List UInt8)) (hl : l.length ≤ 1000000) {tok : Tok} (H : Heap) (K : AV → Heap → Prop) (hK : K (.bool (repeats l)) H) : ACalls Tryz.prog n_zq92 [.sl (strs l) tok] H K :=
  ACalls.wk (zq92_spec l hl H K hK) ⟨.atom (.sl _ _), trivial⟩
theorem con_at {D : Dat} {i : Nat} (h : i < D.cons.length) : (D.cons.map Con.cs)[i]?.getD [] = [.str (D.cons[i]).name, .sl (VT.css (D.cons[i]).args) .none] := by simp [h, Con.cs]
theorem zq51_spec (data : List Dat) (hkd : KData data) (H : Heap) (K : AV → Heap → Prop) (hK : ∀ b, (b = true ↔ RData data) → K (.bool b) H) : ACalls Tryz.prog n_zq51 [.sl (data.map Dat.cs) .none] H K := by
  refine ACalls.out (zq51_ok fun hs => ?_)
  obtain ⟨kl, kd⟩ := hkd
  have hF : ¬ RData data → ∀ J, Out H.length K (.bool false) (H ++ J) := fun h J => Out.bool rfl (Nat.le_refl _) hs (hK _ (by simp [h]))
  have hT : ∀ b : Bool, (b = true ↔ RData data) → ∀ J, Out H.length K (.bool b) (H ++ J) := fun b h J => Out.bool rfl (Nat.le_refl _) hs (hK _ h)
  by_cases h12 : data.length > 12
  · have h12' : (12 : Int) < data.length := by omega
    simp [zq51, h12']
    have := hF (fun h => by have := h.len; omega) []
    simpa using this
  have h12' : ¬ (12 : Int) < data.length := by omega
  simp [zq51, h12']
  unfold zq51_l5
  refine ALoop.own 3 e_string 1 rfl ?_
  refine ALoop.own 4 e_string 1 rfl ?_
  rw [List.append_assoc]
  have hcn : ∀ d, (cnames (data.take d)).length ≤ 140 := fun d => by
    have := cn_len (data.take d) (fun D hD => (kd D (List.mem_of_mem_take hD)).2.1)
    rw [List.length_take] at this
    have : min d data.length * 10 ≤ 14 * 10 := Nat.mul_le_mul_right _ (by omega)
    omega
  have hl1 : (H ++ [AB.perm e_string 1 0]).length = H.length + 1 := by simp
  rw [hl1]
  show zq51_l5 (.sl (data.map Dat.cs) .none) (.sl [] (.own H.length)) (.sl [] (.own (H.length + 1))) (.int .i64 0) (H ++ [.perm e_string 1 0, .perm e_string 1 0]) (Out H.length K)
  have hsP : ∀ m n, HSc (H ++ [.perm e_string 1 m, .perm e_string 1 n]) := fun m n => hs.append rfl
  refine zq51_loop5 (Inv := fun q t3 t4 t5 H' => ∃ d : Nat, d ≤ data.length ∧ q = data.length - d ∧ t5 = .int .i64 d ∧ t3 = .sl (strs (dnames (data.take d))) (.own H.length) ∧ t4 = .sl (strs (cnames (data.take d))) (.own (H.length + 1)) ∧ (∀ j (h : j < data.length), j < d → RDat data j data[j]) ∧ H' = H ++ [.perm e_string 1 d, .perm e_string 1 (cnames (data.take d)).length]) data.length ?_ ?_
  · intro _; exact ⟨0, by omega, by omega, rfl, by simp [dnames, strs], by simp [cnames, strs], by omega, by simp [cnames]⟩
  · rintro q t3 t4 t5 H' ⟨d, hd, rfl, rfl, rfl, rfl, hok, rfl⟩ hsc hlen hsF Kb hKb
    by_cases hlt : d < data.length
    · have hbad : ¬ RDat data d data[d] → ∀ J, Out H.length K (.bool false) (H ++ J) := fun h => hF fun hh => h (hh.dats d hlt)
      have hcd := hcn d
      have hds := dnames_snoc hlt
      have hcs := cnames_snoc hlt
      obtain ⟨kn, kc, kcc⟩ := kd _ (List.getElem_mem hlt)
      have hdl : (dnames (data.take d)).length = d := by simp [dnames]; omega
      generalize hD : data[d] = D at *
      have hge : (data.map Dat.cs)[d]?.getD [] = [.str D.name, .int .i64 D.vars, .sl (D.cons.map Con.cs) .none] := by simp [hlt, hD, Dat.cs]
      by_cases hv0 : D.vars < 0
      · simp [zq51_b5, hlt, hD, Dat.cs, hv0]
        exact hbad (fun h => by have := h.v0; omega) _
      by_cases hv6 : 6 < D.vars
      · simp [zq51_b5, hlt, hD, Dat.cs, hv0, hv6]
        exact hbad (fun h => by have := h.v6; omega) _
      by_cases hc1 : D.cons.length < 1
      · have hc1' : (D.cons.length : Int) < 1 := by omega
        simp [zq51_b5, hlt, hD, Dat.cs, hv0, hv6, hc1']
        exact hbad (fun h => by have := h.c1; omega) _
      have hc1' : ¬ (D.cons.length : Int) < 1 := by omega
      by_cases hc8 : 8 < D.cons.length
      · have hc8' : (8 : Int) < D.cons.length := by omega
        simp [zq51_b5, hlt, hD, Dat.cs, hv0, hv6, hc1', hc8']
        exact hbad (fun h => by have := h.c8; omega) _
      have hc8' : ¬ (8 : Int) < D.cons.length := by omega
      simp [zq51_b5, hlt, hD, Dat.cs, hv0, hv6, hc1', hc8']
      refine zq91_spec _ _ _ ?_
      cases hup : upName D.name with
      | false => simp; exact hbad (fun h => by have := h.up; rw [hup] at this; cases this) _
      | true =>
      simp [buildS_str]
      simp [aAppend, aSrc, aAppTo, hdl]
      refine ⟨by omega, ?_⟩
      rw [← strs_snoc, ← hds]
      refine zq51_loop12 (Inv := fun q t4 t7 H' => ∃ k : Nat, k ≤ D.cons.length ∧ q = D.cons.length - k ∧ t7 = .int .i64 k ∧ t4 = .sl (strs (cnames (data.take d) ++ (D.cons.map Con.name).take k)) (.own (H.length + 1)) ∧ (∀ c ∈ D.cons.take k, RCon data d D.vars c) ∧ H' = H ++ [.perm e_string 1 (d + 1), .perm e_string 1 ((cnames (data.take d)).length + k), .cells [.str D.name, .int .i64 D.vars, .sl (D.cons.map Con.cs) .none]]) D.cons.length ?_ ?_
      · intro _; exact ⟨0, by omega, by omega, rfl, by simp, by simp, by simp⟩
      · rintro q t4 t7 H' ⟨k, hk, rfl, rfl, rfl, hck, rfl⟩ hsc1 hlen1 hsF1 Kb1 hKb1
        have hlk : (cnames (data.take d) ++ (D.cons.map Con.name).take k).length = (cnames (data.take d)).length + k := by simp; omega
        by_cases hkl : k < D.cons.length
        · have hkI : (k : Int) < D.cons.length := by omega
          have hca := con_at hkl
          have hcbad : ¬ RCon data d D.vars D.cons[k] → ∀ J, Out H.length K (.bool false) (H ++ J) := fun h => hbad fun hh => h (hh.cons _ (List.getElem_mem hkl))
          have hns : cnames (data.take d) ++ (D.cons.map Con.name).take (k + 1) = (cnames (data.take d) ++ (D.cons.map Con.name).take k) ++ [(D.cons[k]).name] := by rw [take_snoc (by simpa using hkl)]; simp
          obtain ⟨_, ka, kan⟩ := kcc _ (List.getElem_mem hkl)
          generalize hC : D.cons[k] = C at *
          simp [zq51_b12, hkl, hC, Con.cs]
          refine zq91_spec _ _ _ ?_
          cases hupc : upName C.name with
          | false => simp; exact hcbad (fun h => by have := h.up; rw [hupc] at this; cases this) _
          | true =>
          by_cases ha6 : 6 < C.args.length
          · have ha6' : (6 : Int) < C.args.length := by omega
            simp [hkl, hC, Con.cs, ha6']
            exact hcbad (fun h => by have := h.len; omega) _
          have ha6' : ¬ (6 : Int) < C.args.length := by omega
          simp [hkl, hC, Con.cs, ha6', buildS_str]
          generalize hA : cnames (data.take d) ++ (D.cons.map Con.name).take k = A at *
          have hAl : A.length = (cnames (data.take d)).length + k := hlk
          simp [aAppend, aSrc, aAppTo, hAl, hkl, hC, Con.cs]
          refine ⟨by omega, ?_⟩
          rw [← strs_snoc, ← hns]
          refine zq51_loop18 (Inv := fun q t95 H' => ∃ i : Nat, i ≤ C.args.length ∧ q = C.args.length - i ∧ t95 = .int .i64 i ∧ (∀ x ∈ C.args.take i, refArg data d D.vars x = true) ∧ H' = H ++ [.perm e_string 1 (d + 1), .perm e_string 1 ((cnames (data.take d)).length + k + 1), .cells [.str D.name, .int .i64 D.vars, .sl (D.cons.map Con.cs) .none]]) C.args.length ?_ ?_
          · intro _; exact ⟨0, by omega, by omega, rfl, by simp, rfl⟩
          · rintro q t95 H' ⟨i, hi, rfl, rfl, hok3, rfl⟩ hsc2 hlen2 hsF2 Kb2 hKb2
            by_cases hil : i < C.args.length
            · have hxn := kan _ (List.getElem_mem hil)
              have habad : refArg data d D.vars C.args[i] = false → ∀ J, Out H.length K (.bool false) (H ++ J) := fun h => hcbad fun hh => by
                have := hh.args _ (List.getElem_mem hil)
                rw [h] at this; cases this
              obtain ⟨x, y, z, hvx, hx, hy, hz⟩ := vt3 C.args[i]
              have good : refArg data d D.vars C.args[i] = true → zq51_j1 (.sl (data.map Dat.cs) .none) (.sl (strs (dnames (data.take (d + 1)))) (.own H.length)) (.sl (strs (cnames (data.take d) ++ (D.cons.map Con.name).take (k + 1))) (.own (H.length + 1))) (.int .i64 d) (.ptr (H.length + 2) 0) (.int .i64 k) (.sl (VT.css C.args) .none) (.int .i64 C.args.length) (.int .i64 i) (H ++ [.perm e_string 1 (d + 1), .perm e_string 1 ((cnames (data.take d)).length + k + 1), .cells [.str D.name, .int .i64 D.vars, .sl (D.cons.map Con.cs) .none], .cells [x, y, z]]) (Out H.length K) Kb Kb1 Kb2 := fun hg => by
                simp [zq51_j1, zq51_j2]
                rw [wrap_in (by omega) (by omega)]
                refine hKb2 _ _ ⟨C.args.length - (i + 1), by omega, Back.at (J := [_]) (H2 := H ++ [.perm e_string 1 (d + 1), .perm e_string 1 ((cnames (data.take d)).length + k + 1), .cells [.str D.name, .int .i64 D.vars, .sl (D.cons.map Con.cs) .none]]) (by simp; rfl) (by simp) hsc2 ?_ ⟨_, rfl, i + 1, by omega, rfl, by simp, mem_take_succ hil hok3 hg, rfl⟩⟩
                simp [zq51_fr18, AV.sc, AV.scV, AV.scA, AV.scB]
              simp [zq51_b18, hil, hvx, hx, hy, hz]
              rw [← hvx]
              refine IsSelf_spec _ _ _ (by omega) _ _ ?_
              cases hself : isSelf d D.vars C.args[i] with
              | true =>
                rw [hvx]
                simp
                exact good (by simp [refArg, hself])
              | false =>
                simp [hvx]
                refine ⟨⟨by omega, fun a _ => rfl⟩, ?_⟩
                rw [← List.map_take, ← hvx]
                refine aPureX_call (.bool (tyValid (data.take d) D.vars C.args[i])) (fun J => zq52_spec (data.take d) (by simp; omega) _ _ (by omega) _ _ ⟨rfl, rfl⟩) ?_
                cases hty : tyValid (data.take d) D.vars C.args[i] with
                | false => simp; exact habad (by simp [refArg, hself, hty]) _
                | true =>
                  rw [hvx]
                  simp
                  exact good (by simp [refArg, hty])
            · obtain rfl : i = C.args.length := by omega
              rw [List.take_length] at *
              simp [zq51_b18]
              rw [wrap_in (by omega) (by omega)]
              refine hKb1 _ _ ⟨D.cons.length - (k + 1), by omega, Back.here (by simp) hsc2 ?_ ⟨_, _, rfl, k + 1, by omega, rfl, by simp, rfl, ?_, by simp [Nat.add_assoc]⟩⟩
              · simp [zq51_fr12, AV.sc, AV.scV, AV.scA, AV.scB]
              · exact mem_take_succ hkl hck (by rw [hC]; exact ⟨hupc, by omega, hok3⟩)
        · obtain rfl : k = D.cons.length := by omega
          rw [List.take_length] at *
          simp [zq51_b12]
          rw [wrap_in (by omega) (by omega)]
          refine hKb _ _ ⟨data.length - (d + 1), by omega, Back.at (J := [_]) (H2 := H ++ [.perm e_string 1 (d + 1), .perm e_string 1 (cnames (data.take (d + 1))).length]) (by rw [hcs]; simp; rfl) (by simp) (hsP _ _) ?_ ⟨_, _, _, rfl, d + 1, by omega, rfl, by simp, rfl, by rw [hcs]; exact congrArg (fun l => AV.sl (strs (cnames (data.take d) ++ l)) (.own (H.length + 1))) (List.take_of_length_le (Nat.le_of_eq (List.length_map _))), fun j hj hji => ?_, rfl⟩⟩
          · simp [zq51_fr5, AV.sc, AV.scV, AV.scA, AV.scB]
          · by_cases hjd : j = d
            · subst hjd; rw [hD]; exact ⟨by omega, by omega, by omega, by omega, hup, hck⟩
            · exact hok j hj (by omega)
    · obtain rfl : d = data.length := by omega
      rw [List.take_length] at *
      have hdn : (dnames data).length = data.length := by simp [dnames]
      have hcn' := hcn data.length
      rw [List.take_length] at hcn'
      simp [zq51_b5]
      refine repeats_tok _ (by omega) _ _ ?_
      cases hr : repeats (dnames data) with
      | true =>
        simp
        refine hT _ ?_ _
        simp
        intro h
        have := repeats_nodup h.names
        rw [hr] at this; cases this
      | false =>
        simp
        refine repeats_tok _ (by omega) _ _ ?_
        refine hT _ ?_ _
        simp only [repeats, Bool.not_eq_false', decide_eq_true_eq, Bool.not_not] at hr ⊢
        exact ⟨fun h => ⟨by omega, fun j hj => hok j hj hj, hr, h⟩, fun h => h.cons⟩
end Go.Proofs.YtfpmdpldabopjaaGreatDoor
namespace Go.Proofs.YtfpmdpldabopjaaGreatDoor
open Go Go.Abs
set_option linter.unusedSimpArgs false
set_option linter.unusedVariables false
set_option maxRecDepth 8000
mutual
theorem same_iff : ∀ v w : VT, v.same w = true ↔ v = w
  | .mk k n ks, .mk k' n' ks' => by
    have h := sameL_iff ks ks'
    simp only [VT.same, Bool.and_eq_true, beq_iff_eq, VT.mk.injEq, h, and_assoc]
theorem sameL_iff : ∀ v w : List VT, VT.sameL v w = true ↔ v = w
  | v :: vs, w :: ws => by
    have h1 := same_iff v w
    have h2 := sameL_iff vs ws
    simp only [VT.sameL, Bool.and_eq_true, List.cons.injEq, h1, h2]
  | [], [] => by simp [VT.sameL]
  | [], _ :: _ => by simp [VT.sameL]
  | _ :: _, [] => by simp [VT.sameL]
end
theorem take_get {α : Type} (l : List α) (d n : Nat) : (l.take d)[n]? = if n < d then l[n]? else none := by
  by_cases h : n < d
  · rw [if_pos h, List.getElem?_take_of_lt h]
  · rw [if_neg h, List.getElem?_eq_none (by rw [List.length_take]; omega)]
theorem shape_ne {data : List Dat} {d : Nat} {vars k n : Int} {len : Nat} (h : (k == 5 && n == (d : Int)) = false) : shapeOk (data.take (d + 1)) vars k n len = shapeOk (data.take d) vars k n len := by
  unfold shapeOk
  by_cases h5 : k = 5
  · subst h5
    have hn : n ≠ d := by simpa using h
    simp only [take_get]
    by_cases h0 : 0 ≤ n
    · have : (n.toNat < d + 1) = (n.toNat < d) := by
        apply propext; omega
      simp [this]
    · simp [h0]
  · have : (k == 5) = false := by simpa using h5
    simp [this]
mutual
theorem tyOk_ne (data : List Dat) (d : Nat) (vars : Int) : ∀ t : VT, mentions d t = false → tyOk (data.take (d + 1)) vars t = tyOk (data.take d) vars t
  | .mk k n ks => by
    intro h
    simp only [mentions, Bool.or_eq_false_iff] at h
    rw [tyOk, tyOk, shape_ne h.1, tyOkL_ne data d vars ks h.2]
theorem tyOkL_ne (data : List Dat) (d : Nat) (vars : Int) : ∀ l : List VT, mentionsL d l = false → tyOkL (data.take (d + 1)) vars l = tyOkL (data.take d) vars l
  | [] => fun _ => rfl
  | t :: ts => by
    intro h
    simp only [mentionsL, Bool.or_eq_false_iff] at h
    rw [tyOkL, tyOkL, tyOk_ne data d vars t h.1, tyOkL_ne data d vars ts h.2]
end
mutual
theorem ment_of (data : List Dat) (d : Nat) (vars : Int) : ∀ t : VT, tyOk (data.take d) vars t = true → mentions d t = false
  | .mk k n ks => by
    intro h
    rw [tyOk, Bool.and_eq_true] at h
    rw [mentions, mentL_of data d vars ks h.2, Bool.or_false]
    by_cases h5 : k = 5
    · subst h5
      have h1 := h.1
      simp [shapeOk, take_get] at h1
      obtain ⟨h0, h2⟩ := h1
      by_cases hn : n = d
      · subst hn
        simp at h2
      · simpa using hn
    · have : (k == 5) = false := by simpa using h5
      simp [this]
theorem mentL_of (data : List Dat) (d : Nat) (vars : Int) : ∀ l : List VT, tyOkL (data.take d) vars l = true → mentionsL d l = false
  | [] => fun _ => rfl
  | t :: ts => by
    intro h
    rw [tyOkL, Bool.and_eq_true] at h
    rw [mentionsL, ment_of data d vars t h.1, mentL_of data d vars ts h.2]; rfl
end
theorem selfL_ok (data : List Dat) (vars : Int) : ∀ (l : List VT) (i : Nat), isSelfL l i = true → ((i + l.length : Nat) : Int) ≤ vars → tyOkL data vars l = true ∧ VT.nodesL l = l.length
  | [], i, _, _ => ⟨rfl, rfl⟩
  | .mk k n ks :: l, i, h, hv => by
    rw [isSelfL, Bool.and_eq_true] at h
    obtain ⟨h1, h2⟩ := h
    simp only [isVarAt, Bool.and_eq_true, beq_iff_eq] at h1
    obtain ⟨⟨rfl, rfl⟩, h3⟩ := h1
    have hk : ks = [] := List.eq_nil_of_length_eq_zero h3
    subst hk
    obtain ⟨h4, h5⟩ := selfL_ok data vars l (i + 1) h2 (by simp at hv ⊢; omega)
    simp at hv
    constructor
    · simp [tyOkL, tyOk, shapeOk, h4]
      omega
    · simp [VT.nodesL, VT.nodes, h5]; omega
theorem arg_eq (data : List Dat) (d : Nat) (hd : d < data.length) (h0 : 0 ≤ (data[d]).vars) (h6 : (data[d]).vars ≤ 6) (t : VT) : argOk data d (data[d]).vars t = refArg data d (data[d]).vars t := by
  unfold argOk refArg
  cases hs : isSelf d (data[d]).vars t with
  | true =>
    obtain ⟨k, n, ks⟩ := t
    simp only [isSelf, Bool.and_eq_true, beq_iff_eq] at hs
    obtain ⟨⟨⟨rfl, rfl⟩, hl⟩, hs⟩ := hs
    obtain ⟨h1, h2⟩ := selfL_ok (data.take (d + 1)) (data[d]).vars ks 0 hs (by simp; omega)
    have hty : tyValid (data.take (d + 1)) (data[d]).vars (.mk 5 d ks) = true := by
      simp [tyValid, tyOk, h1, VT.nodes, h2, shapeOk, take_get, hd, hl]
      omega
    simp [hty]
  | false =>
    simp only [Bool.false_or]
    unfold tyValid
    cases hm : mentions d t with
    | false => rw [tyOk_ne data d _ t hm]; simp
    | true =>
      have : tyOk (data.take d) (data[d]).vars t = false := by
        cases h : tyOk (data.take d) (data[d]).vars t with
        | false => rfl
        | true => rw [ment_of data d _ t h] at hm; cases hm
      simp [this]
theorem datsOk_iff (data : List Dat) : ∀ (l : List Dat) (d : Nat), datsOk data l d = true ↔ ∀ j (h : j < l.length), datOk data (d + j) l[j] = true
  | [], d => by simp [datsOk]
  | D :: l, d => by
    rw [datsOk, Bool.and_eq_true, datsOk_iff data l (d + 1)]
    constructor
    · rintro ⟨h1, h2⟩ j hj
      cases j with
      | zero => exact h1
      | succ j =>
        have := h2 j (by simpa using hj)
        rw [show d + (j + 1) = d + 1 + j by omega]
        simpa using this
    · intro h
      refine ⟨h 0 (by simp), fun j hj => ?_⟩
      have := h (j + 1) (by simpa using hj)
      rw [show d + (j + 1) = d + 1 + j by omega] at this
      simpa using this
theorem data_iff (data : List Dat) : dataOk data = true ↔ RData data := by
  unfold dataOk
  simp only [Bool.and_eq_true, decide_eq_true_eq, datsOk_iff, repeats, Bool.not_not, Nat.zero_add]
  constructor
  · rintro ⟨⟨⟨h1, h2⟩, h3⟩, h4⟩
    refine ⟨h1, fun d hd => ?_, h3, h4⟩
    have := h2 d hd
    simp only [datOk, Bool.and_eq_true, decide_eq_true_eq, List.all_eq_true] at this
    obtain ⟨⟨⟨⟨⟨q1, q2⟩, q3⟩, q4⟩, q5⟩, q6⟩ := this
    refine ⟨q2, q3, q4, q5, q1, fun c hc => ?_⟩
    have := q6 c hc
    simp only [conOk, Bool.and_eq_true, decide_eq_true_eq, List.all_eq_true] at this
    exact ⟨this.1, this.2.1, fun x hx => by rw [← arg_eq data d hd q2 q3 x]; exact this.2.2 x hx⟩
  · rintro ⟨h1, h2, h3, h4⟩
    refine ⟨⟨⟨h1, fun d hd => ?_⟩, h3⟩, h4⟩
    obtain ⟨q2, q3, q4, q5, q1, q6⟩ := h2 d hd
    simp only [datOk, Bool.and_eq_true, decide_eq_true_eq, List.all_eq_true]
    refine ⟨⟨⟨⟨⟨q1, q2⟩, q3⟩, q4⟩, q5⟩, fun c hc => ?_⟩
    obtain ⟨r1, r2, r3⟩ := q6 c hc
    simp only [conOk, Bool.and_eq_true, decide_eq_true_eq, List.all_eq_true]
    exact ⟨r1, r2, fun x hx => by rw [arg_eq data d hd q2 q3 x]; exact r3 x hx⟩
end Go.Proofs.YtfpmdpldabopjaaGreatDoor
