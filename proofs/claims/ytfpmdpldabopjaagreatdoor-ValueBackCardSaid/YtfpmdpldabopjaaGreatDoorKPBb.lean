/- Values read from texts: arrays. -/
import Derived.Test.YtfpmdpldabopjaaGreatDoorKPBa
namespace Go.Proofs.YtfpmdpldabopjaaGreatDoor
open Go Go.Abs
set_option linter.unusedSimpArgs false
set_option linter.unusedVariables false
set_option maxRecDepth 8000
theorem ACalls.ownC {P : Program} {f : FuncId} {args : List AV} {H : Heap} {K : AV → Heap → Prop} {id j : Nat} {cs : List AV} (e size : Nat) (hid : H[id]? = some (.cells cs)) (hj : cs[j]? = some .snil)
    (h : ACalls P f args (H.set id (.cells (cs.set j (.sl [] (.own H.length)))) ++ [.perm e size 0]) K) : ACalls P f args H K := by
  intro B w G vs hH hv
  obtain ⟨G', hE, hH'⟩ := hH.ownCell e size hid hj
  refine (h B w G' vs hH' (hv.mono fun _ _ => hE.trel)).mono fun e' w' hp => ?_
  obtain ⟨v, r, H', G'', h1, h2, h3⟩ := hp
  exact ⟨v, r, H', G'', h1, hE.trans h2, h3⟩
theorem value_array_spec {data : List Dat} (t : VT) (ht : tyValid data 0 t = true) (vks : List VT) (hv : vks.length ≤ 1000000) (hel : ∀ v ∈ vks, RdW data v) (hA : hasA data vks t = true) (h93 : ∀ v ∈ vks, ∀ s b, (wrV data v t ++ s).head? = some b → b ≠ 93)
    (H : Heap) (id : Nat) (tail : List UInt8) (left : Int) (hid : H[id]? = some (vrB data ([91] ++ wrL data vks (List.replicate vks.length t) true ++ [93] ++ tail) left)) (hb : ([91] ++ wrL data vks (List.replicate vks.length t) true ++ [93] ++ tail).length ≤ 1000000000)
    (hlo : (VT.nodesL vks : Int) ≤ left) (hhi : left ≤ 1000000) (K : Kt) (hK : K (.agg (VT.mk 6 0 vks).cs) (H.set id (vrB data tail (left - VT.nodesL vks)))) :
    ACalls Tryz.prog n_value_reader_array [.ptr id 0, .agg t.cs] H K := by
  refine ACalls.out (value_reader_array_ok fun hs => ?_)
  have hl1 := lt_get hid
  obtain ⟨x, y, z, hvx, hx, hy, hz⟩ := vt3' t
  generalize hts : List.replicate vks.length t = ts at *
  have hlt : ts.length = vks.length := by subst hts; simp
  have hti : ∀ (i : Nat) (h : i < ts.length), ts[i] = t := fun i h => by subst hts; simp
  simp only [List.length_append, List.length_cons, List.length_nil] at hb
  have hX : ∀ s l (J : Heap), (H.set id (vrB data s l) ++ J)[id]? = some (vrB data s l) := fun s l J => by simp [List.getElem?_append, hl1]
  have hset : ∀ b b' J, (H.set id b ++ J).set id b' = H.set id b' ++ J := fun b b' J => by rw [List.set_append_left _ _ (by simpa using hl1), List.set_set]
  have hset0 : ∀ b' J, (H ++ J).set id b' = H.set id b' ++ J := fun b' J => List.set_append_left _ _ hl1
  have hdl : ∀ i, i ≤ vks.length → (wrL data (vks.drop i) (ts.drop i) (i == 0)).length ≤ (wrL data vks ts true).length := by
    intro i
    induction i with
    | zero => intro _; simp
    | succ i ih =>
      intro h
      have := ih (by omega)
      rw [List.drop_eq_getElem_cons (by omega : i < vks.length), List.drop_eq_getElem_cons (by omega : i < ts.length)] at this
      simp only [wrL, List.length_append] at this
      have e : (i + 1 == 0) = false := by simp
      rw [e]
      omega
  have hV : ∀ (i : Nat) (hi : i < vks.length) (J : Heap) (K' : Kt), K' (.agg (vks[i]).cs) (H.set id (vrB data (wrL data (vks.drop (i + 1)) (ts.drop (i + 1)) false ++ ([93] ++ tail)) (left - VT.nodesL (vks.take (i + 1)))) ++ J) →
      ACalls Tryz.prog n_value_reader_value [.ptr id 0, .agg t.cs] (H.set id (vrB data (wrV data vks[i] t ++ (wrL data (vks.drop (i + 1)) (ts.drop (i + 1)) false ++ ([93] ++ tail))) (left - VT.nodesL (vks.take i))) ++ J) K' := by
    intro i hi J K' hK'
    have hn1 := VT.nodesL_take hi
    have hn2 := VT.nodesL_take_le vks (i + 1)
    have hd := hdl i (by omega)
    rw [List.drop_eq_getElem_cons hi, List.drop_eq_getElem_cons (by omega : i < ts.length)] at hd
    simp only [wrL, List.length_append, hti] at hd
    refine hel _ (List.getElem_mem hi) t ht (hasA_at hA _ (List.getElem_mem hi)) _ id _ _ (hX _ _ _) (by simp; omega) (by omega) (by omega) ?_ _ ?_
    · intro b hb
      cases hvd : vks.drop (i + 1) with
      | nil => rw [hvd] at hb; simp [wrL] at hb; subst hb; decide
      | cons v vs' =>
        cases htd : ts.drop (i + 1) with
        | nil => rw [hvd, htd] at hb; simp [wrL] at hb; subst hb; decide
        | cons t ts' => rw [hvd, htd] at hb; simp [wrL] at hb; subst hb; decide
    · rw [hset]
      have hle : left - (VT.nodesL (vks.take i) : Int) - ((vks[i]).nodes : Int) = left - (VT.nodesL (vks.take (i + 1)) : Int) := by omega
      rw [hle]
      exact hK'
  have hc3 : ∀ v : VT, v.cs.length = 3 := fun v => by cases v; rfl
  have hcl : ∀ i, i ≤ vks.length → (VT.css (vks.take i)).length = i := fun i h => by rw [VT.css_map]; simp; omega
  have hscA : ∀ s l i, HSc (H.set id (vrB data s l) ++ [.cells [x, y, z], .cells [.int .i64 0, .int .i64 0, .snil], .cells [.int .i64 6, .int .i64 0, .sl (VT.css (vks.take i)) (.own (H.length + 3))], .perm e_api_Value 3 i]) := fun s l i => (hs.set (vrB_sc _ _ _ _)).append (by
    have := vt3' t
    obtain ⟨k, n, ks⟩ := t
    simp [VT.cs] at hvx
    obtain ⟨rfl, rfl, rfl⟩ := hvx
    simp [AB.sc, AV.scA, AV.scB])
  simp [value_reader_array, hvx, aBuild, fillA, AV.known, Nat.add_assoc]
  refine ACalls.ownC (id := H.length + 2) (j := 2) (cs := [.int .i64 6, .int .i64 0, .snil]) e_api_Value 3 (by simp [List.set_append, List.getElem?_append]) rfl ?_
  simp [List.set_append]
  refine expect_yes (data := data) (left := left) [91] (wrL data vks ts true ++ ([93] ++ tail)) (by simp; omega) (by simp [List.getElem?_append, hl1]; have := (List.getElem?_eq_some_iff.1 hid).2; simpa using this) _ ?_
  simp only [hset0]
  by_cases hz0 : vks.length = 0
  · obtain rfl : vks = [] := List.eq_nil_of_length_eq_zero hz0
    simp [wrL]
    refine accept_yes (data := data) (left := left) [93] tail (by simp; omega) (hX _ _ _) _ ?_
    simp [hset, AV.known, List.getElem?_append, List.set_append]
    simp [VT.nodesL] at hK
    exact Out.at (H2 := H.set id (vrB data tail left)) (b := .agg [.int .i64 6, .int .i64 0, .sl (VT.css []) .none]) rfl (by simp) (hs.set (vrB_sc _ _ _ _)) (.agg ⟨.refl _, .refl _, .sl _ _, trivial⟩) rfl (by simp [AV.scV, AV.scA, AV.scB]) (by simpa [VT.cs] using hK)
  · have h0 : 0 < vks.length := by omega
    have hw : wrL data vks ts true = wrV data vks[0] t ++ wrL data (vks.drop 1) (ts.drop 1) false := by
      have := hti 0 (by omega)
      conv => lhs; rw [← List.drop_zero (l := vks), ← List.drop_zero (l := ts), List.drop_eq_getElem_cons h0, List.drop_eq_getElem_cons (by omega : 0 < ts.length)]
      simp [wrL, this]
    rw [hw, List.append_assoc]
    have hll : (wrV data vks[0] t ++ (wrL data (vks.drop 1) (ts.drop 1) false ++ ([93] ++ tail))).length ≤ 1000000000 := by
      rw [hw] at hb; simp at hb ⊢; omega
    refine accept_no (data := data) (left := left) [93] _ hll (by simp) ?_ (hX _ _ _) _ ?_
    · rintro ⟨r, hr⟩
      exact h93 _ (List.getElem_mem h0) _ 93 (by rw [← hr]; rfl) rfl
    have hst : ∀ (i : Nat) (hi : i < vks.length) (C : Heap → Prop), C (H.set id (vrB data (wrL data (vks.drop (i + 1)) (ts.drop (i + 1)) false ++ ([93] ++ tail)) (left - VT.nodesL (vks.take (i + 1)))) ++ [.cells [x, y, z], .cells [.int .i64 0, .int .i64 0, .snil], .cells [.int .i64 6, .int .i64 0, .sl (VT.css (vks.take (i + 1))) (.own (H.length + 3))], .perm e_api_Value 3 (i + 1)]) →
        (ACalls Tryz.prog n_value_reader_value [.ptr id 0, .agg [x, y, z]] (H.set id (vrB data (wrV data vks[i] t ++ (wrL data (vks.drop (i + 1)) (ts.drop (i + 1)) false ++ ([93] ++ tail))) (left - VT.nodesL (vks.take i))) ++ [.cells [x, y, z], .cells [.int .i64 0, .int .i64 0, .snil], .cells [.int .i64 6, .int .i64 0, .sl (VT.css (vks.take i)) (.own (H.length + 3))], .perm e_api_Value 3 i]) fun t16 H_1 =>
          aBuildS 3 [.int .i64 0, .int .i64 0, .snil] 1 [(0, t16)] fun t17 => aAppend e_api_Value 3 40 (.sl (VT.css (vks.take i)) (.own (H.length + 3))) t17 H_1 fun t18 H_2 => aStoreB 1 2 (H.length + 2) t18.cs? H_2[H.length + 2]? H_2 C) ∧
        (ACalls Tryz.prog n_value_reader_value [.ptr id 0, .agg [x, y, z]] (H.set id (vrB data (wrV data vks[i] t ++ (wrL data (vks.drop (i + 1)) (ts.drop (i + 1)) false ++ ([93] ++ tail))) (left - VT.nodesL (vks.take i))) ++ [.cells [x, y, z], .cells [.int .i64 0, .int .i64 0, .snil], .cells [.int .i64 6, .int .i64 0, .sl (VT.css (vks.take i)) (.own (H.length + 3))], .perm e_api_Value 3 i]) fun t16 H_1 =>
          (aLoadB false 1 2 H_1[H.length + 2]? fun t13 => aBuildS 3 [.int .i64 0, .int .i64 0, .snil] 1 [(0, t16)] fun t17 => aAppend e_api_Value 3 40 t13 t17 H_1 fun t18 H_2 => aStoreB 1 2 (H.length + 2) t18.cs? H_2[H.length + 2]? H_2 C) ∧
          aBuildS 3 [.int .i64 0, .int .i64 0, .snil] 1 [(0, t16)] fun t17 => aLoadB false 1 2 H_1[H.length + 2]? fun t13 => aAppend e_api_Value 3 40 t13 t17 H_1 fun t18 H_2 => aStoreB 1 2 (H.length + 2) t18.cs? H_2[H.length + 2]? H_2 C) := by
      intro i hi C hC
      have hci := hcl i (by omega)
      rw [css_take_succ hi] at hC
      rw [← hvx] at hC ⊢
      have hgo : ((i + 1) * 40 ≤ 140737488355328 ∧ i ≤ 9223372036854775806) := ⟨by omega, by omega⟩
      refine ⟨hV i hi _ _ ?_, hV i hi _ _ ⟨?_, ?_⟩⟩
      · rw [buildS_vt]
        simp [aAppend, aSrc, aAppTo, hci, hc3, List.set_append, List.getElem?_append, show ¬ H.length + 3 < H.length by omega, show ¬ H.length + 2 < H.length by omega]
        exact ⟨hgo, by simpa using hC⟩
      · simp [List.getElem?_append]
        rw [buildS_vt]
        simp [aAppend, aSrc, aAppTo, hci, hc3, List.set_append, List.getElem?_append, show ¬ H.length + 3 < H.length by omega, show ¬ H.length + 2 < H.length by omega]
        exact ⟨hgo, by simpa using hC⟩
      · rw [buildS_vt]
        simp [aAppend, aSrc, aAppTo, hci, hc3, List.set_append, List.getElem?_append, show ¬ H.length + 3 < H.length by omega, show ¬ H.length + 2 < H.length by omega]
        exact ⟨hgo, by simpa using hC⟩
    have hloop : value_reader_array_l6 (.ptr id 0) (.ptr H.length 0) (.ptr (H.length + 1) 0) (.ptr (H.length + 2) 0) (H.set id (vrB data (wrL data (vks.drop 1) (ts.drop 1) false ++ ([93] ++ tail)) (left - VT.nodesL (vks.take 1))) ++ [.cells [x, y, z], .cells [.int .i64 0, .int .i64 0, .snil], .cells [.int .i64 6, .int .i64 0, .sl (VT.css (vks.take 1)) (.own (H.length + 3))], .perm e_api_Value 3 1]) (Out H.length K) := by
      refine value_reader_array_loop6 (Inv := fun q H' => ∃ (i : Nat), 1 ≤ i ∧ i ≤ vks.length ∧ q = vks.length - i ∧
        H' = H.set id (vrB data (wrL data (vks.drop i) (ts.drop i) false ++ ([93] ++ tail)) (left - VT.nodesL (vks.take i))) ++ [.cells [x, y, z], .cells [.int .i64 0, .int .i64 0, .snil], .cells [.int .i64 6, .int .i64 0, .sl (VT.css (vks.take i)) (.own (H.length + 3))], .perm e_api_Value 3 i]) (vks.length - 1) ?_ ?_
      · intro _; exact ⟨1, by omega, by omega, rfl, rfl⟩
      · rintro q H' ⟨i, hi1, hi, rfl, rfl⟩ hsc' hlen hsF Kb hKb
        have hd := hdl i hi
        have e0 : (i == 0) = false := by simp; omega
        rw [e0] at hd
        by_cases hlti : i < vks.length
        · rw [List.drop_eq_getElem_cons hlti, List.drop_eq_getElem_cons (by omega : i < ts.length)] at hd ⊢
          simp only [wrL, hti, Bool.false_eq_true, if_false, List.append_assoc, List.length_append] at hd ⊢
          simp only [value_reader_array_b6]
          refine accept_yes (data := data) (left := left - VT.nodesL (vks.take i)) [44, 32] (wrV data vks[i] t ++ (wrL data (vks.drop (i + 1)) (ts.drop (i + 1)) false ++ ([93] ++ tail))) (by simp at hd ⊢; omega) (hX _ _ _) _ ?_
          rw [hset]
          have h1 := hst i hlti (fun X => value_reader_array_j2 (.ptr id 0) (.ptr H.length 0) (.ptr (H.length + 1) 0) (.ptr (H.length + 2) 0) X (Out H.length K) Kb) (by
            simp only [value_reader_array_j2]
            refine hKb _ _ ⟨vks.length - (i + 1), by omega, Back.here (by simp) (hscA _ _ _) ?_ ⟨rfl, i + 1, by omega, by omega, rfl, rfl⟩⟩
            simp [value_reader_array_fr6, AV.sc, AV.scV, AV.scA, AV.scB]
            try omega)
          simp [hX, List.getElem?_append, List.set_append]
          simpa using h1
        · obtain rfl : i = vks.length := by omega
          have e1 : vks.drop vks.length = [] := List.drop_length
          have e2 : vks.take vks.length = vks := List.take_length
          rw [e1, e2]
          simp only [wrL, List.nil_append, value_reader_array_b6]
          refine accept_no (data := data) (left := left - VT.nodesL vks) [44, 32] _ (by simp; omega) (by simp) ?_ (hX _ _ _) _ ?_
          · rintro ⟨r, hr⟩
            have := congrArg List.head? hr
            simp at this
          simp
          refine expect_yes (data := data) (left := left - VT.nodesL vks) [93] tail (by simp; omega) (hX _ _ _) _ ?_
          rw [hset]
          simp [AV.known, List.getElem?_append, List.set_append]
          exact Out.at (H2 := H.set id (vrB data tail (left - VT.nodesL vks))) (b := .agg [.int .i64 6, .int .i64 0, .sl (VT.css vks) .none]) rfl (by simp) (hs.set (vrB_sc _ _ _ _)) (.agg ⟨.refl _, .refl _, .sl _ _, trivial⟩) rfl (by simp [AV.scV, AV.scA, AV.scB]) (by simpa [VT.cs] using hK)
    have h1 := hst 0 h0 (fun X => value_reader_array_j1 (.ptr id 0) (.ptr H.length 0) (.ptr (H.length + 1) 0) (.ptr (H.length + 2) 0) X (Out H.length K)) hloop
    simp [hX, List.getElem?_append, List.set_append]
    simpa [VT.css, VT.nodesL] using h1
end Go.Proofs.YtfpmdpldabopjaaGreatDoor
namespace Go.Proofs.YtfpmdpldabopjaaGreatDoor
open Go Go.Abs
set_option linter.unusedSimpArgs false
set_option linter.unusedVariables false
set_option maxRecDepth 8000
theorem wrV_93 {data : List Dat} (hD : dataOk data = true) {v t : VT} (ht : tyOk data 0 t = true) (hh : hasV data v t = true) : ∀ s b, (wrV data v t ++ s).head? = some b → b ≠ 93 := by
  obtain ⟨vk, vn, vks⟩ := v
  obtain ⟨k, n, ks⟩ := t
  intro s b hb
  rw [wrV_mk] at hb
  rw [hasV] at hh
  rcases ty_kinds ht with ⟨rfl, rfl⟩ | ⟨rfl, rfl⟩ | ⟨rfl, rfl⟩ | rfl | ⟨rfl, hk⟩ | ⟨rfl, hk⟩ | ⟨rfl, hk⟩ | ⟨rfl, hk⟩
  · simp at hh hb
    unfold Lib.itoa at hb
    split at hb
    · simp at hb; subst hb; decide
    · obtain ⟨k1, k2, k3⟩ := decDigits_spec _ vn.toNat (Nat.le_refl _) (by omega)
      obtain ⟨c, r, hcr⟩ := List.exists_cons_of_ne_nil k1
      have := k2 c (by rw [hcr]; simp)
      rw [hcr] at hb
      simp at hb
      subst hb
      rintro rfl
      revert this; decide
  · simp at hb
    split at hb <;> (simp at hb; subst hb; decide)
  · simp at hb; subst hb; decide
  · simp at hh hb
    cases hf : fields data (.mk 5 n ks) vn with
    | none => rw [hf, hasL?_none] at hh; exact absurd hh.2 (by simp)
    | some ts =>
      obtain ⟨_, n0, c0, hn1, hc1, _⟩ := fields_some hf
      have hcn := con_name hD hn1 hc1
      have hnm : conName data (.mk 5 n ks) vn = ((data[n.toNat]).cons[vn.toNat]).name := by simp [conName, VT.num, hn1, hc1]
      rw [hnm] at hb
      obtain ⟨c, r, hcr⟩ := List.exists_cons_of_ne_nil hcn.1
      have := hcn.2 c (by rw [hcr]; simp)
      rw [hcr] at hb
      simp at hb
      subst hb
      rintro rfl
      revert this; decide
  · simp at hb; subst hb; decide
  · simp at hb; subst hb; decide
  · simp at hb; subst hb; decide
  · simp at hb; subst hb; decide
theorem value_value_spec {data : List Dat} (hk : KData data) (hD : dataOk data = true) : ∀ (m : Nat) (v : VT), v.nodes ≤ m → v.nodes ≤ 10000 → RdW data v := by
  intro m
  induction m with
  | zero => intro v h; have := v.nodes_pos; omega
  | succ m ih =>
    intro v hm hbn t ht hh H id tail left hid hb hlo hhi hst K hK
    obtain ⟨vk, vn, vks⟩ := v
    obtain ⟨k, n, ks⟩ := t
    refine ACalls.out (value_reader_value_ok fun hs => ?_)
    have hl1 := lt_get hid
    rw [wrV_mk] at hid hb
    have hll := VT.len_le vks
    have hnn : (VT.mk vk vn vks).nodes = VT.nodesL vks + 1 := by simp [VT.nodes]
    have hkids : ∀ x ∈ vks, RdW data x := fun x hx => ih x (by have := kids_lt (k := vk) (n := vn) x hx; omega) (by have := kids_le (k := vk) (n := vn) x hx; omega)
    have htk := tyValid_kids ht
    have hto : tyOk data 0 (.mk k n ks) = true := by rw [tyValid, Bool.and_eq_true] at ht; exact ht.2
    have hh0 := hh
    rw [hasV] at hh
    have hX : ∀ s l (J : Heap), (H.set id (vrB data s l) ++ J)[id]? = some (vrB data s l) := fun s l J => by simp [List.getElem?_append, hl1]
    have hset : ∀ b b' J, (H.set id b ++ J).set id b' = H.set id b' ++ J := fun b b' J => by rw [List.set_append_left _ _ (by simpa using hl1), List.set_set]
    have hset0 : ∀ b' J, (H ++ J).set id b' = H.set id b' ++ J := fun b' J => List.set_append_left _ _ hl1
    have hw : IntKind.i64.wrap (left - 1) = left - 1 := wrap_in (by omega) (by omega)
    have hneg : ¬ left - 1 < 0 := by omega
    generalize htx : (if k = 1 then Lib.itoa vn
      else if k = 2 then (if vn = 1 then [116, 114, 117, 101] else [102, 97, 108, 115, 101])
      else if k = 3 then [40, 41]
      else if k = 6 then [40] ++ wrL data vks ks true ++ [41]
      else if k = 5 then conName data (.mk k n ks) vn ++ (if vks.length = 0 then [] else match fields data (.mk k n ks) vn with
        | some ts => [40] ++ wrL data vks ts true ++ [41]
        | none => [])
      else if k = 7 then [91] ++ wrL data vks (List.replicate vks.length (ks.getD 0 (.mk 0 0 []))) true ++ [93]
      else if k = 8 then [114, 101, 102, 40] ++ wrL data vks ks true ++ [41]
      else [102, 110, 35] ++ Lib.itoa vn : List UInt8) = tx at *
    have h0 : ∀ J : Heap, (H ++ J)[id]? = some (.cells [.sl (data.map Dat.cs) .none, .str (tx ++ tail), .int .i64 left, .bool false]) := fun J => by rw [List.getElem?_append_left hl1]; exact hid
    have hidE : H[id]'hl1 = .cells [.sl (data.map Dat.cs) .none, .str (tx ++ tail), .int .i64 left, .bool false] := (List.getElem?_eq_some_iff.1 hid).2
    have hX' : ∀ s l (J : Heap), (H.set id (.cells [.sl (data.map Dat.cs) .none, .str s, .int .i64 l, .bool false]) ++ J)[id]? = some (.cells [.sl (data.map Dat.cs) .none, .str s, .int .i64 l, .bool false]) := hX
    have hO : ∀ (cs : List AV) (J : Heap), WkV (.agg cs) (.agg (VT.mk vk vn vks).cs) → Out H.length K (.agg cs) (H.set id (vrB data tail (left - 1 - VT.nodesL vks)) ++ J) := fun cs J hw => by
      have e : left - ((VT.mk vk vn vks).nodes : Int) = left - 1 - VT.nodesL vks := by rw [hnn]; omega
      rw [e] at hK
      exact Out.at rfl (by simp) (hs.set (vrB_sc _ _ _ _)) hw rfl (by simp [VT.cs, AV.scV, AV.scA, AV.scB]) hK
    simp [value_reader_value, VT.cs, h0, hidE, List.set_append, hset0, hX', hw, hneg, AV.known, Nat.add_assoc, List.getElem?_append, hl1, show id < H.length + 1 by omega]
    rcases ty_kinds hto with ⟨rfl, rfl⟩ | ⟨rfl, rfl⟩ | ⟨rfl, rfl⟩ | rfl | ⟨rfl, hk1⟩ | ⟨rfl, hk1⟩ | ⟨rfl, hk1⟩ | ⟨rfl, hk1⟩
    · simp at hh htx
      obtain ⟨⟨⟨rfl, g1⟩, g2⟩, rfl⟩ := hh
      subst htx
      simp
      refine number_spec (data := data) (left := left - 1) vn g1 g2 tail hst hb (hX _ _ _) _ ?_
      simp [aBuild, fillA, AV.known, hset, List.getElem?_append, List.set_append, hl1]
      have := hO [.int .i64 3, .int .i64 vn, .snil] [.cells [.int .i64 1, .int .i64 n, .sl (VT.css []) .none], .cells [.int .i64 3, .int .i64 vn, .snil]] (.agg ⟨.refl _, .refl _, .snil, trivial⟩)
      simpa [VT.nodesL] using this
    · simp at hh htx
      obtain ⟨⟨rfl, g1⟩, rfl⟩ := hh
      simp
      rcases g1 with rfl | rfl
      · simp at htx
        subst htx
        refine accept_no (data := data) (left := left - 1) [116, 114, 117, 101] _ hb (by simp) (by rintro ⟨r, hr⟩; have := congrArg List.head? hr; simp at this) (hX _ _ _) _ ?_
        simp
        refine expect_yes (data := data) (left := left - 1) [102, 97, 108, 115, 101] tail hb (hX _ _ _) _ ?_
        simp [aBuild, fillA, AV.known, hset, List.getElem?_append, List.set_append, hl1]
        have := hO [.int .i64 2, .int .i64 0, .snil] [.cells [.int .i64 2, .int .i64 n, .sl (VT.css []) .none], .cells [.int .i64 2, .int .i64 0, .snil]] (.agg ⟨.refl _, .refl _, .snil, trivial⟩)
        simpa [VT.nodesL] using this
      · simp at htx
        subst htx
        refine accept_yes (data := data) (left := left - 1) [116, 114, 117, 101] tail hb (hX _ _ _) _ ?_
        simp [aBuild, fillA, AV.known, hset, List.getElem?_append, List.set_append, hl1]
        have := hO [.int .i64 2, .int .i64 1, .snil] [.cells [.int .i64 2, .int .i64 n, .sl (VT.css []) .none], .cells [.int .i64 2, .int .i64 1, .snil]] (.agg ⟨.refl _, .refl _, .snil, trivial⟩)
        simpa [VT.nodesL] using this
    · simp at hh htx
      obtain ⟨⟨rfl, rfl⟩, rfl⟩ := hh
      subst htx
      simp
      refine expect_yes (data := data) (left := left - 1) [40, 41] tail hb (hX _ _ _) _ ?_
      simp [aBuild, fillA, AV.known, hset, List.getElem?_append, List.set_append, hl1]
      have := hO [.int .i64 1, .int .i64 0, .snil] [.cells [.int .i64 3, .int .i64 n, .sl (VT.css []) .none], .cells [.int .i64 1, .int .i64 0, .snil]] (.agg ⟨.refl _, .refl _, .snil, trivial⟩)
      simpa [VT.nodesL] using this
    · simp at hh htx
      obtain ⟨⟨⟨rfl, g1⟩, g2⟩, hL⟩ := hh
      cases hf : fields data (.mk 5 n ks) vn with
      | none => rw [hf, hasL?_none] at hL; cases hL
      | some ts =>
        rw [hf, hasL?_some] at hL
        rw [hf] at htx
        simp
        have hT' : (VT.mk 5 n ks).cs = [.int .i64 5, .int .i64 n, .sl (VT.css ks) .none] := rfl
        rw [← hT']
        refine value_cons_spec hk hD n ks ht vn vks (by omega) hkids ts hf hL _ id tail (left - 1) ?_ ?_ (by omega) (by omega) hst _ ?_
        · have e : conName data (.mk 5 n ks) vn ++ ((if vks.length = 0 then [] else [40] ++ wrL data vks ts true ++ [41]) ++ tail) = tx ++ tail := by
            rw [← htx]; by_cases hz : vks = [] <;> simp [hz]
          rw [e]
          exact hX _ _ _
        · have e : conName data (.mk 5 n ks) vn ++ ((if vks.length = 0 then [] else [40] ++ wrL data vks ts true ++ [41]) ++ tail) = tx ++ tail := by
            rw [← htx]; by_cases hz : vks = [] <;> simp [hz]
          rw [e]
          exact hb
        · rw [show (AB.cells [.sl (data.map Dat.cs) .none, .str (tx ++ tail), .int .i64 (left - 1), .bool false]) = vrB data (tx ++ tail) (left - 1) from rfl, hset]
          simp [VT.cs, AV.known, List.getElem?_append, List.set_append]
          exact hO [.int .i64 5, .int .i64 vn, .sl (VT.css vks) .none] _ .rfl'
    · simp at hh htx
      obtain ⟨⟨rfl, rfl⟩, hL⟩ := hh
      simp
      refine value_list_spec vks (by omega) hkids ks (hasL_len hL) htk (fun i h1 h2 => hasL_at hL i h1 h2) _ id tail (left - 1) ?_ ?_ (by omega) (by omega) _ ?_
      · have e : [40] ++ wrL data vks ks true ++ [41] ++ tail = tx ++ tail := by rw [← htx]; simp
        rw [e]
        exact hX _ _ _
      · rw [← htx] at hb; simpa using hb
      · rw [show (AB.cells [.sl (data.map Dat.cs) .none, .str (tx ++ tail), .int .i64 (left - 1), .bool false]) = vrB data (tx ++ tail) (left - 1) from rfl, hset]
        simp [aBuild, fillA, AV.known, hset, List.getElem?_append, List.set_append, hl1]
        exact hO [.int .i64 4, .int .i64 0, .sl (VT.css vks) .none] _ .rfl'
    · simp at hh htx
      obtain ⟨⟨⟨rfl, rfl⟩, g1⟩, hA⟩ := hh
      obtain ⟨t1, rfl⟩ : ∃ t1, ks = [t1] := by match ks, hk1 with | [t1], _ => exact ⟨t1, rfl⟩
      obtain ⟨x, y, z, hvx, hx, hy, hz⟩ := vt3' t1
      simp at hA htx
      have ht1 := htk t1 (by simp)
      have hto1 : tyOk data 0 t1 = true := by obtain ⟨a, b, c⟩ := t1; rw [tyValid, Bool.and_eq_true] at ht1; exact ht1.2
      simp [VT.css, hvx, hx, hy, hz]
      rw [← hvx]
      refine value_array_spec t1 ht1 vks (by omega) hkids hA (fun v hv => wrV_93 hD hto1 (hasA_at hA v hv)) _ id tail (left - 1) ?_ ?_ (by omega) (by omega) _ ?_
      · have e : [91] ++ wrL data vks (List.replicate vks.length t1) true ++ [93] ++ tail = tx ++ tail := by rw [← htx]; simp
        rw [e]
        exact hX _ _ _
      · rw [← htx] at hb; simpa using hb
      · rw [show (AB.cells [.sl (data.map Dat.cs) .none, .str (tx ++ tail), .int .i64 (left - 1), .bool false]) = vrB data (tx ++ tail) (left - 1) from rfl, hset]
        simp [VT.cs, AV.known, List.getElem?_append, List.set_append]
        exact hO [.int .i64 6, .int .i64 0, .sl (VT.css vks) .none] _ .rfl'
    · simp at hh htx
      obtain ⟨⟨rfl, rfl⟩, hL⟩ := hh
      simp
      have e : tx ++ tail = [114, 101, 102] ++ ([40] ++ wrL data vks ks true ++ [41] ++ tail) := by rw [← htx]; simp
      rw [e] at hb ⊢
      refine expect_yes (data := data) (left := left - 1) [114, 101, 102] _ hb (hX _ _ _) _ ?_
      rw [hset]
      simp only [List.getElem?_append, List.length_set]
      simp
      refine value_list_spec vks (by omega) hkids ks (hasL_len hL) htk (fun i h1 h2 => hasL_at hL i h1 h2) _ id tail (left - 1) ?_ ?_ (by omega) (by omega) _ ?_
      · have := hX ([40] ++ wrL data vks ks true ++ [41] ++ tail) (left - 1) [.cells [.int .i64 8, .int .i64 n, .sl (VT.css ks) .none], .cells [.int .i64 0, .int .i64 0, .snil]]
        simpa using this
      · simp at hb ⊢; omega
      · simp [aBuild, fillA, AV.known, hset, List.getElem?_append, List.set_append, hl1]
        exact hO [.int .i64 7, .int .i64 0, .sl (VT.css vks) .none] _ .rfl'
    · simp at hh htx
      obtain ⟨⟨⟨rfl, g1⟩, g2⟩, rfl⟩ := hh
      simp
      have e : tx ++ tail = [102, 110, 35] ++ (Lib.itoa vn ++ tail) := by rw [← htx]; simp
      rw [e] at hb ⊢
      refine expect_yes (data := data) (left := left - 1) [102, 110, 35] _ hb (hX _ _ _) _ ?_
      rw [hset]
      refine number_spec (data := data) (left := left - 1) vn (by omega) (by omega) tail hst (by simp at hb ⊢; omega) (hX _ _ _) _ ?_
      simp [aBuild, fillA, AV.known, hset, List.getElem?_append, List.set_append, hl1]
      have := hO [.int .i64 8, .int .i64 vn, .snil] [.cells [.int .i64 9, .int .i64 n, .sl (VT.css ks) .none], .cells [.int .i64 8, .int .i64 vn, .snil]] (.agg ⟨.refl _, .refl _, .snil, trivial⟩)
      simpa [VT.nodesL] using this
end Go.Proofs.YtfpmdpldabopjaaGreatDoor
namespace Go.Proofs.YtfpmdpldabopjaaGreatDoor
open Go Go.Abs
set_option linter.unusedSimpArgs false
set_option linter.unusedVariables false
set_option maxRecDepth 8000
theorem value_Parse_back (data : List Dat) (hk : KData data) (v t : VT) (hv : v.nodes ≤ 5000) (ht : t.nodes ≤ 1000000) (hd : hasT data v t = true) (H : Heap) {k : Nat} (hf : H[k]? = some (.fact LF)) (K : Kt) (hK : K (.tup [.agg v.cs, .bool true]) H) :
    ACalls Tryz.prog n_value_Parse [.sl (data.map Dat.cs) .none, .agg t.cs, .str (wrV data v t)] H K := by
  refine ACalls.out (value_Parse_ok fun hs => ?_)
  obtain ⟨hDk, hty, hhv⟩ := hasT_ok hk hd
  have hD := hDk.ok
  obtain ⟨x, y, z, hvx, hx, hy, hz⟩ := vt3' t
  obtain ⟨x2, y2, z2, hvx2, hx2, hy2, hz2⟩ := vt3' v
  have hfb := wrV_bound hk v t hhv
  have hfine : fineV data t = true := by simp [fineV, hD, hty]
  simp [value_Parse, hvx, hvx2, Nat.add_assoc]
  rw [← hvx]
  refine value_known_spec data hDk.small (by have := hk.1; omega) t ht ?_
  rw [hfine]
  simp [aBuild, fillA, AV.known, hvx, hx, hy, hz, List.getElem?_append, Nat.add_assoc]
  rw [← hvx]
  refine value_value_spec hk hD _ v (Nat.le_refl _) (by omega) t hty hhv _ (H.length + 2) [] 5000 (by simp [vrB]) (by simp; omega) (by omega) (by omega) (by intro b hb; cases hb) _ ?_
  simp [vrB, hvx2, hx2, hy2, hz2, hx, hy, hz, List.getElem?_append, List.set_append, Nat.add_assoc]
  rw [← hvx2]
  refine value_Format_spec data hk v t hv ht _ (k := k) (app_get hf) _ ?_
  have hfi : fmtT data v t = wrV data v t := by simp [fmtT, hd]
  rw [hfi]
  simp [hvx2, hx2, hy2, hz2, List.getElem?_append, List.set_append, Nat.add_assoc]
  rw [← hvx2]
  have hvc : (AV.agg v.cs).scV H.length = true := by obtain ⟨n, ks⟩ := v; simp [VT.cs, AV.scV, AV.scA, AV.scB]
  refine ⟨⟨rfl, rfl⟩, ?_⟩
  exact Out.tup (bs := [.agg v.cs, .bool true]) hs hK ⟨keepV rfl hvc, keepV rfl rfl, trivial⟩
theorem ValueBack_spec (data : List Dat) (hlen : data.length ≤ 9223372036854775807) (v t : VT) (H : Heap) (K : Kt) (hf : H[0]? = some (.fact LF)) (hK : K (.bool true) H) :
    ACalls Tryz.prog n_law10_ValueBack [.sl (data.map Dat.cs) .none, .agg v.cs, .agg t.cs] H K := by
  refine ACalls.out (law10_ValueBack_ok fun hs => ?_)
  have hO : ∀ J, Out H.length K (.bool true) (H ++ J) := fun J => Out.bool rfl (Nat.le_refl _) hs hK
  obtain ⟨x, y, z, hvx, hx, hy, hz⟩ := vt3' v
  obtain ⟨x2, y2, z2, hvx2, hx2, hy2, hz2⟩ := vt3' t
  simp [law10_ValueBack, hvx, hvx2, Nat.add_assoc]
  refine keep_Data_spec data _ _ hlen fun b1 hb1 => ?_
  cases b1 with
  | false =>
    simp
    exact hO _
  | true =>
    simp [Nat.add_assoc]
    rw [← hvx]
    refine keep_Value_spec v _ _ fun b2 hb2 => ?_
    cases b2 with
    | false =>
      simp
      exact hO _
    | true =>
      simp [Nat.add_assoc]
      rw [← hvx2]
      refine keep_Type_spec t _ _ fun b3 hb3 => ?_
      cases b3 with
      | false =>
        simp
        exact hO _
      | true =>
        have hk := hb1 rfl
        have hv := hb2 rfl
        have ht := hb3 rfl
        simp [hvx, hvx2, Nat.add_assoc]
        rw [← hvx, ← hvx2]
        refine ref10_HasType_spec data hk v t (by omega) (by omega) _ _ ?_
        cases hd : hasT data v t with
        | false =>
          simp
          exact hO _
        | true =>
          simp [hvx, hvx2, Nat.add_assoc]
          rw [← hvx, ← hvx2]
          refine aPureX_call (.str (fmtT data v t)) (fun J => value_Format_spec data hk v t (by omega) (by omega) _ (app_get (app_get hf)) _ ⟨rfl, rfl⟩) ?_
          have hfi : fmtT data v t = wrV data v t := by simp [fmtT, hd]
          rw [hfi]
          refine aPureX_call (.tup [.agg v.cs, .bool true]) (fun J => value_Parse_back data hk v t (by omega) (by omega) hd _ (app_get (app_get hf)) _ ⟨rfl, rfl⟩) ?_
          simp [hvx, hx, hy, hz, Nat.add_assoc]
          rw [← hvx]
          refine keep_Same_spec _ v (Nat.le_refl _) (by omega) _ _ ?_
          try simp
          refine awake_spec _ _ ?_
          try simp
          exact hO _
end Go.Proofs.YtfpmdpldabopjaaGreatDoor
