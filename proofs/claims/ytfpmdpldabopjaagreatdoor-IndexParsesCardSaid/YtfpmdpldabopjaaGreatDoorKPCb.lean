/- Indices read from any text: the reader's leaves and rows. -/
import Derived.Test.YtfpmdpldabopjaaGreatDoorKPAa
import Derived.Test.YtfpmdpldabopjaaGreatDoorKSC
import Derived.Test.YtfpmdpldabopjaaGreatDoorKPAb
namespace Go.Proofs.YtfpmdpldabopjaaGreatDoor
open Go Go.Abs
set_option linter.unusedSimpArgs false
set_option linter.unusedVariables false
set_option maxRecDepth 8000
theorem rdF_sc (data : List Dat) (s : List UInt8) (b : Bool) (n : Nat) : (rdF data s b).sc n = true := by simp [rdF, AB.sc, AV.scA, AV.scB]
theorem set_same {H : Heap} {id : Nat} {x : AB} (h : H[id]? = some x) : H.set id x = H := by
  obtain ⟨h1, h2⟩ := List.getElem?_eq_some_iff.1 h
  rw [← h2]
  exact List.set_getElem_self h1
theorem take_any {data : List Dat} {fl : Bool} (p s : List UInt8) (hs : s.length ≤ 1000000000) (hp : p.length ≤ 1000000000) {H : Heap} {id : Nat} (hid : H[id]? = some (rdF data s fl)) (K : Kt)
    (h1 : ∀ t, s = p ++ t → K (.bool true) (H.set id (rdF data t fl))) (h2 : ¬ p <+: s → K (.bool false) H) : ACalls Tryz.prog n_zq118 [.ptr id 0, .str p] H K := by
  refine zq118_ok fun hsc => ?_
  have h0 : H[id]? = some (.cells [.sl (data.map Dat.cs) .none, .str s, .bool fl]) := hid
  by_cases hps : p <+: s
  · obtain ⟨t, rfl⟩ := hps
    simp [zq118, h0]
    refine CutPrefix_yes p t hs _ _ ?_
    simp [h0, AV.known, zq118_j1]
    exact h1 t rfl
  · simp [zq118, h0]
    refine CutPrefix_no p s hs hp hps _ _ ?_
    simp [zq118_j1]
    exact h2 hps
theorem need_any {data : List Dat} {fl : Bool} (p s : List UInt8) (hs : s.length ≤ 1000000000) (hp : p.length ≤ 1000000000) {H : Heap} {id : Nat} (hid : H[id]? = some (rdF data s fl)) (K : Kt)
    (hK : ∀ t b, t.length ≤ s.length → (b = false → fl = false ∧ t.length + p.length = s.length) → K (.tup []) (H.set id (rdF data t b))) : ACalls Tryz.prog n_zq117 [.ptr id 0, .str p] H K := by
  refine zq117_ok fun hsc => ?_
  have h0 : H[id]? = some (.cells [.sl (data.map Dat.cs) .none, .str s, .bool fl]) := hid
  simp [zq117]
  refine take_any p s hs hp hid _ (fun t ht => ?_) fun hn => ?_
  · simp
    refine hK t fl (by rw [ht]; simp) fun h => ⟨h, by rw [ht]; simp; omega⟩
  · simp [h0, AV.known]
    exact hK s true (Nat.le_refl _) fun h => by cases h
def Fa (H : Heap) (id : Nat) : Prop := ∃ i, i ≠ id ∧ H[i]? = some (.fact EF)
theorem Fa.next {H J : Heap} {id : Nat} (h : Fa H id) (x : AB) : Fa (H.set id x ++ J) id := by
  obtain ⟨i, hne, hi⟩ := h
  have hl := lt_get hi
  refine ⟨i, hne, ?_⟩
  rw [List.getElem?_append_left (by simpa using hl), List.getElem?_set_ne (fun h => hne h.symm)]
  exact hi
theorem Fa.app {H J : Heap} {id : Nat} (h : Fa H id) : Fa (H ++ J) id := by
  obtain ⟨i, hne, hi⟩ := h
  exact ⟨i, hne, by rw [List.getElem?_append_left (lt_get hi)]; exact hi⟩
def RdAny (data : List Dat) (f : Nat) : Prop := ∀ t : VT, tyValid data 0 t = true → ∀ (H : Heap) (id : Nat) (s : List UInt8), s.length < f → s.length ≤ 1000000000 → H[id]? = some (rdF data s false) → Fa H id →
  ∀ K : Kt, (∀ (v : IT) s' b, s'.length ≤ s.length → (b = false → v.nodes + s'.length ≤ s.length) → K (.agg v.cs) (H.set id (rdF data s' b))) → ACalls Tryz.prog n_zq69 [.ptr id 0, .agg t.cs] H K
theorem css_snoc (vs : List IT) (v : IT) : IT.css (vs ++ [v]) = IT.css vs ++ [v.cs] := by
  rw [IT.css_map, IT.css_map]; simp
theorem nodesL_snoc : ∀ (vs : List IT) (v : IT), IT.nodesL (vs ++ [v]) = IT.nodesL vs + v.nodes
  | [], v => by simp [IT.nodesL]
  | w :: vs, v => by simp only [List.cons_append, IT.nodesL, nodesL_snoc vs v]; omega
theorem index_row_any {data : List Dat} {f : Nat} (hel : RdAny data f) (ts : List VT) (htl : ts.length ≤ 1000) (htv : ∀ t ∈ ts, tyValid data 0 t = true) (fl : Bool)
    (H : Heap) (id : Nat) (s : List UInt8) (hsf : s.length ≤ f) (hb : s.length ≤ 1000000000) (hid : H[id]? = some (rdF data s fl)) (hF : Fa H id) (K : Kt)
    (hK : ∀ (vs : List IT) s' b, s'.length ≤ s.length → (b = false → fl = false ∧ IT.nodesL vs + s'.length + 1 ≤ s.length) → K (.sl (IT.css vs) .none) (H.set id (rdF data s' b))) :
    ACalls Tryz.prog n_zq113 [.ptr id 0, .sl (VT.css ts) .none] H K := by
  refine ACalls.out (zq113_ok fun hs => ?_)
  have hl1 := lt_get hid
  simp [zq113]
  refine need_any [40] s hb (by simp) hid _ fun s1 b1 hs1 hb1 => ?_
  unfold zq113_l4
  refine ALoop.own 5 e_api_Index 2 rfl ?_
  have hl2 : (H.set id (rdF data s1 b1)).length = H.length := by simp
  rw [hl2]
  show zq113_l4 (.ptr id 0) (.sl [] (.own H.length)) (.sl (VT.css ts) .none) (.int .i64 ts.length) (.int .i64 0) _ (Out H.length K)
  have hO : ∀ (vs : List IT) s' b, s'.length ≤ s.length → (b = false → fl = false ∧ IT.nodesL vs + s'.length + 1 ≤ s.length) → ∀ X J, X = H.set id (rdF data s' b) ++ J → Out H.length K (.sl (IT.css vs) (.own H.length)) X := fun vs s' b h1 h2 X J h => by
    subst h
    exact Out.at rfl (by simp) (hs.set (rdF_sc _ _ _ _)) (slV (n := 0)).1 rfl rfl (hK vs s' b h1 h2)
  have hN : ∀ s', s'.length ≤ s.length → ∀ X J, X = H.set id (rdF data s' true) ++ J → Out H.length K .snil X := fun s' h1 X J h => by
    subst h
    exact Out.at rfl (by simp) (hs.set (rdF_sc _ _ _ _)) (snilV (n := 0)).1 rfl rfl (hK [] s' true h1 fun h => by cases h)
  refine zq113_loop4 (Inv := fun q t5 t12 H' => ∃ (i : Nat) (vs : List IT) (s2 : List UInt8) (b2 : Bool), i ≤ ts.length ∧ vs.length = i ∧ q = ts.length - i ∧ t12 = .int .i64 i ∧ t5 = .sl (IT.css vs) (.own H.length) ∧ s2.length ≤ s.length ∧
    (b2 = false → fl = false ∧ IT.nodesL vs + s2.length + 1 ≤ s.length) ∧ H' = H.set id (rdF data s2 b2) ++ [.perm e_api_Index 2 i]) ts.length ?_ ?_
  · intro _
    exact ⟨0, [], s1, b1, by omega, rfl, by omega, rfl, rfl, hs1, fun h => by
      obtain ⟨h1, h2⟩ := hb1 h
      simp at h2
      simp [IT.nodesL]
      exact ⟨h1, by omega⟩, by simp⟩
  · rintro q t5 t12 H' ⟨i, vs, s2, b2, hi, hvl, rfl, rfl, rfl, hs2, hb2, rfl⟩ hsc' hlen' hsF Kb hKb
    have hcl : (IT.css vs).length = i := by rw [IT.css_map]; simpa using hvl
    have hX0 : ∀ s b (J : Heap), (H.set id (rdF data s b) ++ J)[id]? = some (rdF data s b) := fun s b J => by simp [List.getElem?_append, hl1]
    have hX0' : ∀ s b (J : Heap), (H.set id (rdF data s b) ++ J)[id]? = some (.cells [.sl (data.map Dat.cs) .none, .str s, .bool b]) := hX0
    by_cases hlt : i < ts.length
    · have hti := htv _ (List.getElem_mem hlt)
      obtain ⟨x, y, z, hvx, hx, hy, hz⟩ := vt3' ts[i]
      have hnext : ∀ s3 b3, s3.length ≤ s.length → (b3 = false → fl = false ∧ IT.nodesL vs + s3.length + 1 ≤ s.length) →
          zq113_j1 (.ptr id 0) (.sl (IT.css vs) (.own H.length)) (.ptr (H.length + 1) 0) (.sl (VT.css ts) .none) (.int .i64 ts.length) (.int .i64 i) (H.set id (rdF data s3 b3) ++ [.perm e_api_Index 2 i, .cells [x, y, z]]) (Out H.length K) Kb := by
        intro s3 b3 hs3 hb3
        have hX1 : ∀ s b, (H.set id (rdF data s b) ++ [AB.perm e_api_Index 2 i, .cells [x, y, z]])[H.length + 1]? = some (.cells [x, y, z]) := fun s b => by simp [List.getElem?_append]
        cases b3 with
        | true =>
          simp [zq113_j1, hX0']
          exact hN s3 hs3 _ _ rfl
        | false =>
          obtain ⟨hfl, hn3⟩ := hb3 rfl
          simp [zq113_j1, hX0', hX1]
          rw [← hvx]
          refine hel ts[i] hti _ id s3 (by omega) (by omega) (hX0 _ _ _) (hF.next _) _ fun v s4 b4 hs4 hb4 => ?_
          rw [buildS_it, List.set_append_left _ _ (by simpa using hl1), List.set_set]
          have hc2 : v.cs.length = 2 := by obtain ⟨n, ks⟩ := v; rfl
          simp [aAppend, aSrc, aAppTo, hcl, hc2, List.set_append_right, List.set_append]
          refine ⟨by omega, ?_⟩
          rw [wrap_in (by omega) (by omega)]
          refine hKb _ _ ⟨ts.length - (i + 1), by omega, Back.at (J := [.cells [x, y, z]]) (H2 := H.set id (rdF data s4 b4) ++ [.perm e_api_Index 2 (i + 1)]) (by simp [hvx]) (by simp) ((hs.set (rdF_sc _ _ _ _)).append (by simp [AB.sc, AV.scA, AV.scB])) ?_ ⟨_, _, rfl, i + 1, vs ++ [v], s4, b4, by omega, by simp [hvl], rfl, by simp, by rw [css_snoc], by omega, fun h => ?_, rfl⟩⟩
          · simp [zq113_fr4, AV.sc, AV.scV, AV.scA, AV.scB]
            try omega
          · have := hb4 h
            rw [nodesL_snoc]
            exact ⟨hfl, by omega⟩
      by_cases h0 : i = 0
      · subst h0
        simp [zq113_b4, hlt, hvx, hx, hy, hz]
        exact hnext _ _ hs2 hb2
      · have hp : (0 : Int) < i := by omega
        simp [zq113_b4, hlt, hvx, hx, hy, hz, hp, show 0 < i by omega]
        refine need_any (data := data) (fl := b2) [44, 32] s2 (by omega) (by simp) (hX0 _ _ _) _ fun s3 b3 hs3 hb3 => ?_
        rw [List.set_append_left _ _ (by simpa using hl1), List.set_set]
        refine hnext s3 b3 (by omega) fun h => ?_
        obtain ⟨h1, h2⟩ := hb3 h
        obtain ⟨h4, h5⟩ := hb2 h1
        simp at h2
        exact ⟨h4, by omega⟩
    · obtain rfl : i = ts.length := by omega
      simp [zq113_b4]
      refine need_any (data := data) (fl := b2) [41] s2 (by omega) (by simp) (hX0 _ _ _) _ fun s3 b3 hs3 hb3 => ?_
      rw [List.set_append_left _ _ (by simpa using hl1), List.set_set]
      refine hO vs s3 b3 (by omega) (fun h => ?_) _ _ rfl
      obtain ⟨h1, h2⟩ := hb3 h
      obtain ⟨h4, h5⟩ := hb2 h1
      simp at h2
      exact ⟨h4, by omega⟩
end Go.Proofs.YtfpmdpldabopjaaGreatDoor
namespace Go.Proofs.YtfpmdpldabopjaaGreatDoor
open Go Go.Abs
set_option linter.unusedSimpArgs false
set_option linter.unusedVariables false
set_option maxRecDepth 8000
theorem tyValid_ok {data : List Dat} {t : VT} (ht : tyValid data 0 t = true) : tyOk data 0 t = true := by
  unfold tyValid at ht
  simp only [Bool.and_eq_true] at ht
  exact ht.2
theorem tyValid_nodes {data : List Dat} {t : VT} (ht : tyValid data 0 t = true) : t.nodes ≤ 1000 := by
  unfold tyValid at ht
  simp only [Bool.and_eq_true, decide_eq_true_eq] at ht
  omega
theorem tyValid_data {data : List Dat} {tn : Int} {tks : List VT} (ht : tyValid data 0 (.mk 5 tn tks) = true) : 0 ≤ tn ∧ tn.toNat < data.length := by
  have h := tyValid_ok ht
  simp only [tyOk, shapeOk, Bool.and_eq_true] at h
  have h1 := h.1
  simp at h1
  refine ⟨h1.1, ?_⟩
  have h2 := h1.2
  split at h2
  · rename_i d hd
    exact (List.getElem?_eq_some_iff.1 hd).1
  · simp at h2
theorem payT_len {data : List Dat} (hk : KData data) {t : VT} {c : Int} {ps : List VT} (h : payT data t c = some ps) : ps.length ≤ 1000 := by
  unfold payT at h
  cases hf : fields data t c with
  | none => rw [hf] at h; cases h
  | some l =>
    rw [hf] at h
    simp only [Option.map_some, Option.some.injEq] at h
    subst h
    have h1 := pick_len l ((recs data t.num.toNat).getD c.toNat [])
    obtain ⟨k, n, ks⟩ := t
    obtain ⟨_, n0, c0, hn, hc, _, hl, _⟩ := fields_some hf
    have h2 := ((kd_fields hk).2.1 _ (List.getElem_mem hn) _ (List.getElem_mem hc)).1
    rw [hl] at h1
    simp only [List.length_map] at h1
    rw [hl]
    exact Nat.le_trans h1 h2
theorem payT_valid {data : List Dat} (hk : KData data) (hD : dataOk data = true) {t : VT} (ht : tyValid data 0 t = true) {c : Int} {ps : List VT} (h : payT data t c = some ps) : (∀ x ∈ ps, tyValid data 0 x = true) ∧ ps.length ≤ 1000 := by
  refine ⟨?_, payT_len hk h⟩
  unfold payT at h
  cases hf : fields data t c with
  | none => rw [hf] at h; cases h
  | some l =>
    rw [hf] at h
    simp only [Option.map_some, Option.some.injEq] at h
    subst h
    exact fun x hx => fields_valid hD (tyValid_ok ht) hf x (pick_mem hx)
theorem take_drop_while (g : UInt8 → Bool) (s : List UInt8) : (∀ b ∈ s.takeWhile g, g b = true) ∧ ∀ b, (s.dropWhile g).head? = some b → g b = false := by
  induction s with
  | nil => simp
  | cons b s ih =>
    cases h : g b with
    | true =>
      simp only [List.takeWhile_cons, List.dropWhile_cons, h, if_true]
      refine ⟨fun x hx => ?_, ih.2⟩
      rcases List.mem_cons.1 hx with rfl | hx
      · exact h
      · exact ih.1 x hx
    | false =>
      simp only [List.takeWhile_cons, List.dropWhile_cons, h]
      refine ⟨by simp, fun x hx => ?_⟩
      simp at hx
      subst hx
      exact h
theorem word_any {data : List Dat} {fl : Bool} (f : Nat) (g : UInt8 → Bool) (hcall : callable Tryz.prog f = true) (hf : ∀ (b : UInt8) (H : Heap) (K : Kt), K (.bool (g b)) H → ACalls Tryz.prog f [.int .u8 b.toNat] H K)
    (s : List UInt8) (hl : s.length ≤ 1000000000) {H : Heap} {id : Nat} (hid : H[id]? = some (rdF data s fl)) (K : Kt) (hK : ∀ w t, w.length + t.length = s.length → K (.str w) (H.set id (rdF data t fl))) :
    ACalls Tryz.prog n_zq115 [.ptr id 0, .fn f []] H K := by
  have e := List.takeWhile_append_dropWhile (p := g) (l := s)
  obtain ⟨h1, h2⟩ := take_drop_while g s
  have e2 := congrArg List.length e
  simp only [List.length_append] at e2
  exact word_gen f g hcall hf _ _ h1 h2 (by rw [e]; exact hl) (by rw [e]; exact hid) K (hK _ _ e2)
theorem index_element_any {data : List Dat} (hk : KData data) (hD : dataOk data = true) {f : Nat} (hel : RdAny data f) (tn : Int) (tks : List VT) (ht : tyValid data 0 (.mk 5 tn tks) = true) (htn : (VT.mk 5 tn tks).nodes ≤ 1000) (hd0 : 0 ≤ tn) (hd1 : tn.toNat < data.length) (fl : Bool)
    (H : Heap) (id : Nat) (s : List UInt8) (hsf : s.length ≤ f) (hb : s.length ≤ 1000000000) (hid : H[id]? = some (rdF data s fl)) (hF : Fa H id) (K : Kt)
    (hK : ∀ (v : IT) s' b, s'.length ≤ s.length → (b = false → fl = false ∧ v.nodes + s'.length ≤ s.length) → K (.agg v.cs) (H.set id (rdF data s' b))) :
    ACalls Tryz.prog n_zq119 [.ptr id 0, .agg (VT.mk 5 tn tks).cs] H K := by
  refine ACalls.out (zq119_ok fun hs => ?_)
  have hl1 := lt_get hid
  obtain ⟨tn, rfl⟩ : ∃ x : Nat, tn = x := ⟨tn.toNat, by omega⟩
  simp only [Int.toNat_natCast] at hd1
  have hT' : (VT.mk 5 (tn : Int) tks).cs = [.int .i64 5, .int .i64 tn, .sl (VT.css tks) .none] := rfl
  have hcl := (kd_fields hk).2.2 _ (List.getElem_mem hd1)
  simp [zq119, VT.cs, Nat.add_assoc]
  refine word_any (data := data) (fl := fl) n_zq169 bIn callLetter letter_spec s hb (by rw [List.getElem?_append_left hl1]; exact hid) _ fun w s1 hw => ?_
  have hX0 : ∀ s b (J : Heap), (H.set id (rdF data s b) ++ J)[id]? = some (.cells [.sl (data.map Dat.cs) .none, .str s, .bool b]) := fun s b J => by simp [List.getElem?_append, hl1, rdF]
  have hset : ∀ b J, (H ++ J).set id b = H.set id b ++ J := fun b J => List.set_append_left _ _ hl1
  rw [hset]
  simp [hX0, hd1, Dat.cs, Nat.add_assoc, List.getElem?_append]
  have hsc1 : ∀ s b, HSc (H.set id (rdF data s b)) := fun s b => hs.set (rdF_sc _ _ _ _)
  have hfail : ∀ J, J.length = 0 ∨ True → zq119_j1 (.ptr id 0) (.ptr (H.length + 1) 0) (H.set id (rdF data s1 fl) ++ ([.cells [.int .i64 5, .int .i64 tn, .sl (VT.css tks) .none], .cells [.int .i64 0, .snil]] ++ J)) (Out H.length K) := by
    intro J _
    simp [zq119_j1, zq119_j2, hX0, aBuild, fillA, AV.known, List.set_append, hl1, List.getElem?_append, Nat.add_assoc]
    exact Out.at (H2 := H.set id (rdF data s1 true)) (b := .agg [.int .i64 0, .sl (IT.css []) .none]) rfl (by simp) (hsc1 _ _) (.agg ⟨.refl _, .snil, trivial⟩) rfl (by simp [AV.scV, AV.scA, AV.scB]) (by simpa [IT.cs] using hK (.mk 0 []) s1 true (by omega) fun h => by cases h)
  have hsc0 : HSc (H.set id (rdF data s1 fl) ++ [.cells [.int .i64 5, .int .i64 tn, .sl (VT.css tks) .none], .cells [.int .i64 0, .snil]]) := (hsc1 _ _).append (by simp [AB.sc, AV.scA, AV.scB])
  refine zq119_loop3 (Inv := fun q t23 H' => ∃ (i : Nat), i ≤ (data[tn]).cons.length ∧ q = (data[tn]).cons.length - i ∧ t23 = .int .i64 i ∧
    H' = H.set id (rdF data s1 fl) ++ [.cells [.int .i64 5, .int .i64 tn, .sl (VT.css tks) .none], .cells [.int .i64 0, .snil]]) (data[tn]).cons.length ?_ ?_
  · intro _; exact ⟨0, by omega, by omega, rfl, rfl⟩
  · rintro q t23 H' ⟨i, hi, rfl, rfl, rfl⟩ hsc' hlen' hsF Kb hKb
    by_cases hlt : i < (data[tn]).cons.length
    · by_cases hnm : ((data[tn]).cons[i]).name = w
      · have hne := (con_name hD hd1 hlt).1
        have hw1 : 1 ≤ w.length := by
          rw [← hnm]
          exact List.length_pos_iff.2 hne
        simp [zq119_b3, hlt, Con.cs, hX0, hnm]
        rw [← hT']
        refine aPureX_call (fieldsR (payT data (.mk 5 tn tks) i)) (fun J => zq107_spec data hk (.mk 5 tn tks) htn i _ _ ⟨rfl, rfl⟩) ?_
        cases hp : payT data (.mk 5 tn tks) i with
        | none =>
          simp [fieldsR, hT']
          have := hfail [.cells [.str w, .sl (VT.css ((data[tn]).cons[i]).args) .none]] (.inr trivial)
          simpa using this
        | some ps =>
          obtain ⟨hpv, hpl⟩ := payT_valid hk hD ht hp
          simp [fieldsR, hT']
          by_cases hz : ps.length = 0
          · have : ¬ 0 < ps.length := by omega
            simp [this, aBuild, fillA, zq119_j3, AV.known, List.set_append, List.getElem?_append]
            exact Out.at (H2 := H.set id (rdF data s1 fl)) (b := .agg [.int .i64 i, .sl (IT.css []) .none]) rfl (by simp) (hsc1 _ _) (.agg ⟨.refl _, .snil, trivial⟩) rfl (by simp [AV.scV, AV.scA, AV.scB])
              (by simpa [IT.cs] using hK (.mk i []) s1 fl (by omega) fun h => ⟨h, by simp [IT.nodes, IT.nodesL]; omega⟩)
          · have : 0 < ps.length := by omega
            simp [this, aBuild, fillA, AV.known, List.set_append, List.getElem?_append]
            refine index_row_any hel ps hpl hpv fl _ id s1 (by omega) (by omega) ?_ (hF.next _) _ fun vs s' b hs' hb' => ?_
            · simp [List.getElem?_append, hl1]
            · simp [zq119_j3, AV.known, List.set_append, hl1, List.getElem?_append, Nat.add_assoc]
              have hK2 := hK (.mk i vs) s' b (by omega) fun h => ⟨(hb' h).1, by have := (hb' h).2; simp only [IT.nodes]; omega⟩
              exact Out.at (H2 := H.set id (rdF data s' b)) (b := .agg [.int .i64 i, .sl (IT.css vs) .none]) rfl (by simp) (hsc1 _ _) .rfl' rfl (by simp [AV.scV, AV.scA, AV.scB]) (by simpa [IT.cs] using hK2)
      · have hdf' : (((data[tn]).cons[i]).name == w) = false := by simpa using hnm
        simp [zq119_b3, hlt, Con.cs, hdf', hnm]
        rw [wrap_in (by omega) (by omega)]
        refine hKb _ _ ⟨(data[tn]).cons.length - (i + 1), by omega, Back.at (J := [.cells [.str ((data[tn]).cons[i]).name, .sl (VT.css ((data[tn]).cons[i]).args) .none]]) (H2 := H.set id (rdF data s1 fl) ++ [.cells [.int .i64 5, .int .i64 tn, .sl (VT.css tks) .none], .cells [.int .i64 0, .snil]]) (by simp) (by simp) hsc0 ?_ ⟨_, rfl, i + 1, by omega, rfl, by simp, rfl⟩⟩
        simp [zq119_fr3, AV.sc, AV.scV, AV.scA, AV.scB]
        try omega
    · obtain rfl : i = (data[tn]).cons.length := by omega
      simp [zq119_b3, hlt]
      have := hfail [] (.inr trivial)
      simpa using this
end Go.Proofs.YtfpmdpldabopjaaGreatDoor
namespace Go.Proofs.YtfpmdpldabopjaaGreatDoor
open Go Go.Abs
set_option linter.unusedSimpArgs false
set_option linter.unusedVariables false
set_option maxRecDepth 8000
theorem index_index_any {data : List Dat} (hk : KData data) (hD : dataOk data = true) : ∀ (f : Nat), RdAny data f := by
  intro f
  induction f with
  | zero => intro t htv H id s hs; omega
  | succ f ih =>
    intro t htv H id s hsf hb hid hF K hK
    obtain ⟨tk, tn, tks⟩ := t
    refine ACalls.out (zq69_ok fun hs => ?_)
    have hl1 := lt_get hid
    have hsc1 : ∀ s b, HSc (H.set id (rdF data s b)) := fun s b => hs.set (rdF_sc _ _ _ _)
    have htn : (VT.mk tk tn tks).nodes ≤ 1000 := tyValid_nodes htv
    have hX : ∀ J : Heap, (H ++ J)[id]? = some (rdF data s false) := fun J => by rw [List.getElem?_append_left hl1]; exact hid
    have hX0 : ∀ s b (J : Heap), (H.set id (rdF data s b) ++ J)[id]? = some (rdF data s b) := fun s b J => by simp [List.getElem?_append, hl1]
    have hX0' : ∀ s b (J : Heap), (H.set id (rdF data s b) ++ J)[id]? = some (.cells [.sl (data.map Dat.cs) .none, .str s, .bool b]) := hX0
    have hset : ∀ b J, (H ++ J).set id b = H.set id b ++ J := fun b J => List.set_append_left _ _ hl1
    have hO : ∀ (n : Int) (vs : List IT) (s' : List UInt8) (b : Bool) (t : Tok), s'.length ≤ s.length → (b = false → IT.nodesL vs + 1 + s'.length ≤ s.length) → ∀ J, Out H.length K (.agg [.int .i64 n, .sl (IT.css vs) t]) (H.set id (rdF data s' b) ++ J) := fun n vs s' b t h1 h2 J =>
      Out.at (H2 := H.set id (rdF data s' b)) (b := .agg [.int .i64 n, .sl (IT.css vs) .none]) rfl (by simp) (hsc1 _ _) (.agg ⟨.refl _, .sl _ _, trivial⟩) rfl (by simp [AV.scV, AV.scA, AV.scB])
        (by simpa [IT.cs] using hK (.mk n vs) s' b h1 fun h => by simp only [IT.nodes]; have := h2 h; omega)
    have hO0 : ∀ (n : Int) (s' : List UInt8) (b : Bool), s'.length ≤ s.length → (b = false → 1 + s'.length ≤ s.length) → ∀ J, Out H.length K (.agg [.int .i64 n, .snil]) (H.set id (rdF data s' b) ++ J) := fun n s' b h1 h2 J =>
      Out.at (H2 := H.set id (rdF data s' b)) (b := .agg [.int .i64 n, .sl (IT.css []) .none]) rfl (by simp) (hsc1 _ _) (.agg ⟨.refl _, .snil, trivial⟩) rfl (by simp [AV.scV, AV.scA, AV.scB])
        (by simpa [IT.cs] using hK (.mk n []) s' b h1 fun h => by simp only [IT.nodes, IT.nodesL]; have := h2 h; omega)
    by_cases h6 : tk = 6
    · subst h6
      simp [zq69, VT.cs, Nat.add_assoc]
      have htl : tks.length ≤ 1000 := by
        have := VT.len_le tks
        simp [VT.nodes] at htn
        omega
      refine index_row_any ih tks htl (fun x hx => tyValid_kids htv x hx) false _ id s (by omega) hb (hX _) hF.app _ fun vs s' b hs' hb' => ?_
      rw [hset]
      simp [zq69_j1, zq69_j2, AV.known, List.set_append, hl1, List.getElem?_append, Nat.add_assoc]
      exact hO 0 vs s' b .none hs' (fun h => by have := (hb' h).2; omega) _
    have h6' : (tk == 6) = false := by simp [h6]
    by_cases h7 : tk = 7
    · subst h7
      simp [zq69, VT.cs, Nat.add_assoc]
      refine word_any (data := data) (fl := false) n_zq116 bDig callDigit digit_spec s hb (hX _) _ fun w s1 hw => ?_
      rw [hset]
      obtain ⟨fi, _, hfi⟩ := (hF.next (J := [AB.cells [.int .i64 7, .int .i64 tn, .sl (VT.css tks) .none], .cells [.int .i64 0, .snil], .cells [.int .i64 0, .snil]]) (rdF data s1 false))
      refine Atoi_any w (by omega) _ fi hfi _ (fun hne n => ?_) fun n => ?_
      · have hw1 : 1 ≤ w.length := List.length_pos_iff.2 hne
        simp [zq69_j3, zq69_j1, zq69_j2, AV.known, List.set_append, hl1, List.getElem?_append, Nat.add_assoc]
        exact hO0 n s1 false (by omega) (fun _ => by omega) _
      · simp [hX0', zq69_j3, zq69_j1, zq69_j2, AV.known, List.set_append, hl1, List.getElem?_append, Nat.add_assoc]
        exact hO0 n s1 true (by omega) (fun h => by cases h) _
    have h7' : (tk == 7) = false := by simp [h7]
    by_cases h5 : tk = 5
    case neg =>
      have h5' : (tk == 5) = false := by simp [h5]
      simp [zq69, VT.cs, Nat.add_assoc, h6', h7', h5']
      refine need_any (data := data) (fl := false) [42] s hb (by simp) (hX _) _ fun s1 b1 hs1 hb1 => ?_
      rw [hset]
      simp [zq69_j3, zq69_j1, zq69_j2, AV.known, List.set_append, hl1, List.getElem?_append, Nat.add_assoc]
      exact hO0 0 s1 b1 hs1 (fun h => by have := (hb1 h).2; simp at this; omega) _
    subst h5
    obtain ⟨hd0, hd1⟩ := tyValid_data htv
    have hT' : (VT.mk 5 tn tks).cs = [.int .i64 5, .int .i64 tn, .sl (VT.css tks) .none] := rfl
    simp [zq69, VT.cs, Nat.add_assoc]
    refine need_any (data := data) (fl := false) [91] s hb (by simp) (hX _) _ fun s1 b1 hs1 hb1 => ?_
    unfold zq69_l13
    refine ALoop.ownC (H.length + 2) 1 e_api_Index 2 (cs := [.int .i64 0, .snil]) (by simp [List.set_append, hl1, List.getElem?_append]) rfl ?_
    have hset2 : ((H ++ [AB.cells [.int .i64 5, .int .i64 tn, .sl (VT.css tks) .none], .cells [.int .i64 0, .snil], .cells [.int .i64 0, .snil]]).set id (rdF data s1 b1)).set (H.length + 2) (.cells ([AV.int .i64 0, .snil].set 1 (.sl [] (.own ((H ++ [AB.cells [.int .i64 5, .int .i64 tn, .sl (VT.css tks) .none], .cells [.int .i64 0, .snil], .cells [.int .i64 0, .snil]]).set id (rdF data s1 b1)).length)))) ++ [.perm e_api_Index 2 0] =
        H.set id (rdF data s1 b1) ++ [AB.cells [.int .i64 5, .int .i64 tn, .sl (VT.css tks) .none], .cells [.int .i64 0, .snil], .cells [.int .i64 0, .sl [] (.own (H.length + 3))], .perm e_api_Index 2 0] := by
      simp [List.set_append, hl1]
    rw [hset2]
    show zq69_l13 (.ptr id 0) (.ptr H.length 0) (.ptr (H.length + 1) 0) (.ptr (H.length + 2) 0) _ (Out H.length K)
    refine zq69_loop13 (Inv := fun q H' => ∃ (i : Nat) (vs : List IT) (s2 : List UInt8) (b2 : Bool), vs.length = i ∧ i ≤ 7 ∧ q = (if b2 then 0 else s2.length + 1) ∧ s2.length ≤ s.length ∧ (b2 = false → i ≤ 6 ∧ IT.nodesL vs + 1 + s2.length ≤ s.length) ∧
      H' = H.set id (rdF data s2 b2) ++ [AB.cells [.int .i64 5, .int .i64 tn, .sl (VT.css tks) .none], .cells [.int .i64 0, .snil], .cells [.int .i64 0, .sl (IT.css vs) (.own (H.length + 3))], .perm e_api_Index 2 i]) (if b1 then 0 else s1.length + 1) ?_ ?_
    · intro _
      exact ⟨0, [], s1, b1, rfl, by omega, rfl, hs1, fun h => by have := (hb1 h).2; simp at this; simp [IT.nodesL]; omega, by simp [IT.css]⟩
    · rintro q H' ⟨i, vs, s2, b2, hvl, hi7, rfl, hs2, hb2, rfl⟩ hsc' hlen hsF Kb hKb
      have hcl : (IT.css vs).length = i := by rw [IT.css_map]; simpa using hvl
      have hend : ∀ s' b, s'.length ≤ s.length → (b = false → IT.nodesL vs + 1 + s'.length ≤ s.length) → zq69_j1 (.ptr (H.length + 1) 0) (.ptr (H.length + 2) 0) (H.set id (rdF data s' b) ++ [AB.cells [.int .i64 5, .int .i64 tn, .sl (VT.css tks) .none], .cells [.int .i64 0, .snil], .cells [.int .i64 0, .sl (IT.css vs) (.own (H.length + 3))], .perm e_api_Index 2 i]) (Out H.length K) := by
        intro s' b h1 h2
        simp [zq69_j1, zq69_j2, AV.known, List.set_append, hl1, List.getElem?_append, Nat.add_assoc]
        exact hO 0 vs s' b _ h1 h2 _
      cases b2 with
      | true =>
        simp [zq69_b13, hX0']
        exact hend s2 true hs2 fun h => by cases h
      | false =>
        obtain ⟨hi6, hn2⟩ := hb2 rfl
        simp [zq69_b13, hX0']
        refine take_any (data := data) (fl := false) [93] s2 (by omega) (by simp) (hX0 _ _ _) _ (fun s3 hs3 => ?_) fun _ => ?_
        · rw [List.set_append_left _ _ (by simpa using hl1), List.set_set]
          have h3 : s3.length ≤ s2.length := by rw [hs3]; simp
          simp
          exact hend s3 false (by omega) fun _ => by omega
        · have hnext : ∀ s3 b3, s3.length ≤ s2.length → zq69_j4 (.ptr id 0) (.ptr H.length 0) (.ptr (H.length + 1) 0) (.ptr (H.length + 2) 0) (H.set id (rdF data s3 b3) ++
              [AB.cells [.int .i64 5, .int .i64 tn, .sl (VT.css tks) .none], .cells [.int .i64 0, .snil], .cells [.int .i64 0, .sl (IT.css vs) (.own (H.length + 3))], .perm e_api_Index 2 i]) (Out H.length K) Kb := by
            intro s3 b3 hs3
            have hE : ∀ (K' : Kt), (∀ (v : IT) s4 b4, s4.length ≤ s3.length → (b4 = false → b3 = false ∧ v.nodes + s4.length ≤ s3.length) → K' (.agg v.cs) (H.set id (rdF data s4 b4) ++ [AB.cells [.int .i64 5, .int .i64 tn, .sl (VT.css tks) .none], .cells [.int .i64 0, .snil], .cells [.int .i64 0, .sl (IT.css vs) (.own (H.length + 3))], .perm e_api_Index 2 i])) →
                ACalls Tryz.prog n_zq119 [.ptr id 0, .agg (VT.mk 5 tn tks).cs] (H.set id (rdF data s3 b3) ++
                  [AB.cells [.int .i64 5, .int .i64 tn, .sl (VT.css tks) .none], .cells [.int .i64 0, .snil], .cells [.int .i64 0, .sl (IT.css vs) (.own (H.length + 3))], .perm e_api_Index 2 i]) K' := by
              intro K' hK'
              refine index_element_any hk hD ih tn tks htv htn hd0 hd1 b3 _ id s3 (by omega) (by omega) (hX0 _ _ _) (hF.next _) _ fun v s4 b4 h1 h2 => ?_
              rw [List.set_append_left _ _ (by simpa using hl1), List.set_set]
              exact hK' v s4 b4 h1 h2
            have hfin : ∀ (v : IT) s4 b4, s4.length ≤ s3.length → (b4 = false → b3 = false ∧ v.nodes + s4.length ≤ s3.length) → (b4 = false → i + 1 ≤ 6) → Kb (zq69_fr13 (.ptr id 0) (.ptr H.length 0) (.ptr (H.length + 1) 0) (.ptr (H.length + 2) 0)) (H.set id (rdF data s4 b4) ++ [AB.cells [.int .i64 5, .int .i64 tn, .sl (VT.css tks) .none], .cells [.int .i64 0, .snil], .cells [.int .i64 0, .sl (IT.css vs ++ [v.cs]) (.own (H.length + 3))], .perm e_api_Index 2 (i + 1)]) := by
              intro v s4 b4 h1 h2 h3
              have hvn := v.nodes_pos
              rw [← css_snoc]
              refine hKb _ _ ⟨(if b4 then 0 else s4.length + 1), ?_, Back.here (by simp) ((hsc1 _ _).append (by simp [AB.sc, AV.scA, AV.scB])) ?_ ⟨rfl, i + 1, vs ++ [v], s4, b4, by simp [hvl], by omega, rfl, by omega, fun h => ⟨h3 h, ?_⟩, rfl⟩⟩
              · cases b4 with
                | true => simp
                | false =>
                  have := (h2 rfl).2
                  simp
                  omega
              · simp [zq69_fr13, AV.sc, AV.scV, AV.scA, AV.scB]
                try omega
              · have := (h2 h).2
                rw [nodesL_snoc]
                omega
            have hfin2 : ∀ (v : IT) s4 b4, s4.length ≤ s3.length → (b4 = false → b3 = false ∧ v.nodes + s4.length ≤ s3.length) → zq69_j5 (.ptr id 0) (.ptr H.length 0) (.ptr (H.length + 1) 0) (.ptr (H.length + 2) 0) (H.set id (rdF data s4 b4) ++ [AB.cells [.int .i64 5, .int .i64 tn, .sl (VT.css tks) .none], .cells [.int .i64 0, .snil], .cells [.int .i64 0, .sl (IT.css vs ++ [v.cs]) (.own (H.length + 3))], .perm e_api_Index 2 (i + 1)]) (Out H.length K) Kb := by
              intro v s4 b4 h1 h2
              have hl7 : (IT.css vs ++ [v.cs]).length = i + 1 := by simp [hcl]
              by_cases hgt : 6 < i + 1
              · have hgt' : (6 : Int) < (i : Int) + 1 := by omega
                simp [zq69_j5, zq69_j6, hX0', List.getElem?_append, List.set_append, hl1, hcl, hgt, hgt']
                exact hfin v s4 true h1 (fun h => by cases h) fun h => by cases h
              · have hgt' : ¬ (6 : Int) < (i : Int) + 1 := by omega
                simp [zq69_j5, zq69_j6, hX0', List.getElem?_append, List.set_append, hl1, hcl, hgt, hgt']
                exact hfin v s4 b4 h1 h2 fun _ => by omega
            have hc2 : ∀ v : IT, v.cs.length = 2 := fun v => by obtain ⟨n, ks⟩ := v; rfl
            refine zq69_j4_ok fun _ => ?_
            simp [zq69_j4b, List.getElem?_append, hl1]
            rw [← hT']
            refine ⟨hE _ fun v s4 b4 h1 h2 => ?_, hE _ fun v s4 b4 h1 h2 => ⟨?_, ?_⟩⟩
            · rw [buildS_it]
              simp [aAppend, aSrc, aAppTo, hcl, hc2, List.set_append, List.getElem?_append, show ¬ H.length + 3 < H.length by omega, show ¬ H.length + 2 < H.length by omega]
              exact ⟨⟨by omega, by omega⟩, hfin2 v s4 b4 h1 h2⟩
            · simp [List.getElem?_append]
              rw [buildS_it]
              simp [aAppend, aSrc, aAppTo, hcl, hc2, List.set_append, List.getElem?_append, show ¬ H.length + 3 < H.length by omega, show ¬ H.length + 2 < H.length by omega]
              exact ⟨⟨by omega, by omega⟩, hfin2 v s4 b4 h1 h2⟩
            · rw [buildS_it]
              simp [aAppend, aSrc, aAppTo, hcl, hc2, List.set_append, List.getElem?_append, show ¬ H.length + 3 < H.length by omega, show ¬ H.length + 2 < H.length by omega]
              exact ⟨⟨by omega, by omega⟩, hfin2 v s4 b4 h1 h2⟩
          by_cases h0 : i = 0
          · have h1 : ¬ (0 : Int) < i := by omega
            have h1' : ¬ 0 < i := by omega
            simp [List.getElem?_append, hcl, h1, h1']
            exact hnext s2 false (Nat.le_refl _)
          · have h1 : (0 : Int) < i := by omega
            have h1' : 0 < i := by omega
            simp [List.getElem?_append, hcl, h1, h1']
            refine need_any (data := data) (fl := false) [44, 32] s2 (by omega) (by simp) (hX0 _ _ _) _ fun s3 b3 hs3 hb3 => ?_
            rw [List.set_append_left _ _ (by simpa using hl1), List.set_set]
            exact hnext s3 b3 hs3
theorem zq33_none (data : List Dat) (hk : KData data) (t : VT) (ht : t.nodes ≤ 1000) (s : List UInt8) (hb : s.length ≤ 900) (hno : ¬ ∃ v : IT, v.nodes ≤ 900 ∧ 0 ≤ degI data t v ∧ s = fmtV data v t) (H : Heap) (i : Nat) (hf : H[i]? = some (.fact EF)) (K : Kt) (hK : K (.tup [.agg (IT.mk 0 []).cs, .bool false]) H) :
    ACalls Tryz.prog n_zq33 [.sl (data.map Dat.cs) .none, .agg t.cs, .str s] H K := by
  refine ACalls.out (zq33_ok fun hs => ?_)
  obtain ⟨x, y, z, hvx, hx, hy, hz⟩ := vt3' t
  have hlf := lt_get hf
  have hO : ∀ J, Out H.length K (.tup [.agg [.int .i64 0, .snil], .bool false]) (H ++ J) := fun J => Out.tup (bs := [.agg [.int .i64 0, .sl (IT.css []) .none], .bool false]) hs (by simpa [IT.cs] using hK) ⟨⟨.agg ⟨.refl _, .snil, trivial⟩, rfl, by simp [AV.scV, AV.scA, AV.scB]⟩, keepV rfl rfl, trivial⟩
  simp [zq33, hvx, Nat.add_assoc]
  rw [← hvx]
  refine zq59_spec data hk t (by omega) _ _ ?_
  cases hfv : fineV data t with
  | false =>
    simp [aBuild, fillA, AV.known, List.getElem?_append, Nat.add_assoc]
    exact ⟨⟨rfl, rfl⟩, hO _⟩
  | true =>
    have hD : dataOk data = true := by
      unfold fineV at hfv
      simp only [Bool.and_eq_true] at hfv
      exact hfv.1
    have htv : tyValid data 0 t = true := by
      unfold fineV at hfv
      simp only [Bool.and_eq_true] at hfv
      exact hfv.2
    simp [aBuild, fillA, AV.known, hvx, hx, hy, hz, List.getElem?_append, Nat.add_assoc]
    rw [← hvx]
    refine index_index_any hk hD (s.length + 1) t htv _ (H.length + 2) s (by omega) (by omega) (by simp [rdF]) ⟨i, by omega, by rw [List.getElem?_append_left hlf]; exact hf⟩ _ fun v s' b hs' hb' => ?_
    obtain ⟨x2, y2, hvx2, hx2, hy2⟩ := it2 v
    cases b with
    | true =>
      simp [rdF, hvx2, hx2, hy2, hx, hy, hz, List.getElem?_append, List.set_append, Nat.add_assoc, aBuild, fillA]
      exact ⟨⟨rfl, rfl⟩, hO _⟩
    | false =>
      have hn := hb' rfl
      by_cases hz' : s' = []
      · subst hz'
        simp [rdF, hvx2, hx2, hy2, hx, hy, hz, List.getElem?_append, List.set_append, Nat.add_assoc]
        rw [← hvx2]
        refine zq28_spec data hk t ht v (by simp at hn; omega) _ _ ?_
        have hne : fmtI data t v ≠ s := by
          intro he
          unfold fmtI at he
          split at he
          · rename_i hd
            exact hno ⟨v, by simp at hn; omega, hd, he.symm⟩
          · subst he
            have := v.nodes_pos
            simp at hn
            omega
        have hne' : (fmtI data t v == s) = false := by simpa using hne
        simp [hne, hne', hvx2, hx2, hy2, List.getElem?_append, List.set_append, Nat.add_assoc, aBuild, fillA]
        exact ⟨⟨rfl, rfl⟩, hO _⟩
      · have hie : s'.isEmpty = false := by cases s' with
          | nil => exact absurd rfl hz'
          | cons a l => rfl
        simp [rdF, hvx2, hx2, hy2, hx, hy, hz, hz', hie, List.getElem?_append, List.set_append, Nat.add_assoc, aBuild, fillA]
        exact ⟨⟨rfl, rfl⟩, hO _⟩
end Go.Proofs.YtfpmdpldabopjaaGreatDoor
